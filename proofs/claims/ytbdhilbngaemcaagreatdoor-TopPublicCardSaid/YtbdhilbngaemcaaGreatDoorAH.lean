/- Operations on texts that are unknown in part. No condition. -/
import Derived.Test.YtbdhilbngaemcaaGreatDoorAE
set_option linter.unusedVariables false
set_option linter.unusedSimpArgs false
namespace Go.AH
open Go
set_option linter.unusedVariables false
set_option linter.unusedSimpArgs false
section
variable {P : Program} {F : Fr} {β : Nat → Nat} {w : World} {h : Heap} {c : Ctx}
/-! ### texts of which little is known -/
theorem decB_len (n : Nat) : 1 ≤ (decB n).length ∧ (decB n).length ≤ 3 := by unfold decB; split <;> (try split) <;> simp
theorem dotB_len (V : Val) (j : Nat) : 7 ≤ (dotB V j).length ∧ (dotB V j).length ≤ 15 := by
  unfold dotB
  have h1 := decB_len (V.oct j 0)
  have h2 := decB_len (V.oct j 1)
  have h3 := decB_len (V.oct j 2)
  have h4 := decB_len (V.oct j 3)
  simp only [List.length_append, List.length_cons]
  omega
def lens : AV → Option (Nat × Nat)
  | .str s => some (s.length, s.length)
  | .sym l => some (l.length, l.length)
  | .txt p j => some (p.length + 7, p.length + 15)
  | .bstr lo hi => some (lo, hi)
  | _ => none
theorem lens_rel {x : AV} {lo hi : Nat} {u : Value} (h : lens x = some (lo, hi)) (r : Rel c x u) : ∃ s : List UInt8, u = .string ⟨s.toArray⟩ ∧ lo ≤ s.length ∧ s.length ≤ hi := by
  cases x <;> simp only [lens, reduceCtorEq, Option.some.injEq, Prod.mk.injEq] at h <;> obtain ⟨rfl, rfl⟩ := h
  · obtain ⟨s, rfl, q⟩ := r
    have q : SymOk c s _ := q
    exact ⟨s, rfl, by rw [q.length]; exact ⟨Nat.le_refl _, Nat.le_refl _⟩⟩
  · have := dotB_len c.V ‹Nat›
    exact ⟨_, r, by rw [List.length_append]; omega, by rw [List.length_append]; omega⟩
  · exact r
  · exact ⟨_, r, Nat.le_refl _, Nat.le_refl _⟩
def txtBin (op : BinOp) (x y : AV) : Option AV := match lens x, lens y with
  | some (l1, h1), some (l2, h2) => match op with
    | .add => if h1 + h2 ≤ 1099511627776 then (match x, y with
      | .str a, .txt p j => some (.txt (a ++ p) j)
      | .txt p j, .str [] => some (.txt p j)
      | _, _ => some (.bstr (l1 + l2) (h1 + h2))) else none
    | .eql => match eqT x y with
      | some b => some (.bool b)
      | none => some .anyb
    | .neq => match eqT x y with
      | some b => some (.bool !b)
      | none => some .anyb
    | _ => none
  | _, _ => none
theorem guardEq_lens {t : TypeId} {lit : Bool} {x y : AV} {a b : Nat × Nat} (hx : lens x = some a) (hy : lens y = some b) : aGuardEq P t lit x y = true := by
  cases x <;> simp only [lens, reduceCtorEq] at hx <;> cases y <;> simp only [lens, reduceCtorEq] at hy <;> rfl
theorem run_txtBin {op : BinOp} {t : TypeId} {a b : Operand} {x y v : AV} {u q : Value} (h : txtBin op x y = some v) (rx : Rel c x u) (ry : Rel c y q) (w : World) :
    ∃ v', (eqGuard op t a b u q >>= fun _ => binOp op t u q).run P w = .ok v' w ∧ Rel c v v' := by
  unfold txtBin at h
  split at h <;> try (cases h; done)
  rename_i l1 h1 l2 h2 hx hy
  have hg := run_eqGuard (P := P) (op := op) (t := t) (a := a) (b := b) (guardEq_lens hx hy) rx ry w
  obtain ⟨s, rfl, p1, p2⟩ := lens_rel hx rx
  obtain ⟨s', rfl, q1, q2⟩ := lens_rel hy ry
  have inj : ∀ {a b : List UInt8}, Value.string ⟨a.toArray⟩ = .string ⟨b.toArray⟩ → a = b := by
    intro a b e
    injection e with e
    injection e with e
    simpa using congrArg Array.toList e
  have main : ∃ v', (binOp op t (.string ⟨s.toArray⟩) (.string ⟨s'.toArray⟩)).run P w = .ok v' w ∧ Rel c v v' := by
    split at h
    · split at h <;> try (cases h; done)
      rename_i hl
      obtain ⟨v', h1, h2⟩ := run_strOp (P := P) (c := c) (op := .add) (x := s) (y := s') (v := .str (s ++ s')) (by simp only [aStr]; rw [if_pos (by omega)]) t w
      simp only [Rel] at h2
      subst h2
      refine ⟨_, h1, ?_⟩
      split at h <;> simp only [Option.some.injEq] at h <;> subst h
      · have e1 := inj rx
        have e2 := inj ry
        rw [e1, e2, ← List.append_assoc]
        exact rfl
      · have e1 := inj rx
        have e2 := inj ry
        rw [e1, e2, List.append_nil]
        exact rfl
      · exact ⟨_, rfl, by rw [List.length_append]; omega, by rw [List.length_append]; omega⟩
    · split at h <;> simp only [Option.some.injEq] at h <;> subst h
      · rename_i b hb
        exact run_strOp (P := P) (c := c) (op := .eql) (x := s) (y := s') (v := .bool b) (by simp only [aStr]; rw [eqT_ok hb rx ry]) t w
      · obtain ⟨v', h1, h2⟩ := run_strOp (P := P) (c := c) (op := .eql) (x := s) (y := s') (v := .bool (s == s')) rfl t w
        exact ⟨v', h1, _, h2⟩
    · split at h <;> simp only [Option.some.injEq] at h <;> subst h
      · rename_i b hb
        exact run_strOp (P := P) (c := c) (op := .neq) (x := s) (y := s') (v := .bool !b) (by simp only [aStr]; rw [eqT_ok hb rx ry]) t w
      · obtain ⟨v', h1, h2⟩ := run_strOp (P := P) (c := c) (op := .neq) (x := s) (y := s') (v := .bool !(s == s')) rfl t w
        exact ⟨v', h1, _, h2⟩
    · cases h
  obtain ⟨v', h1, h2⟩ := main
  exact ⟨v', by simp only [Sem.run_bind, hg, Result.andThen_ok, h1], h2⟩
/-! ### a bit is struck from a byte -/
def bitE (m : Int) (e : List Int) : List Int := subL e (mulL m (remL 2 (divL m e)))
def bitBin (op : BinOp) (x y : AV) : Option AV := match op, x, y with
  | .andNot, .lin .u8 e, .int .u8 m => if (m = 1 ∨ m = 2 ∨ m = 4 ∨ m = 8 ∨ m = 16 ∨ m = 32 ∨ m = 64 ∨ m = 128) ∧ divOk m e = true ∧ divOk 2 (divL m e) = true ∧ fits .u8 e = true then some (mkLin .u8 (bitE m e)) else none
  | .or, .lin .u8 e, .int .u8 m => if m = 0 ∧ fits .u8 e = true then some (.lin .u8 e) else none
  | _, _, _ => none
theorem andNot_all : ∀ x : Fin 256, ∀ b : Fin 8, (BitVec.ofNat 8 x.1 &&& ~~~ BitVec.ofNat 8 (2 ^ b.1)).toNat = x.1 - 2 ^ b.1 * (x.1 / 2 ^ b.1 % 2) := by decide +kernel
theorem or_all : ∀ x : Fin 256, (BitVec.ofNat 8 x.1 ||| BitVec.ofNat 8 0).toNat = x.1 := by decide +kernel
theorem run_bitBin {op : BinOp} {t : TypeId} {a b : Operand} {x y v : AV} {u q : Value} (h : bitBin op x y = some v) (rx : Rel c x u) (ry : Rel c y q) (w : World) :
    ∃ v', (eqGuard op t a b u q >>= fun _ => binOp op t u q).run P w = .ok v' w ∧ Rel c v v' := by
  unfold bitBin at h
  split at h <;> try (cases h; done)
  · rename_i e m
    split at h <;> simp only [Option.some.injEq, reduceCtorEq] at h
    rename_i hc
    obtain ⟨hm, d1, d2, hf⟩ := hc
    subst h
    have hg := run_eqGuard (P := P) (op := .andNot) (t := t) (a := a) (b := b) (x := .lin .u8 e) (y := .int .u8 m) rfl rx ry w
    have e1 : u = .int .u8 (linV c.V.ρ e) := rx
    have e2 : q = .int .u8 m := ry
    subst e1 e2
    simp only [fits, Bool.and_eq_true, decide_eq_true_eq] at hf
    have bd := linV_bound c.V e
    have lo : 0 ≤ linV c.V.ρ e := by have : IntKind.u8.min = 0 := rfl; omega
    have hi : linV c.V.ρ e ≤ 255 := by have : IntKind.u8.max = 255 := rfl; omega
    obtain ⟨m0, t1, _⟩ := divOk_val c.V d1
    obtain ⟨_, _, t2⟩ := divOk_val c.V d2
    obtain ⟨bb, hbb, rfl⟩ : ∃ b : Nat, b < 8 ∧ m = ((2 ^ b : Nat) : Int) := by
      rcases hm with rfl | rfl | rfl | rfl | rfl | rfl | rfl | rfl
      · exact ⟨0, by omega, rfl⟩
      · exact ⟨1, by omega, rfl⟩
      · exact ⟨2, by omega, rfl⟩
      · exact ⟨3, by omega, rfl⟩
      · exact ⟨4, by omega, rfl⟩
      · exact ⟨5, by omega, rfl⟩
      · exact ⟨6, by omega, rfl⟩
      · exact ⟨7, by omega, rfl⟩
    obtain ⟨n, hn⟩ : ∃ n : Nat, linV c.V.ρ e = n := ⟨(linV c.V.ρ e).toNat, by omega⟩
    have hn255 : n < 256 := by omega
    have key := andNot_all ⟨n, hn255⟩ ⟨bb, hbb⟩
    simp only at key
    have hval : linV c.V.ρ (bitE ((2 ^ bb : Nat) : Int) e) = ((n - 2 ^ bb * (n / 2 ^ bb % 2) : Nat) : Int) := by
      unfold bitE
      rw [linV_sub, linV_mul, ← t2, ← t1, hn]
      have q1 : ((n : Int).tdiv ((2 ^ bb : Nat) : Int)).tmod 2 = ((n / 2 ^ bb % 2 : Nat) : Int) := rfl
      rw [q1]
      have q2 : 2 ^ bb * (n / 2 ^ bb % 2) ≤ n := by
        have := Nat.mul_div_le n (2 ^ bb)
        have : n / 2 ^ bb % 2 ≤ n / 2 ^ bb := Nat.mod_le _ _
        exact Nat.le_trans (Nat.mul_le_mul_left _ this) (Nat.mul_div_le n (2 ^ bb))
      rw [Int.natCast_sub q2, Int.natCast_mul]
    have hr : aInt .andNot .u8 (linV c.V.ρ e) ((2 ^ bb : Nat) : Int) = some (.int .u8 (linV c.V.ρ (bitE ((2 ^ bb : Nat) : Int) e))) := by
      simp only [aInt]
      rw [hval, hn]
      have hb1 : BitVec.ofInt IntKind.u8.bits (n : Int) = BitVec.ofNat 8 n := by simp [IntKind.bits]
      have hb2 : BitVec.ofInt IntKind.u8.bits ((2 ^ bb : Nat) : Int) = BitVec.ofNat 8 (2 ^ bb) := BitVec.ofInt_natCast 8 (2 ^ bb)
      rw [hb1, hb2]
      have key' : ((BitVec.ofNat 8 n &&& ~~~ BitVec.ofNat 8 (2 ^ bb)).toNat : Int) = ((n - 2 ^ bb * (n / 2 ^ bb % 2) : Nat) : Int) := by rw [key]
      have : IntKind.u8.wrap ((BitVec.ofNat 8 n &&& ~~~ BitVec.ofNat 8 (2 ^ bb)).toNat : Int) = ((n - 2 ^ bb * (n / 2 ^ bb % 2) : Nat) : Int) := by
        rw [key']
        refine wrap_in ?_ ?_
        · show (0 : Int) ≤ _; omega
        · show _ ≤ (255 : Int); omega
      exact congrArg some (congrArg (AV.int .u8) this)
    obtain ⟨v', h3, h4⟩ := run_intOp (P := P) (c := c) hr t w
    refine ⟨v', by simp only [Sem.run_bind, hg, Result.andThen_ok, h3], ?_⟩
    simp only [Rel] at h4
    subst h4
    exact mkLin_rel c .u8 _
  · rename_i e m
    split at h <;> simp only [Option.some.injEq, reduceCtorEq] at h
    rename_i hc
    obtain ⟨rfl, hf⟩ := hc
    subst h
    have hg := run_eqGuard (P := P) (op := .or) (t := t) (a := a) (b := b) (x := .lin .u8 e) (y := .int .u8 0) rfl rx ry w
    have e1 : u = .int .u8 (linV c.V.ρ e) := rx
    have e2 : q = .int .u8 0 := ry
    subst e1 e2
    simp only [fits, Bool.and_eq_true, decide_eq_true_eq] at hf
    have bd := linV_bound c.V e
    have lo : 0 ≤ linV c.V.ρ e := by have : IntKind.u8.min = 0 := rfl; omega
    have hi : linV c.V.ρ e ≤ 255 := by have : IntKind.u8.max = 255 := rfl; omega
    obtain ⟨n, hn⟩ : ∃ n : Nat, linV c.V.ρ e = n := ⟨(linV c.V.ρ e).toNat, by omega⟩
    have key := or_all ⟨n, by omega⟩
    simp only at key
    have hr : aInt .or .u8 (linV c.V.ρ e) 0 = some (.int .u8 (linV c.V.ρ e)) := by
      simp only [aInt]
      rw [hn]
      have hb1 : BitVec.ofInt IntKind.u8.bits (n : Int) = BitVec.ofNat 8 n := by simp [IntKind.bits]
      have hb2 : BitVec.ofInt IntKind.u8.bits (0 : Int) = BitVec.ofNat 8 0 := by simp [IntKind.bits]
      rw [hb1, hb2]
      have : IntKind.u8.wrap ((BitVec.ofNat 8 n ||| BitVec.ofNat 8 0).toNat : Int) = (n : Int) := by
        rw [key]
        refine wrap_in ?_ ?_
        · show (0 : Int) ≤ _; omega
        · show _ ≤ (255 : Int); omega
      exact congrArg some (congrArg (AV.int .u8) this)
    obtain ⟨v', h3, h4⟩ := run_intOp (P := P) (c := c) hr t w
    exact ⟨v', by simp only [Sem.run_bind, hg, Result.andThen_ok, h3], h4⟩
end
end Go.AH
namespace Go.AH
open Go
set_option linter.unusedVariables false
set_option linter.unusedSimpArgs false
section
variable {P : Program} {F : Fr} {β : Nat → Nat} {w : World} {h : Heap} {c : Ctx}
/-! ### bytes of which nothing is known -/
def IsB (v : Value) : Prop := ∃ n : Nat, v = .int .u8 n ∧ n < 256
def toAV : Value → AV
  | .int k n => .int k n
  | _ => .unk
theorem toAV_rel (c : Ctx) (v : Value) : Rel c (toAV v) v := by
  unfold toAV
  split
  · rfl
  · trivial
theorem relL_toAV (c : Ctx) : ∀ (l : List Value), RelL c (l.map toAV) l
  | [] => rfl
  | v :: l => ⟨_, _, rfl, toAV_rel c v, relL_toAV c l⟩
theorem isB_toAV {c : Ctx} {v u : Value} (h : IsB v) (r : Rel c (toAV v) u) : u = v := by
  obtain ⟨n, rfl, _⟩ := h
  exact r
theorem relL_isB {c : Ctx} : ∀ {l us : List Value}, (∀ v ∈ l, IsB v) → RelL c (l.map toAV) us → us = l
  | [], us, _, r => r
  | v :: l, us, hl, ⟨y, ys, e, r, rs⟩ => by
    subst e
    rw [isB_toAV (hl v (by simp)) r, relL_isB (fun x hx => hl x (by simp [hx])) rs]
theorem isB_bcells {c : Ctx} : ∀ {s : List UInt8} {us : List Value}, RelL c (bcells s) us → ∀ v ∈ us, IsB v
  | [], us, r, v, hv => by
    have : us = [] := r
    subst this
    cases hv
  | b :: s, us, ⟨y, ys, e, r, rs⟩, v, hv => by
    subst e
    rcases List.mem_cons.1 hv with rfl | hv
    · have r : v = .int .u8 b.toNat := r
      exact ⟨b.toNat, r, b.toNat_lt⟩
    · exact isB_bcells rs v hv
theorem isB_zero {n : Nat} {v : Value} (h : v ∈ (Builtin.zeroCells #[.int .u8 0] n).toList) : IsB v := by
  unfold Builtin.zeroCells at h
  simp only [Array.toList_map, List.mem_map] at h
  obtain ⟨i, _, rfl⟩ := h
  have : i % (#[Value.int .u8 0] : Array Value).size = 0 := by simp [Nat.mod_one]
  rw [this]
  exact ⟨0, rfl, by omega⟩
theorem St.ubOf (s : St F β w h) {id : Nat} {e : TypeId} (hb : h[id]? = some (some (.ubytes e))) :
    id < h.length ∧ ∃ vs fz, w.heap[β id]? = some (.cells vs e fz) ∧ (∀ i, i < vs.size → ¬ (fz.1 ≤ i ∧ i < fz.2)) ∧ ∀ x ∈ vs.toList, IsB x := by
  obtain ⟨o, ho, vs, fz, rfl, h1, h2⟩ := s.live id _ hb
  exact ⟨(List.getElem?_eq_some_iff.1 hb).1, vs, fz, ho, h1, h2⟩
def aAppT (P : Program) (h : Heap) (t t' : TypeId) (x y : AV) : Option (AV × Heap) := match P.underlying t with
  | some (.slice e) => match P.underlying t', tsz P e, tbytes P e, zeroCellsOf P e, lens y with
    | some .string, some 1, some 1, some [.int .u8 z], some (lo, hi) => if 1 ≤ lo ∧ z = 0 then (match x with
      | .nilsl => if hi ≤ 1099511627776 then some (.osl h.length hi, h ++ [some (.ubytes e)]) else none
      | .osl id hi0 => match h[id]? with
        | some (some (.ubytes e')) => if e' = e ∧ hi0 + hi ≤ 1099511627776 then some (.osl h.length (hi0 + hi), h.set id none ++ [some (.ubytes e)]) else none
        | _ => none
      | _ => none) else none
    | _, _, _, _, _ => none
  | _ => none
theorem run_aAppT (s : St F β w h) {t t' ty : TypeId} {x y v : AV} {u q : Value} {h' : Heap} (ha : aAppT P h t t' x y = some (v, h')) (rx : Rel (ctx F β w h) x u) (ry : Rel (ctx F β w h) y q) :
    VOk F β w h ((Builtin.append_ #[t, t'] ty #[u, q]).run P w) v h' := by
  unfold aAppT at ha
  split at ha <;> try (cases ha; done)
  rename_i e hu
  split at ha <;> try (cases ha; done)
  rename_i z lo hi hu' hsz hby hz hm
  split at ha <;> try (cases ha; done)
  rename_i hc
  obtain ⟨hlo, rfl⟩ := hc
  obtain ⟨i, zv, hinf, hzv, rz⟩ := zeroCells_rel (c := ctx F β w h) hz
  have hsz' : i.size = 1 := by unfold tsz at hsz; simpa [hinf] using hsz
  have hby' : i.bytes = 1 := by unfold tbytes at hby; simpa [hinf] using hby
  have hzc : zv.cells = #[.int .u8 0] := by
    obtain ⟨y0, ys, e1, r1, r2⟩ := rz
    have r2 : ys = [] := r2
    have r1 : y0 = .int .u8 0 := r1
    subst r2 r1
    apply Array.ext'
    exact e1
  obtain ⟨sx, rfl, p1, p2⟩ := lens_rel hm ry
  have hn : lenOfA (.str sx) = some sx.length := rfl
  have ry' : ∀ c : Ctx, Rel c (.str sx) (.string ⟨sx.toArray⟩) := fun c => rfl
  have hlen := run_lenOfA (P := P) hn (ry' (ctx F β w h)) w
  have hrd : ∀ hh : Heap, readSl hh 1 (.str sx) sx.length = some (bcells sx) := by intro hh; simp [readSl]
  obtain ⟨news, hfc, rnew, hnl⟩ := run_readSl (P := P) s (hrd h) rfl (fun l hl => by rw [hn] at hl; simp at hl; omega) (ry' _)
  let g0 := s.drew w.drew rfl rfl rfl rfl
  obtain ⟨news2, hfc2, rnew2, hnl2⟩ := run_readSl (P := P) g0.st (hrd h) rfl (fun l hl => by rw [hn] at hl; simp at hl; omega) (ry' _)
  have hns : news.size = sx.length := by have := rnew.length; simp [bcells] at this; exact this.symm
  have hns2 : news2.size = sx.length := by have := rnew2.length; simp [bcells] at this; exact this.symm
  have b1 := isB_bcells rnew
  have b2 := isB_bcells rnew2
  split at ha
  · split at ha <;> simp only [Option.some.injEq, Prod.mk.injEq, reduceCtorEq] at ha
    rename_i hle
    obtain ⟨rfl, rfl⟩ := ha
    simp only [Rel] at rx
    subst rx
    have ho : (Builtin.firstCells i.size 0 (.slice none 0 0)).run P w.drew = .ok #[] w.drew := by simp [Builtin.firstCells]
    have hr := run_append_grows (P := P) t t' ty e .string i zv hu hu' rfl hinf hzv none 0 0 sx.length _ #[] news2 hlen ho (by rw [hsz']; exact hfc2) (by omega) (by omega) (by rw [hby', Nat.zero_add]; omega)
    have hcap := grownCap_ge w (0 + sx.length) 0 e
    rw [hzc] at hr
    refine ⟨_, _, _, hr, s.made _ (.ubytes e) ?_, ?_⟩
    · refine ⟨_, (0, 0), rfl, by simp, ?_⟩
      intro x hx
      simp only [Array.empty_append, Array.toList_append, List.mem_append] at hx
      rcases hx with hx | hx
      · exact b2 x hx
      · exact isB_zero hx
    · refine ⟨by simp, 0 + sx.length, grownCap w (0 + sx.length) 0 e, e, by simp, by omega, by simpa using hcap, by omega, ?_⟩
      simp only [if_pos, World.shape?, show (w.drew.alloc _).heap[w.heap.size]? = some _ from heap_alloc_new w.drew _]
      rw [size_grown (len := 0) (m := sx.length) (sz := 1) (by simp) (by omega) (by simp) hcap, Nat.mul_one]
  · rename_i id hi0
    split at ha <;> try (cases ha; done)
    rename_i e' hb
    split at ha <;> simp only [Option.some.injEq, Prod.mk.injEq, reduceCtorEq] at ha
    rename_i hcc
    obtain ⟨rfl, rfl⟩ := ha
    obtain ⟨rfl, hle⟩ := hcc
    obtain ⟨hid, len, cap', et, rfl, k1, k2, k3, hsh⟩ := rx
    obtain ⟨_, vs, fz, ho, hfz, hall⟩ := s.ubOf hb
    have hshape : vs.size = cap' ∧ et = e' := by
      simp only [World.shape?, ho] at hsh
      simp at hsh
      exact ⟨hsh.2, hsh.1.symm⟩
    obtain ⟨hvs, rfl⟩ := hshape
    have oneB : ∀ v ∈ news.toList, v.oneCell' = true := by
      intro v hv
      obtain ⟨n, rfl, _⟩ := b1 v hv
      rfl
    by_cases hroom : len + sx.length ≤ cap'
    · have hst := run_storeCells_unf (P := P) (β id) (len * 1) et fz news.toList 0 vs w ho hfz (by simp; omega) oneB
      have hr := run_append_fits (P := P) t t' ty et .string i hu hu' rfl hinf ⟨β id, 0, none⟩ len cap' sx.length _ news hlen (by rw [hsz']; exact hfc) hroom (by rw [hsz', Addr.add_lit, Nat.zero_add]; exact hst)
      simp only [Nat.add_zero] at hr
      have gput : Goes F β w h β (w.setRow (β id) (setMany vs.toList (len * 1) news.toList).toArray) (h.set id (some (.ubytes et))) := by
        refine s.put id (.ubytes et) _ hb _ (.cells (setMany vs.toList (len * 1) news.toList).toArray et fz) rfl rfl rfl (by simp [World.setRow]) (setRow_heap w _ vs _ et fz ho) (fun b hb => setRow_other w _ b _ hb) ?_ ?_
        · simp [World.shape?, setRow_heap w _ vs _ et fz ho, ho, setMany_length]
        · refine ⟨_, fz, rfl, by simpa [setMany_length] using hfz, ?_⟩
          intro x hx
          have hx : x ∈ setMany vs.toList (len * 1) news.toList := by simpa using hx
          rw [setMany_eq _ _ _ (by simp; omega)] at hx
          simp only [List.mem_append] at hx
          rcases hx with (hx | hx) | hx
          · exact hall x (List.mem_of_mem_take hx)
          · exact b1 x hx
          · exact hall x (List.mem_of_mem_drop hx)
      have hlk : (h.set id (some (Blk.ubytes et)))[id]? = some (some (.ubytes et)) := by rw [List.getElem?_set_self hid]
      have gren := gput.st.rename id _ hlk
      have g := gput.trans gren
      simp only [List.length_set, List.set_set] at g
      refine ⟨_, _, _, hr, g, ?_⟩
      refine ⟨by simp, len + sx.length, cap', et, by simp, by omega, hroom, by omega, ?_⟩
      simp only [if_pos]
      simp [World.shape?, setRow_heap w _ vs _ et fz ho, setMany_length, hvs]
    · have hrow : Row (ctx F β w.drew h) (vs.toList.map toAV) (β id) 0 := by
        refine row_of_get ?_
        intro j x hx
        rw [List.getElem?_map, Option.map_eq_some_iff] at hx
        obtain ⟨v, hv, rfl⟩ := hx
        refine ⟨v, ?_, toAV_rel _ v⟩
        have : w.drew.heap[β id]? = some (.cells vs et fz) := ho
        simp only [World.cell?, this, Nat.zero_add]
        rw [← Array.getElem?_toList]
        simpa using hv
      have hcut : cut (vs.toList.map toAV) 0 (len * 1) = some ((vs.toList.map toAV).take (len * 1)) := by unfold cut; rw [if_pos (by simp; omega)]; simp
      obtain ⟨olds, hol, rold⟩ := run_loadCells_row (P := P) hrow hcut
      simp only [Nat.zero_add] at hol
      have hr := run_append_grows (P := P) t t' ty et .string i zv hu hu' rfl hinf hzv (some ⟨β id, 0, none⟩) len cap' sx.length _ olds news2 hlen (by rw [hsz']; simpa [Builtin.firstCells] using hol) (by rw [hsz']; exact hfc2) (by omega) (by omega) (by rw [hby']; omega)
      have hcap := grownCap_ge w (len + sx.length) cap' et
      have hos : olds.size = len * 1 := by have := rold.length; simp at this; omega
      have b3 : ∀ x ∈ olds.toList, IsB x := by
        rw [← List.map_take] at rold
        have := relL_isB (fun x hx => hall x (List.mem_of_mem_take hx)) rold
        intro x hx
        rw [this] at hx
        exact hall x (List.mem_of_mem_take hx)
      rw [hzc] at hr
      have gm := s.made (.cells (olds ++ news2 ++ Builtin.zeroCells #[.int .u8 0] (grownCap w (len + sx.length) cap' et - (len + sx.length))) et) (.ubytes et)
        ⟨_, (0, 0), rfl, by simp, by
          intro x hx
          simp only [Array.toList_append, List.mem_append] at hx
          rcases hx with (hx | hx) | hx
          · exact b3 x hx
          · exact b2 x hx
          · exact isB_zero hx⟩
      have g := gm.trans (gm.st.kill id)
      rw [List.set_append_left _ _ hid] at g
      refine ⟨_, _, _, hr, g, ?_⟩
      refine ⟨by simp, len + sx.length, grownCap w (len + sx.length) cap' et, et, by simp, by omega, hcap, by omega, ?_⟩
      simp only [if_pos, World.shape?, show (w.drew.alloc _).heap[w.heap.size]? = some _ from heap_alloc_new w.drew _]
      rw [size_grown (len := len) (m := sx.length) (sz := 1) hos (by omega) (by simp) hcap, Nat.mul_one]
  · cases ha
/-! ### their length, and their text -/
def aLenO (P : Program) (t : TypeId) (x : AV) : Option AV := match P.underlying t with
  | some (.slice _) => match x with
    | .osl id hi => if hi ≤ 1099511627776 then some (.lnb id) else none
    | _ => none
  | _ => none
theorem run_aLenO {t : TypeId} {x v : AV} {u : Value} (hs : aLenO P t x = some v) (r : Rel c x u) (ts us : Array _) (ty : TypeId) (hts : ts[0]? = some t) (hus : us[0]? = some u) (w : World) :
    ∃ v', (Builtin.len_ ts ty us).run P w = .ok v' w ∧ Rel c v v' := by
  unfold aLenO at hs
  split at hs <;> try (cases hs; done)
  rename_i e hu
  split at hs <;> try (cases hs; done)
  rename_i id hi
  split at hs <;> simp only [Option.some.injEq, reduceCtorEq] at hs
  subst hs
  obtain ⟨hid, len, cap', et, rfl, k1, k2, k3, hsh⟩ := r
  refine ⟨goInt len, ?_, hid, len, cap', et, rfl, k1, k2, by omega, hsh⟩
  simp [Builtin.len_, hts, hus, run_underlying hu, Builtin.lenOf]
def aLenT (P : Program) (t : TypeId) (x : AV) : Option AV := match P.underlying t, lens x with
  | some .string, some _ => some (.any .i64)
  | _, _ => none
theorem run_aLenT {t : TypeId} {x v : AV} {u : Value} (hs : aLenT P t x = some v) (r : Rel c x u) (ts us : Array _) (ty : TypeId) (hts : ts[0]? = some t) (hus : us[0]? = some u) (w : World) :
    ∃ v', (Builtin.len_ ts ty us).run P w = .ok v' w ∧ Rel c v v' := by
  unfold aLenT at hs
  split at hs <;> simp only [Option.some.injEq, reduceCtorEq] at hs
  rename_i a hu ha
  subst hs
  obtain ⟨lo, hi⟩ := a
  obtain ⟨s, rfl, _⟩ := lens_rel ha r
  obtain ⟨v', h1, h2⟩ := run_aLen (P := P) (c := c) (x := .str s) (v := .int .i64 (s.length : Nat)) hts hus (by simp only [aLen, hu]) rfl (w := w) (ty := ty)
  exact ⟨v', h1, _, h2⟩
def aSliceDataO : AV → Option AV
  | .osl id _ => some (.ptr id 0)
  | _ => none
theorem run_aSliceDataO {x v : AV} {u : Value} (hs : aSliceDataO x = some v) (r : Rel c x u) (ts : Array TypeId) (ty : TypeId) (w : World) : ∃ v', (Builtin.unsafeSliceData_ ts ty #[u]).run P w = .ok v' w ∧ Rel c v v' := by
  unfold aSliceDataO at hs
  split at hs <;> simp only [Option.some.injEq, reduceCtorEq] at hs
  rename_i id hi
  subst hs
  obtain ⟨hid, len, cap', et, rfl, k1, k2, k3, hsh⟩ := r
  exact ⟨_, Lib.run_unsafeSliceData_row w ts ty _ _ _ (by omega), hid, rfl⟩
def aUnsafeStrO (P : Program) (h : Heap) (ts : List TypeId) (x n : AV) : Option (AV × Heap) := match ts, x, n with
  | [pt, _], .ptr id 0, .lnb id' => if id = id' then match P.underlying pt, h[id]? with
    | some (.pointer e), some (some (.ubytes e')) => if e' = e ∧ P.cellsOf e = 1 then some (.bstr 1 1099511627776, h.set id none) else none
    | _, _ => none else none
  | _, _, _ => none
theorem run_aUnsafeStrO (s : St F β w h) {ts : List TypeId} {ty : TypeId} {x n v : AV} {u q : Value} {h' : Heap} (ha : aUnsafeStrO P h ts x n = some (v, h')) (rx : Rel (ctx F β w h) x u) (rn : Rel (ctx F β w h) n q) :
    VOk F β w h ((Builtin.unsafeString_ ts.toArray ty #[u, q]).run P w) v h' := by
  unfold aUnsafeStrO at ha
  split at ha <;> try (cases ha; done)
  rename_i pt it id id'
  split at ha <;> try (cases ha; done)
  rename_i hii
  subst hii
  split at ha <;> try (cases ha; done)
  rename_i e e' hu hb
  split at ha <;> simp only [Option.some.injEq, Prod.mk.injEq, reduceCtorEq] at ha
  rename_i he
  obtain ⟨rfl, hce⟩ := he
  obtain ⟨rfl, rfl⟩ := ha
  obtain ⟨hid, rfl⟩ := rx
  obtain ⟨_, m, cap', et, rfl, k1, k2, k3, hsh⟩ := rn
  obtain ⟨_, vs, fz, ho, hfz, hall⟩ := s.ubOf hb
  have hsh' : w.shape? (β id) = some (e', vs.size) := by simp only [World.shape?, ho]
  have hcap : vs.size = cap' := by
    have : w.shape? (β id) = some (et, cap') := hsh
    rw [hsh'] at this
    simp at this
    exact this.2
  let l : List UInt8 := (vs.toList.take m).map fun v => match v with | .int _ n => UInt8.ofNat n.toNat | _ => 0
  have hll : l.length = m := by simp [l]; omega
  have hrun := Lib.run_unsafeString_row (P := P) w pt it ty e' hu hce (β id) vs.size hsh' l (by intro q; rw [q] at hll; simp at hll; omega) (by rw [hll]; omega) (by rw [hll]; omega) (fun j x hj => by
    have hjl : j < m := by rw [← hll]; exact (List.getElem?_eq_some_iff.1 hj).1
    have e2 : (⟨β id, 0, none⟩ : Addr).add j = ⟨β id, j, none⟩ := by unfold Addr.add; split <;> simp_all
    rw [e2]
    simp only [World.cell?, ho]
    simp only [l] at hj
    rw [List.getElem?_map, Option.map_eq_some_iff] at hj
    obtain ⟨v, hv, rfl⟩ := hj
    rw [List.getElem?_take_of_lt hjl] at hv
    obtain ⟨n, rfl, hn⟩ := hall v (List.mem_of_getElem? hv)
    simp only [Option.isSome_none, Bool.false_eq_true, if_false]
    rw [← Array.getElem?_toList, hv]
    have : (UInt8.ofNat n).toNat = n := by simp; omega
    simp [this])
  rw [hll] at hrun
  have g := s.drop hb (w.freeze ⟨β id, 0, none⟩ m) (by
    have hk : ∀ b, b ≠ β id → (w.freeze ⟨β id, 0, none⟩ m).heap[b]? = w.heap[b]? := by
      intro b hb
      unfold World.freeze
      split
      · rfl
      · simp only [Array.getElem?_modify]
        rw [if_neg (fun q => hb q.symm)]
    refine ⟨?_, ?_, ?_, ?_, fun b _ hO => hk b hO, fun b _ => ?_, fun b q => q.elim⟩
    · unfold World.freeze; split <;> rfl
    · unfold World.freeze; split <;> rfl
    · unfold World.freeze; split <;> rfl
    · unfold World.freeze; split <;> simp
    · by_cases q : b = β id
      · subst q
        unfold World.freeze
        split
        · rfl
        · simp only [World.shape?, Array.getElem?_modify, if_true, ho, Option.map_some]
      · simp only [World.shape?, hk b q])
  exact ⟨_, _, _, hrun, g, l, rfl, by omega, by omega⟩
end
end Go.AH
namespace Go.AH
open Go
set_option linter.unusedVariables false
set_option linter.unusedSimpArgs false
section
variable {P : Program} {F : Fr} {β : Nat → Nat} {w : World} {h : Heap} {c : Ctx}
/-! ### shifts of named numbers; bytes put together -/
def zerosL : List Int → Bool
  | [] => true
  | x :: l => decide (x = 0) && zerosL l
theorem zerosS_val (ρ : Nat → Int) : ∀ (l : List Int) (i : Nat), zerosL l = true → linS ρ i l = 0
  | [], _, _ => rfl
  | x :: l, i, h => by
    simp only [zerosL, Bool.and_eq_true, decide_eq_true_eq] at h
    simp only [linS, h.1, zerosS_val ρ l (i + 1) h.2]
    omega
theorem zerosL_val (ρ : Nat → Int) {l : List Int} (h : zerosL l = true) : linV ρ l = 0 := by
  cases l with
  | nil => rfl
  | cons x l =>
    simp only [zerosL, Bool.and_eq_true, decide_eq_true_eq] at h
    simp only [linV, h.1, zerosS_val ρ l 0 h.2]
    omega
/-- The first is a multiple of a power of two, the second is less. -/
def orAt (a b : List Int) : Option Nat := [8, 16, 24, 32].find? fun m => zerosL (remL ((2 ^ m : Nat) : Int) a) && decide (hiV b < ((2 ^ m : Nat) : Int))
def shBin (op : BinOp) (x y : AV) : Option AV := match op with
  | .shl => (match x, y with
    | .lin k e, .int k' m => if 0 ≤ m ∧ m < k.bits ∧ fits k (mulL (2 ^ m.toNat) e) = true then some (mkLin k (mulL (2 ^ m.toNat) e)) else none
    | _, _ => none)
  | .shr => (match x, y with
    | .lin k e, .int k' m => if 0 ≤ m ∧ m < k.bits ∧ divOk (2 ^ m.toNat) e = true then some (mkLin k (divL (2 ^ m.toNat) e)) else none
    | _, _ => none)
  | .or => (match aNum x, aNum y with
    | some (k, a), some (k', b) => if k = k' ∧ (k = .u32 ∨ k = .i64) ∧ 0 ≤ loV a ∧ 0 ≤ loV b ∧ fits k (addL a b) = true then (match orAt a b with
      | some _ => some (mkLin k (addL a b))
      | none => none) else none
    | _, _ => none)
  | _ => none
theorem mkLin_iff0 {c : Ctx} {k : IntKind} {e : List Int} {v : Value} : Rel c (mkLin k e) v ↔ v = .int k (linV c.V.ρ e) := by
  constructor
  · intro r
    have r0 := mkLin_rel c k e
    revert r r0
    unfold mkLin
    split <;> simp only [Rel] <;> (intro a b; rw [a, ← b])
  · rintro rfl
    exact mkLin_rel c k e
theorem or_low {m a b : Nat} (ha : a % 2 ^ m = 0) (hb : b < 2 ^ m) : a ||| b = a + b := by
  have e : a = 2 ^ m * (a / 2 ^ m) := by have := Nat.div_add_mod a (2 ^ m); omega
  rw [e, Nat.two_pow_add_eq_or_of_lt (i := m) hb]
theorem or_ok {k : IntKind} (hk : k = .u32 ∨ k = .i64) {A B : Nat} (hor : A ||| B = A + B) (hm : ((A + B : Nat) : Int) ≤ k.max) : aInt .or k (A : Int) (B : Int) = some (.int k ((A + B : Nat) : Int)) := by
  have k1 : (BitVec.ofNat k.bits A ||| BitVec.ofNat k.bits B).toNat = A + B := by
    have hl : A + B < 2 ^ k.bits := by
      rcases hk with rfl | rfl
      · have h1 : IntKind.u32.max = 4294967295 := rfl
        rw [h1] at hm
        show A + B < 4294967296; omega
      · have h1 : IntKind.i64.max = 9223372036854775807 := rfl
        rw [h1] at hm
        show A + B < 18446744073709551616; omega
    rw [BitVec.toNat_or, BitVec.toNat_ofNat, BitVec.toNat_ofNat, Nat.mod_eq_of_lt (by omega), Nat.mod_eq_of_lt (by omega), hor]
  have hb1 : BitVec.ofInt k.bits (A : Int) = BitVec.ofNat k.bits A := BitVec.ofInt_natCast _ A
  have hb2 : BitVec.ofInt k.bits (B : Int) = BitVec.ofNat k.bits B := BitVec.ofInt_natCast _ B
  have hw : k.wrap ((A + B : Nat) : Int) = ((A + B : Nat) : Int) := by
    refine wrap_in ?_ hm
    rcases hk with rfl | rfl
    · show (0 : Int) ≤ _; omega
    · show (-9223372036854775808 : Int) ≤ _; omega
  simp only [aInt]
  rw [hb1, hb2, k1, hw]
theorem run_shBin {op : BinOp} {t : TypeId} {a b : Operand} {x y v : AV} {u q : Value} (h : shBin op x y = some v) (rx : Rel c x u) (ry : Rel c y q) (w : World) :
    ∃ v', (eqGuard op t a b u q >>= fun _ => binOp op t u q).run P w = .ok v' w ∧ Rel c v v' := by
  unfold shBin at h
  split at h <;> try (cases h; done)
  · split at h <;> try (cases h; done)
    rename_i k e k' m
    split at h <;> simp only [Option.some.injEq, reduceCtorEq] at h
    rename_i hc
    obtain ⟨m0, m1, hf⟩ := hc
    subst h
    have hg := run_eqGuard (P := P) (op := .shl) (t := t) (a := a) (b := b) (x := .lin k e) (y := .int k' m) rfl rx ry w
    have e1 : u = .int k (linV c.V.ρ e) := rx
    have e2 : q = .int k' m := ry
    subst e1 e2
    have hw := wrap_fits c.V hf
    rw [linV_mul] at hw
    have hr : aInt .shl k (linV c.V.ρ e) m = some (.int k (2 ^ m.toNat * linV c.V.ρ e)) := by
      simp only [aInt]
      rw [if_neg (by omega), Nat.min_eq_left (by omega), Int.mul_comm, hw]
    obtain ⟨v', h3, h4⟩ := run_shiftOp (P := P) (c := c) (k' := k') (.inl rfl) hr t w
    refine ⟨v', by simp only [Sem.run_bind, hg, Result.andThen_ok, h3], ?_⟩
    simp only [Rel] at h4
    subst h4
    rw [← linV_mul]
    exact mkLin_rel c k _
  · split at h <;> try (cases h; done)
    rename_i k e k' m
    split at h <;> simp only [Option.some.injEq, reduceCtorEq] at h
    rename_i hc
    obtain ⟨m0, m1, hf⟩ := hc
    subst h
    have hg := run_eqGuard (P := P) (op := .shr) (t := t) (a := a) (b := b) (x := .lin k e) (y := .int k' m) rfl rx ry w
    have e1 : u = .int k (linV c.V.ρ e) := rx
    have e2 : q = .int k' m := ry
    subst e1 e2
    have bd := linV_bound c.V (divL (2 ^ m.toNat) e)
    have br := linV_bound c.V (remL (2 ^ m.toNat) e)
    have ev := divL_val c.V.ρ (2 ^ m.toNat) e
    have hf' := hf
    simp only [divOk, Bool.and_eq_true, decide_eq_true_eq] at hf'
    obtain ⟨p1, p2, p3, p4⟩ := hf'
    have hd : (linV c.V.ρ e).fdiv (2 ^ m.toNat) = linV c.V.ρ (divL (2 ^ m.toNat) e) := by
      rw [Int.fdiv_eq_ediv_of_nonneg _ (by omega), ev, Int.add_comm, Int.add_mul_ediv_left _ _ (by omega), Int.ediv_eq_zero_of_lt (by omega) (by omega), Int.zero_add]
    have hr : aInt .shr k (linV c.V.ρ e) m = some (.int k (linV c.V.ρ (divL (2 ^ m.toNat) e))) := by
      simp only [aInt]
      rw [if_neg (by omega), Nat.min_eq_left (by omega), hd]
    obtain ⟨v', h3, h4⟩ := run_shiftOp (P := P) (c := c) (k' := k') (.inr rfl) hr t w
    refine ⟨v', by simp only [Sem.run_bind, hg, Result.andThen_ok, h3], ?_⟩
    simp only [Rel] at h4
    subst h4
    exact mkLin_rel c k _
  · split at h <;> try (cases h; done)
    rename_i k ea k' eb ha hb
    split at h <;> try (cases h; done)
    rename_i hc
    obtain ⟨rfl, hk, a0, b0, hf⟩ := hc
    split at h <;> simp only [Option.some.injEq, reduceCtorEq] at h
    rename_i m hm
    subst h
    have hm := List.find?_some hm
    simp only [Bool.and_eq_true, decide_eq_true_eq] at hm
    obtain ⟨az, b1⟩ := hm
    have e1 := aNum_rel ha rx
    have e2 := aNum_rel hb ry
    have hg : (eqGuard BinOp.or t a b u q).run P w = .ok () w := by
      subst e1 e2
      exact run_eqGuard (P := P) (c := c) (op := .or) (t := t) (a := a) (b := b) (x := .any k) (y := .any k) (by rcases hk with rfl | rfl <;> rfl) ⟨_, rfl⟩ ⟨_, rfl⟩ w
    subst e1 e2
    have ba := linV_bound c.V ea
    have bb := linV_bound c.V eb
    have ev := divL_val c.V.ρ ((2 ^ m : Nat) : Int) ea
    rw [zerosL_val c.V.ρ az] at ev
    obtain ⟨A, hA⟩ : ∃ n : Nat, linV c.V.ρ ea = n := ⟨(linV c.V.ρ ea).toNat, by omega⟩
    obtain ⟨B, hB⟩ : ∃ n : Nat, linV c.V.ρ eb = n := ⟨(linV c.V.ρ eb).toNat, by omega⟩
    have hA' : A % 2 ^ m = 0 := by
      have : (A : Int) % ((2 ^ m : Nat) : Int) = 0 := by
        rw [← hA, ev, Int.add_zero, Int.mul_emod_right]
      exact_mod_cast this
    have hB' : B < 2 ^ m := by
      have : (B : Int) < ((2 ^ m : Nat) : Int) := by omega
      exact_mod_cast this
    have key := or_low hA' hB'
    simp only [fits, Bool.and_eq_true, decide_eq_true_eq] at hf
    have bs := linV_bound c.V (addL ea eb)
    rw [linV_add, hA, hB] at bs
    have hr := or_ok hk key (by push_cast; omega)
    rw [← hA, ← hB] at hr
    obtain ⟨v', h3, h4⟩ := run_intOp (P := P) (c := c) hr t w
    refine ⟨v', by simp only [Sem.run_bind, hg, Result.andThen_ok, h3], ?_⟩
    simp only [Rel] at h4
    subst h4
    apply mkLin_iff0.2
    rw [linV_add, hA, hB]
    push_cast
    rfl
end
end Go.AH
namespace Go.AH
open Go
set_option linter.unusedVariables false
set_option linter.unusedSimpArgs false
section
variable {P : Program} {F : Fr} {β : Nat → Nat} {w : World} {h : Heap} {c : Ctx}
def numBin2 (op : BinOp) (x y : AV) : Option AV := match bitBin op x y with
  | some v => some v
  | none => match shBin op x y with
    | some v => some v
    | none => numBin op x y
theorem run_numBin2 {op : BinOp} {t : TypeId} {a b : Operand} {x y v : AV} {u q : Value} (hh : numBin2 op x y = some v) (rx : Rel c x u) (ry : Rel c y q) (w : World) :
    ∃ v', (eqGuard op t a b u q >>= fun _ => binOp op t u q).run P w = .ok v' w ∧ Rel c v v' := by
  unfold numBin2 at hh
  split at hh
  · cases hh; exact run_bitBin (by assumption) rx ry w
  · split at hh
    · cases hh; exact run_shBin (by assumption) rx ry w
    · exact run_numBin hh rx ry w
def symBin2 (op : BinOp) (x y : AV) : Option AV := match symBin op x y with
  | some v => some v
  | none => txtBin op x y
theorem run_symBin2 {op : BinOp} {t : TypeId} {a b : Operand} {x y v : AV} {u q : Value} (hh : symBin2 op x y = some v) (rx : Rel c x u) (ry : Rel c y q) (w : World) :
    ∃ v', (eqGuard op t a b u q >>= fun _ => binOp op t u q).run P w = .ok v' w ∧ Rel c v v' := by
  unfold symBin2 at hh
  split at hh
  · cases hh; exact run_symBin (by assumption) rx ry w
  · exact run_txtBin hh rx ry w
def symLen2 (P : Program) (t : TypeId) (x : AV) : Option AV := match symLen P t x with
  | some v => some v
  | none => match aLenO P t x with
    | some v => some v
    | none => aLenT P t x
theorem run_symLen2 {t ty : TypeId} {x v : AV} {u : Value} {ts : Array TypeId} {us : Array Value} (ht : ts[0]? = some t) (hus : us[0]? = some u) (hs : symLen2 P t x = some v) (r : Rel c x u) (w : World) :
    ∃ v', (Builtin.len_ ts ty us).run P w = .ok v' w ∧ Rel c v v' := by
  unfold symLen2 at hs
  split at hs
  · cases hs; exact run_symLen ht hus (by assumption) r w
  · split at hs
    · cases hs; exact run_aLenO (by assumption) r ts us ty ht hus w
    · exact run_aLenT hs r ts us ty ht hus w
def aAppZ2 (P : Program) (h : Heap) (t t' : TypeId) (x y : AV) : Option (AV × Heap) := match aAppZ P h t t' x y with
  | some v => some v
  | none => aAppT P h t t' x y
theorem run_aAppZ2 (s : St F β w h) {t t' ty : TypeId} {x y v : AV} {u q : Value} {h' : Heap} (ha : aAppZ2 P h t t' x y = some (v, h')) (rx : Rel (ctx F β w h) x u) (ry : Rel (ctx F β w h) y q) :
    VOk F β w h ((Builtin.append_ #[t, t'] ty #[u, q]).run P w) v h' := by
  unfold aAppZ2 at ha
  split at ha
  · cases ha; exact run_aAppZ s (by assumption) rx ry
  · exact run_aAppT s ha rx ry
def aSliceData2 (x : AV) : Option AV := match aSliceData x with
  | some v => some v
  | none => aSliceDataO x
theorem run_aSliceData2 {x v : AV} {u : Value} (hs : aSliceData2 x = some v) (r : Rel c x u) (ts : Array TypeId) (ty : TypeId) (w : World) : ∃ v', (Builtin.unsafeSliceData_ ts ty #[u]).run P w = .ok v' w ∧ Rel c v v' := by
  unfold aSliceData2 at hs
  split at hs
  · cases hs; exact run_aSliceData (by assumption) r ts ty w
  · exact run_aSliceDataO hs r ts ty w
def aUnsafeStr2 (P : Program) (h : Heap) (ts : List TypeId) (x n : AV) : Option (AV × Heap) := match aUnsafeStr P h ts x n with
  | some v => some v
  | none => aUnsafeStrO P h ts x n
theorem run_aUnsafeStr2 (s : St F β w h) {ts : List TypeId} {ty : TypeId} {x n v : AV} {u q : Value} {h' : Heap} (ha : aUnsafeStr2 P h ts x n = some (v, h')) (rx : Rel (ctx F β w h) x u) (rn : Rel (ctx F β w h) n q) :
    VOk F β w h ((Builtin.unsafeString_ ts.toArray ty #[u, q]).run P w) v h' := by
  unfold aUnsafeStr2 at ha
  split at ha
  · cases ha; exact run_aUnsafeStr s (by assumption) rx rn
  · exact run_aUnsafeStrO s ha rx rn
end
end Go.AH
namespace Go.AH
open Go
set_option linter.unusedVariables false
set_option linter.unusedSimpArgs false
section
variable {P : Program} {F : Fr} {β : Nat → Nat} {w : World} {h : Heap} {c : Ctx}

theorem run_symConv (s : St F β w h) {src dst : TypeId} {x v : AV} {u : Value} {h' : Heap} (ha : symConv P h src dst x = some (v, h')) (r : Rel (ctx F β w h) x u) : VOk F β w h ((convert src dst u).run P w) v h' := by
  unfold symConv at ha
  split at ha
  · rename_i e hu hv
    split at ha <;> try (cases ha; done)
    rename_i l he
    split at ha <;> simp only [Option.some.injEq, Prod.mk.injEq, reduceCtorEq] at ha
    rename_i hl
    obtain ⟨rfl, rfl⟩ := ha
    obtain ⟨sx, rfl, hx⟩ := r
    have hlen : sx.length = l.length := by simpa using congrArg List.length hx
    have : (convert src dst (.string ⟨sx.toArray⟩)).run P w = (Conv.stringToBytes e ⟨sx.toArray⟩).run P w := by
      simp [convert, run_underlying hu, run_underlying hv, run_underlying he]
    rw [this, ← hlen]
    exact run_toBytes' s sx (scells l) fun c hc => rel_scells c (by rw [hc]; exact hx)
  · rename_i hu hv
    split at ha <;> simp only [Option.some.injEq, Prod.mk.injEq, reduceCtorEq] at ha
    rename_i l
    obtain ⟨rfl, rfl⟩ := ha
    obtain ⟨sx, rfl, hx⟩ := r
    obtain ⟨v', h1, h2⟩ := run_aConv (P := P) (c := ctx F β w h) (src := src) (dst := dst) (x := .str sx) (v := .str sx) (by simp only [aConv, hu, hv]) rfl w
    simp only [Rel] at h2
    subst h2
    exact VOk.same s ⟨_, h1, sx, rfl, hx⟩
  · rename_i e hu hv
    split at ha <;> try (cases ha; done)
    rename_i n he hn
    split at ha <;> try (cases ha; done)
    rename_i cs hcs
    have key : (∀ l, x ≠ .str l) → (∀ l, x ≠ .sym l) → ∀ l, symOf cs = some l → VOk F β w h ((convert src dst u).run P w) (mkSym l) h := by
      intro hx hx2 l hl
      obtain ⟨vs, hfc, rv, _⟩ := run_readSl (P := P) s hcs (by cases x <;> simp [strOk]) (fun l hl => by rw [hn] at hl; simp at hl; omega) r
      obtain ⟨ns, e1, e2⟩ := symOf_rel hl rv
      have hvs : vs = (ns.map (Value.int .u8)).toArray := by apply Array.ext'; simpa using e1
      refine VOk.same s ⟨.string ⟨(ns.map fun n => UInt8.ofNat n.toNat).toArray⟩, ?_, mkSym_rel e2⟩
      have hlen := run_lenOfA (P := P) hn r w
      have hu2 : ∃ a len cap, u = .slice a len cap := by
        cases x <;> simp only [lenOfA, reduceCtorEq] at hn <;> simp only [Rel] at r
        · exact absurd rfl (hx2 _)
        · exact absurd rfl (hx _)
        · exact ⟨_, _, _, r⟩
        · obtain ⟨a, r⟩ := r; exact ⟨_, _, _, r⟩
        · obtain ⟨_, o, cap', r, _⟩ := r; exact ⟨_, _, _, r⟩
        · obtain ⟨_, cap', et, r, _⟩ := r; exact ⟨_, _, _, r⟩
        · obtain ⟨a, cap', r, _⟩ := r; exact ⟨_, _, _, r⟩
      obtain ⟨a, len, cap, rfl⟩ := hu2
      simp [Builtin.lenOf] at hlen
      subst hlen
      rw [run_convert_bytes_string w src dst e a len cap hu he hv]
      cases a with
      | none =>
        simp [Builtin.firstCells] at hfc
        have hv0 : vs = #[] := hfc
        rw [hv0] at hvs
        have : ns = [] := by
          have := congrArg Array.toList hvs
          simpa using this.symm
        subst this
        rfl
      | some a =>
        simp only [Builtin.firstCells, Nat.mul_one] at hfc
        rw [run_bytesToString w a len cap ns (by rw [hfc, hvs]), fold_push]
        congr 3
        apply Array.ext'
        simp [ByteArray.empty, ByteArray.emptyWithCapacity]
        rfl
    split at ha
    · cases ha
    · cases ha
    · rename_i hx hx2
      rw [Option.map_eq_some_iff] at ha
      obtain ⟨l, hl, he2⟩ := ha
      simp only [Prod.mk.injEq] at he2
      obtain ⟨rfl, rfl⟩ := he2
      exact key hx hx2 l hl
  · cases ha

/-! ### all that is new -/
def b2 (P : Program) (h : Heap) (b : Builtin) (ts : Array TypeId) (xs : List AV) : Option (AV × Heap) := match b with
  | .len => match ts[0]?, xs with
    | some t, x :: _ => match aLenM P h t x with
      | some v => some (v, h)
      | none => (symLen2 P t x).map (·, h)
    | _, _ => none
  | .cap => match ts[0]?, xs with
    | some t, x :: _ => match aCapH P h t x with
      | some v => some (v, h)
      | none => (aCap P t x).map (·, h)
    | _, _ => none
  | .min => match xs with
    | [x, y] => (numMin x y).map (·, h)
    | _ => none
  | .max => match xs with
    | [x, y] => (numMax x y).map (·, h)
    | _ => none
  | .append => match ts.toList, xs with
    | [t, tn], [x, y] => aAppZ2 P h t tn x y
    | _, _ => none
  | .unsafeSliceData => match xs with
    | [x] => (aSliceData2 x).map (·, h)
    | _ => none
  | .unsafeString => match xs with
    | [x, y] => aUnsafeStr2 P h ts.toList x y
    | _ => none
  | _ => none
def ev2 (P : Program) (ρ : Operand → AV) (op : Op) (h : Heap) : Option (AV × Heap) := match op with
  | .load t x => (aGLoad P t (ρ x)).map (·, h)
  | .indexAddr t x i => (aGIndexAddr P t (ρ x) (ρ i)).map (·, h)
  | .range t x => aRange P h t (ρ x)
  | .next it b => if b = true then aNext h (ρ it) else none
  | .makeMap t r => aMakeMap P h t (r.map ρ)
  | .insert t m k x => (aMapUpdate P h t (ρ m) (ρ k) (ρ x)).map (.tup [], ·)
  | .mapUpdate t m k x => (aMapUpdate P h t (ρ m) (ρ k) (ρ x)).map (.tup [], ·)
  | .lookup t x i ok => (aLookup P h t (ρ x) (ρ i) ok).map (·, h)
  | .makeSlice t l n => aMakeSlice P h t (ρ l) (ρ n)
  | .makeFunc fn first caps => if caps.toList = [] then some (.bfn fn (first.toList.map ρ), h) else none
  | .sliceToArrayPointer t x => (aArrPtr P t (ρ x)).map (·, h)
  | .convert src dst x => match numConv P src dst (ρ x) with
    | some v => some (v, h)
    | none => match aPtrConv P h src dst (ρ x) with
      | some v => some (v, h)
      | none => symConv P h src dst (ρ x)
  | .unOp op _ x => (aNotB op (ρ x)).map (·, h)
  | .binOp op t x y _ => match numBin2 op (ρ x) (ρ y) with
    | some v => some (v, h)
    | none => match aPtrSame P op t (ρ x) (ρ y) with
      | some v => some (v, h)
      | none => (symBin2 op (ρ x) (ρ y)).map (·, h)
  | .index t x i => (symIndex P t (ρ x) (ρ i)).map (·, h)
  | .slice t x lo hi mx => match symSlice P t (ρ x) (lo.map ρ) (hi.map ρ) (mx.map ρ) with
    | some v => some (v, h)
    | none => (aOver P h t (ρ x) (lo.map ρ) (hi.map ρ) (mx.map ρ)).map (·, h)
  | .call c => match c.callee with
    | .builtin b => b2 P h b c.argTypes (c.args.toList.map ρ)
    | _ => none
  | _ => none

theorem run_numMin {x y v : AV} {u q : Value} (hs : numMin x y = some v) (rx : Rel c x u) (ry : Rel c y q) (ts : Array TypeId) (ty : TypeId) (w : World) : ∃ v', (Builtin.min_ ts ty #[u, q]).run P w = .ok v' w ∧ Rel c v v' := by
  unfold numMin at hs
  split at hs <;> try (cases hs; done)
  rename_i k a k' b ha hb
  have ex := aNum_rel ha rx
  have ey := aNum_rel hb ry
  subst ex ey
  split at hs <;> try (cases hs; done)
  rename_i hk
  subst hk
  split at hs <;> simp only [Option.some.injEq, reduceCtorEq] at hs <;> subst hs <;> rename_i hc <;> have h1 := cmpE_cmpI c.V hc <;> simp only [cmpI, Option.some.injEq, decide_eq_true_eq, decide_eq_false_iff_not] at h1
  · exact ⟨.int k (linV c.V.ρ b), by simp [Builtin.min_, Builtin.min2, h1], ry⟩
  · exact ⟨.int k (linV c.V.ρ a), by simp [Builtin.min_, Builtin.min2, h1], rx⟩
theorem run_numMax {x y v : AV} {u q : Value} (hs : numMax x y = some v) (rx : Rel c x u) (ry : Rel c y q) (ts : Array TypeId) (ty : TypeId) (w : World) : ∃ v', (Builtin.max_ ts ty #[u, q]).run P w = .ok v' w ∧ Rel c v v' := by
  unfold numMax at hs
  split at hs <;> try (cases hs; done)
  rename_i k a k' b ha hb
  have ex := aNum_rel ha rx
  have ey := aNum_rel hb ry
  subst ex ey
  split at hs <;> try (cases hs; done)
  rename_i hk
  subst hk
  split at hs <;> simp only [Option.some.injEq, reduceCtorEq] at hs <;> subst hs <;> rename_i hc <;> have h1 := cmpE_cmpI c.V hc <;> simp only [cmpI, Option.some.injEq, decide_eq_true_eq, decide_eq_false_iff_not, gt_iff_lt] at h1
  · exact ⟨.int k (linV c.V.ρ b), by simp [Builtin.max_, Builtin.max2, h1], ry⟩
  · exact ⟨.int k (linV c.V.ρ a), by simp [Builtin.max_, Builtin.max2, h1], rx⟩

theorem relL_nil {vs : List Value} (r : RelL c [] vs) : vs = [] := r
theorem ev2_sound (s : St F β w h) {ρ : Operand → AV} {ρ' : Operand → Value} (hρ : ∀ x, Rel (ctx F β w h) (ρ x) (ρ' x)) {o : Oper} {v : AV} {h' : Heap} (he : ev2 P ρ o.op h = some (v, h')) :
    EvOk F β w h ((execOp ρ' o).run P w) v h' := by
  have pureOk : ∀ (m : Sem Value), (execOp ρ' o).run P w = (m.run P w).andThen (fun v' w' => .ok (.value v') w') → h = h' → (∃ v', m.run P w = .ok v' w ∧ Rel (ctx F β w h) v v') → EvOk F β w h ((execOp ρ' o).run P w) v h' := by
    rintro m hr rfl hm
    exact EvOk.of (VOk.same s hm) hr
  have mp : ∀ {x : Option AV}, x.map (·, h) = some (v, h') → x = some v ∧ h = h' := by
    intro x hx
    rw [Option.map_eq_some_iff] at hx
    obtain ⟨y, hy, e⟩ := hx
    simp only [Prod.mk.injEq] at e
    exact ⟨by rw [hy, e.1], e.2⟩
  cases hop : o.op <;> rw [hop] at he <;> simp only [ev2, reduceCtorEq] at he
  case load t x =>
    obtain ⟨h1, h2⟩ := mp he
    exact pureOk (Instr.loadAt t (ρ' x)) (by simp [execOp, hop]) h2 (run_aGLoad s h1 (hρ x))
  case indexAddr t x i =>
    obtain ⟨h1, h2⟩ := mp he
    exact pureOk (Instr.indexAt t (ρ' x) (ρ' i)) (by simp [execOp, hop]) h2 (run_aGIndexAddr h1 (hρ x) (hρ i) w)
  case range t x => exact EvOk.of (run_aRange s he (hρ x)) (by simp [execOp, hop])
  case next it isS =>
    split at he <;> try (cases he; done)
    rename_i hb
    subst hb
    refine EvOk.of (P := P) (run_aNext (P := P) s he (hρ it) o.type) ?_
    have e : execOp ρ' o = (do pure (.value (← Instr.next (ρ' it) true o.type))) := by simp only [execOp, hop]
    rw [e, Sem.run_bind]
    rfl
  case makeMap t r => exact EvOk.of (run_aMakeMap s he (relO_map hρ r)) (by simp [execOp, hop])
  case insert t m k x =>
    rw [Option.map_eq_some_iff] at he
    obtain ⟨h2, hh, e⟩ := he
    simp only [Prod.mk.injEq] at e
    obtain ⟨rfl, rfl⟩ := e
    obtain ⟨w', h1, h3⟩ := run_aMapUpdate s hh (hρ m) (hρ k) (hρ x)
    exact ⟨.skip, undef, w', β, by simp [execOp, hop, h1], .inr ⟨rfl, rfl⟩, h3, ⟨#[], rfl, rfl⟩⟩
  case mapUpdate t m k x =>
    rw [Option.map_eq_some_iff] at he
    obtain ⟨h2, hh, e⟩ := he
    simp only [Prod.mk.injEq] at e
    obtain ⟨rfl, rfl⟩ := e
    obtain ⟨w', h1, h3⟩ := run_aMapUpdate s hh (hρ m) (hρ k) (hρ x)
    exact ⟨.skip, undef, w', β, by simp [execOp, hop, h1], .inr ⟨rfl, rfl⟩, h3, ⟨#[], rfl, rfl⟩⟩
  case lookup t x i ok =>
    obtain ⟨h1, h2⟩ := mp he
    exact pureOk (Instr.lookup t (ρ' x) (ρ' i) ok) (by simp [execOp, hop]) h2 (run_aLookup s h1 (hρ x) (hρ i))
  case makeSlice t l n => exact EvOk.of (run_aMakeSlice s he (hρ l) (hρ n)) (by simp [execOp, hop])
  case makeFunc fn first caps =>
    split at he <;> simp only [Option.some.injEq, Prod.mk.injEq, reduceCtorEq] at he
    rename_i hf
    have hf' : caps = #[] := by apply Array.ext'; simpa using hf
    refine pureOk (pure (.func fn (first.map ρ') #[])) (by simp [execOp, hop, Instr.makeFunc, hf']) he.2 ⟨_, rfl, ?_⟩
    rw [← he.1]
    exact ⟨_, rfl, by simpa using relL_map hρ first.toList⟩
  case sliceToArrayPointer t x =>
    obtain ⟨h1, h2⟩ := mp he
    exact pureOk (Instr.arrayAt t (ρ' x)) (by simp [execOp, hop]) h2 (run_aArrPtr h1 (hρ x) w)
  case convert src dst x =>
    split at he
    · rename_i v0 hv
      simp only [Option.some.injEq, Prod.mk.injEq] at he
      obtain ⟨rfl, h2⟩ := he
      exact pureOk (convert src dst (ρ' x)) (by simp [execOp, hop]) h2 (run_numConv hv (hρ x) w)
    · split at he
      · rename_i v0 hv
        simp only [Option.some.injEq, Prod.mk.injEq] at he
        obtain ⟨rfl, h2⟩ := he
        exact pureOk (convert src dst (ρ' x)) (by simp [execOp, hop]) h2 (run_aPtrConv s hv (hρ x))
      · exact EvOk.of (run_symConv s he (hρ x)) (by simp [execOp, hop])
  case unOp op t x =>
    obtain ⟨h1, h2⟩ := mp he
    refine pureOk (Op.unary op (ρ' x)) (by simp [execOp, hop]) h2 ?_
    unfold aNotB at h1
    split at h1 <;> simp only [Option.some.injEq, reduceCtorEq] at h1
    rename_i hx
    subst h1
    have := hρ x
    rw [hx] at this
    obtain ⟨b, hb⟩ := this
    rw [hb]
    exact ⟨.bool !b, rfl, !b, rfl⟩
  case binOp op t x y ty =>
    have fin : h = h' → (∃ z', (eqGuard op t x y (ρ' x) (ρ' y) >>= fun _ => binOp op t (ρ' x) (ρ' y)).run P w = .ok z' w ∧ Rel (ctx F β w h) v z') → EvOk F β w h ((execOp ρ' o).run P w) v h' := by
      intro h2 hb
      refine pureOk (eqGuard op t x y (ρ' x) (ρ' y) >>= fun _ => binOp op t (ρ' x) (ρ' y)) ?_ h2 hb
      have e : execOp ρ' o = (do pure (.value (← (eqGuard op t x y (ρ' x) (ρ' y) >>= fun _ => binOp op t (ρ' x) (ρ' y))))) := by simp [execOp, hop]
      rw [e, Sem.run_bind]
      rfl
    split at he
    · rename_i v0 hv
      simp only [Option.some.injEq, Prod.mk.injEq] at he
      obtain ⟨rfl, h2⟩ := he
      exact fin h2 (run_numBin2 (a := x) (b := y) hv (hρ x) (hρ y) w)
    split at he
    · rename_i v0 hv
      simp only [Option.some.injEq, Prod.mk.injEq] at he
      obtain ⟨rfl, h2⟩ := he
      exact fin h2 (run_aPtrSame (a := x) (b := y) hv (hρ x) (hρ y) w)
    · obtain ⟨h1, h2⟩ := mp he
      exact fin h2 (run_symBin2 (a := x) (b := y) h1 (hρ x) (hρ y) w)
  case index t x i =>
    obtain ⟨h1, h2⟩ := mp he
    exact pureOk (Instr.index t (ρ' x) (ρ' i)) (by simp [execOp, hop]) h2 (run_symIndex h1 (hρ x) (hρ i) w)
  case slice t x lo hi mx =>
    split at he
    · rename_i v0 hv
      simp only [Option.some.injEq, Prod.mk.injEq] at he
      obtain ⟨rfl, h2⟩ := he
      exact pureOk (Instr.sliceAt t (ρ' x) (lo.map ρ') (hi.map ρ') (mx.map ρ')) (by simp [execOp, hop]) h2 (run_symSlice hv (hρ x) (relO_map hρ lo) (relO_map hρ hi) (relO_map hρ mx) w)
    · obtain ⟨h1, h2⟩ := mp he
      exact pureOk (Instr.sliceAt t (ρ' x) (lo.map ρ') (hi.map ρ') (mx.map ρ')) (by simp [execOp, hop]) h2 (run_aOver s h1 (hρ x) (relO_map hρ lo) (relO_map hρ hi) (relO_map hρ mx))
  case call cc =>
    have bi : ∀ (b : Builtin), cc.callee = .builtin b → ∃ cs, (execOp ρ' o).run P w = (builtin b cc.argTypes o.type cs (cc.args.map ρ')).run P w := by
      intro b hb
      have e : ∀ (cs : Array Bool), resolve ρ' cc o.type = (pure { target := .builtin b cc.argTypes o.type cs, args := cc.args.map ρ' } : Sem Deferred) → (execOp ρ' o).run P w = (builtin b cc.argTypes o.type cs (cc.args.map ρ')).run P w := by
        intro cs hcs
        simp only [execOp, hop, hcs, Sem.run_bind, Sem.run_pure, Result.andThen_ok, invoke]
      exact ⟨_, e _ (by unfold resolve; rw [hb])⟩
    have rel := relL_map hρ cc.args.toList
    have us_of : ∀ l, cc.args.toList.map ρ' = l → cc.args.map ρ' = l.toArray := fun l hl => by apply Array.ext'; simpa using hl
    split at he <;> try (cases he; done)
    rename_i b hb
    obtain ⟨cs, hrun⟩ := bi _ hb
    rw [hrun]
    clear hrun hb bi
    unfold b2 at he
    split at he
    · split at he <;> try (cases he; done)
      rename_i t x xs ht hx
      rw [hx] at rel
      obtain ⟨y, ys, e1, ry, _⟩ := rel
      have hus : (cc.args.map ρ')[0]? = some y := by rw [us_of _ e1]; rfl
      split at he
      · rename_i v0 hv
        simp only [Option.some.injEq, Prod.mk.injEq] at he
        obtain ⟨rfl, rfl⟩ := he
        exact EvOk.of (P := P) (m := Builtin.len_ cc.argTypes o.type (cc.args.map ρ')) (VOk.same s (run_aLenM s hv ry _ _ o.type ht hus)) (by simp [builtin])
      · obtain ⟨h1, rfl⟩ := mp he
        exact EvOk.of (P := P) (m := Builtin.len_ cc.argTypes o.type (cc.args.map ρ')) (VOk.same s (run_symLen2 ht hus h1 ry w)) (by simp [builtin])
    · split at he <;> try (cases he; done)
      rename_i t x xs ht hx
      rw [hx] at rel
      obtain ⟨y, ys, e1, ry, _⟩ := rel
      have hus : (cc.args.map ρ')[0]? = some y := by rw [us_of _ e1]; rfl
      split at he
      · rename_i v0 hv
        simp only [Option.some.injEq, Prod.mk.injEq] at he
        obtain ⟨rfl, rfl⟩ := he
        exact EvOk.of (P := P) (m := Builtin.cap_ cc.argTypes o.type (cc.args.map ρ')) (VOk.same s (run_aCapH s hv ry _ _ o.type ht hus)) (by simp [builtin])
      · obtain ⟨h1, rfl⟩ := mp he
        exact EvOk.of (P := P) (m := Builtin.cap_ cc.argTypes o.type (cc.args.map ρ')) (VOk.same s (run_aCap h1 ry _ _ o.type ht hus w)) (by simp [builtin])
    · split at he <;> try (cases he; done)
      rename_i x y hx
      rw [hx] at rel
      obtain ⟨u, us1, e1, ru, q, us2, e2, rq, e3⟩ := rel
      subst e2
      have e3' := relL_nil e3
      subst e3'
      have hu := us_of _ e1
      obtain ⟨h1, rfl⟩ := mp he
      exact EvOk.of (P := P) (m := Builtin.min_ cc.argTypes o.type (cc.args.map ρ')) (VOk.same s (by rw [hu]; exact run_numMin (P := P) h1 ru rq _ _ w)) (by simp [builtin])
    · split at he <;> try (cases he; done)
      rename_i x y hx
      rw [hx] at rel
      obtain ⟨u, us1, e1, ru, q, us2, e2, rq, e3⟩ := rel
      subst e2
      have e3' := relL_nil e3
      subst e3'
      have hu := us_of _ e1
      obtain ⟨h1, rfl⟩ := mp he
      exact EvOk.of (P := P) (m := Builtin.max_ cc.argTypes o.type (cc.args.map ρ')) (VOk.same s (by rw [hu]; exact run_numMax (P := P) h1 ru rq _ _ w)) (by simp [builtin])
    · split at he <;> try (cases he; done)
      rename_i t tn x y hts hx
      rw [hx] at rel
      obtain ⟨u, us1, e1, ru, q, us2, e2, rq, e3⟩ := rel
      subst e2
      have e3' := relL_nil e3
      subst e3'
      have hu := us_of _ e1
      refine EvOk.of (P := P) (m := Builtin.append_ cc.argTypes o.type (cc.args.map ρ')) ?_ (by simp [builtin])
      rw [hu, show cc.argTypes = #[t, tn] by rw [← Array.toArray_toList (xs := cc.argTypes), hts]]
      exact run_aAppZ2 (P := P) (ty := o.type) s he ru rq
    · split at he <;> try (cases he; done)
      rename_i x hx
      rw [hx] at rel
      obtain ⟨u, us1, e1, ru, e3⟩ := rel
      have e3' := relL_nil e3
      subst e3'
      have hu := us_of _ e1
      obtain ⟨h1, rfl⟩ := mp he
      exact EvOk.of (P := P) (m := Builtin.unsafeSliceData_ cc.argTypes o.type (cc.args.map ρ')) (VOk.same s (by rw [hu]; exact run_aSliceData2 h1 ru _ _ w)) (by simp [builtin])
    · split at he <;> try (cases he; done)
      rename_i x y hx
      rw [hx] at rel
      obtain ⟨u, us1, e1, ru, q, us2, e2, rq, e3⟩ := rel
      subst e2
      have e3' := relL_nil e3
      subst e3'
      have hu := us_of _ e1
      refine EvOk.of (P := P) (m := Builtin.unsafeString_ cc.argTypes o.type (cc.args.map ρ')) ?_ (by simp [builtin])
      rw [hu]
      have := run_aUnsafeStr2 (P := P) (ty := o.type) s he ru rq
      rwa [Array.toArray_toList] at this
    · cases he
end
end Go.AH
namespace Go.AH
open Go
section
variable {P : Program} {F : Fr} {β : Nat → Nat} {w : World} {h : Heap}
/-- One operation. -/
def orElse (P : Program) (ρ : Operand → AV) (op : Op) (h : Heap) : Option (AV × Heap) → Option (AV × Heap)
  | some r => some r
  | none => ev2 P ρ op h
def ev (P : Program) (ρ : Operand → AV) (op : Op) (h : Heap) : Option (AV × Heap) := orElse P ρ op h (ev0 P ρ op h)
theorem orElse_some (P : Program) (ρ : Operand → AV) (op : Op) (h : Heap) (r : AV × Heap) : orElse P ρ op h (some r) = some r := rfl
/-- A built-in function. -/
def orB (P : Program) (h : Heap) (b : Builtin) (ts : Array TypeId) (xs : List AV) : Option (AV × Heap) → Option (AV × Heap)
  | some r => some r
  | none => b2 P h b ts xs
def bEv (P : Program) (h : Heap) (b : Builtin) (ts : Array TypeId) (xs : List AV) : Option (AV × Heap) := orB P h b ts xs (aBuiltin P h b ts xs)
theorem orB_some (P : Program) (h : Heap) (b : Builtin) (ts : Array TypeId) (xs : List AV) (r : AV × Heap) : orB P h b ts xs (some r) = some r := rfl
theorem ev_builtin {ρ : Operand → AV} {c : Call} {b : Builtin} (hb : c.callee = .builtin b) : ev P ρ (.call c) h = bEv P h b c.argTypes (c.args.toList.map ρ) := by
  unfold ev bEv
  have : ev0 P ρ (.call c) h = aBuiltin P h b c.argTypes (c.args.toList.map ρ) := by simp only [ev0, hb]
  rw [this]
  cases aBuiltin P h b c.argTypes (c.args.toList.map ρ) with
  | some r => rfl
  | none => simp only [orElse, orB, ev2, hb]
theorem ev_sound (s : St F β w h) {ρ : Operand → AV} {ρ' : Operand → Value} (hρ : ∀ x, Rel (ctx F β w h) (ρ x) (ρ' x)) {o : Oper} {v : AV} {h' : Heap} (he : ev P ρ o.op h = some (v, h')) :
    EvOk F β w h ((execOp ρ' o).run P w) v h' := by
  unfold ev at he
  cases h0 : ev0 P ρ o.op h with
  | some r =>
    rw [h0] at he
    simp only [orElse, Option.some.injEq] at he
    subst he
    exact ev0_sound s hρ h0
  | none =>
    rw [h0] at he
    exact ev2_sound s hρ he
end
end Go.AH
