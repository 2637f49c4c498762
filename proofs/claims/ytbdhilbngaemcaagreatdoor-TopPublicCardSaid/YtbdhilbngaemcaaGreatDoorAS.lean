/- Calls of the library that are known; calls by cases. No condition. -/
import Derived.Test.YtbdhilbngaemcaaGreatDoorAI
import Derived.Laws.Externs
import Derived.Lib.Bytealg
import Derived.Lib.BytesEntry
import Derived.Lib.Builder
import Derived.Lib.MakeNoZero
import Derived.Lib.Overlaps
import Derived.Lib.Index
import Derived.Lib.ItoaNum
import Derived.Sort.Grow
import Derived.Deep.Draws
set_option linter.unusedVariables false
set_option linter.unusedSimpArgs false
namespace Go.AH
open Go
set_option linter.unusedVariables false
set_option linter.unusedSimpArgs false
/-! ### entries without a body -/
/-- A function that an entry of the model answers. -/
def Ent (P : Program) (f : FuncId) (e : Array Value → Sem Value) : Prop := ∃ fn, P.funcs[f]? = some fn ∧ (fn.name == "runtime.NumGoroutine") = false ∧ fn.body.isNone = true ∧ Extern.findNext fn = none ∧ Extern.find fn = some e
theorem acalls_entry {P : Program} {f : FuncId} {e : Array Value → Sem Value} (he : Ent P f e) {args : List AV} {h : Heap} {K : AEnd → Heap → Prop}
    (hk : ∀ (F : Fr) (β : Nat → Nat) (w : World) (vs : List Value), St F β w h → RelL (ctx F β w h) args vs → ∃ v w', (e vs.toArray).run P w = .ok v w' ∧ ∃ β' h' r, K (.ret r) h' ∧ Goes F β w h β' w' h' ∧ Rel (ctx F β' w' h') r v) : ACalls P f args h K := by
  obtain ⟨fn, h1, h2, h3, h4, h5⟩ := he
  intro F β w vs s r
  obtain ⟨v, w', hr, β', h', q, k, g, rv⟩ := hk F β w vs.toList s r
  refine .inr ⟨v, w', ?_, β', h', .ret q, k, g, v, rfl, rv⟩
  rw [run_callFunc_extern h1 h2 h3 h4 h5]
  rw [Array.toArray_toList] at hr
  rw [hr]
  rfl
/-- An entry that leaves the world as it is. -/
theorem acalls_entry0 {P : Program} {f : FuncId} {e : Array Value → Sem Value} (he : Ent P f e) {args : List AV} {h : Heap} {r : AV}
    (hk : ∀ (F : Fr) (β : Nat → Nat) (w : World) (vs : List Value), St F β w h → RelL (ctx F β w h) args vs → ∃ v, (e vs.toArray).run P w = .ok v w ∧ Rel (ctx F β w h) r v) : ACalls P f args h (fun r' h'' => r' = .ret r ∧ h'' = h) :=
  acalls_entry he fun F β w vs s rl => by
    obtain ⟨v, hr, rv⟩ := hk F β w vs s rl
    exact ⟨v, w, hr, β, h, r, ⟨rfl, rfl⟩, Goes.refl s, rv⟩
/-! ### bytes of texts -/
def byteE (c : Int) : Bool := decide (0 ≤ c) && decide (c < 256)
def sIdxB (c : Int) : List (List Int) → Nat → Option Int
  | [], _ => some (-1)
  | e :: l, i => match cmpE .eql e [c] with
    | some true => some (i : Nat)
    | some false => sIdxB c l (i + 1)
    | none => none
theorem byte_of {c : Int} (hc : byteE c = true) : ((c.toNat.toUInt8).toNat : Int) = c := by
  unfold byteE at hc
  simp only [Bool.and_eq_true, decide_eq_true_eq] at hc
  have : c.toNat.toUInt8.toNat = c.toNat % 256 := by simp [Nat.toUInt8]
  rw [this]; omega
theorem cmp_byte {c0 : Ctx} {c : Int} (hc : byteE c = true) {b : UInt8} {e : List Int} (hb : (b.toNat : Int) = linV c0.V.ρ e) {r : Bool} (h : cmpE .eql e [c] = some r) : (b == c.toNat.toUInt8) = r := by
  have := cmpE_cmpI c0.V h
  simp only [cmpI, Option.some.injEq] at this
  have e1 : linV c0.V.ρ [c] = c := by simp [linV, linS]
  rw [← hb, e1, ← byte_of hc] at this
  rw [← this]
  rw [Bool.eq_iff_iff]
  simp only [beq_iff_eq, decide_eq_true_eq]
  constructor
  · rintro rfl; rfl
  · intro q; exact UInt8.toNat_inj.1 (by omega)
theorem sIdxB_ok {c0 : Ctx} {c : Int} (hc : byteE c = true) : ∀ {l : List (List Int)} {i : Nat} {s : List UInt8} {r : Int}, sIdxB c l i = some r → SymOk c0 s l → (Lib.indexByte s c.toNat.toUInt8 = -1 ∧ r = -1) ∨ (0 ≤ Lib.indexByte s c.toNat.toUInt8 ∧ r = Lib.indexByte s c.toNat.toUInt8 + i)
  | [], i, s, r, h, q => by
    have : s = [] := by have := q.length; simpa using this
    subst this
    simp only [sIdxB, Option.some.injEq] at h
    left
    exact ⟨rfl, h.symm⟩
  | e :: l, i, s, r, h, q => by
    cases s with
    | nil => have := q.length; simp at this
    | cons b s =>
      have q' : (b.toNat : Int) = linV c0.V.ρ e ∧ SymOk c0 s l := by
        unfold SymOk at q
        simp only [List.map_cons, List.cons.injEq] at q
        exact q
      unfold sIdxB at h
      split at h
      · rename_i hh
        simp only [Option.some.injEq] at h
        have hb := cmp_byte hc q'.1 hh
        right
        unfold Lib.indexByte
        rw [if_pos hb]
        exact ⟨Int.le_refl _, by omega⟩
      · rename_i hh
        have hb := cmp_byte hc q'.1 hh
        have ih := sIdxB_ok hc h q'.2
        unfold Lib.indexByte
        rw [if_neg (by rw [hb]; simp)]
        rcases ih with ⟨h1, h2⟩ | ⟨h1, h2⟩
        · left; rw [h1]; exact ⟨rfl, h2⟩
        · right
          have hne : (Lib.indexByte s c.toNat.toUInt8 == -1) = false := by
            rw [beq_eq_false_iff_ne]; omega
          rw [hne]
          simp only [Bool.false_eq_true, if_false]
          constructor
          · omega
          · rw [h2]; omega
      · cases h
/-- internal/bytealg.IndexByteString -/
def spIdxB (args : List AV) (h : Heap) : Option OutH := match args with
  | [x, .int .u8 c] => match aSym x, byteE c with
    | some l, true => match sIdxB c l 0 with
      | some r => some (.int .i64 r, h)
      | none => none
    | _, _ => none
  | _ => none
theorem spIdxB_ok {P : Program} {f : FuncId} (he : Ent P f Extern.BytealgIndexByte.indexByte) {args : List AV} {h h' : Heap} {r : AV} (e : spIdxB args h = some (r, h')) : ACalls P f args h (fun r' h'' => r' = .ret r ∧ h'' = h') := by
  unfold spIdxB at e
  split at e <;> try (cases e; done)
  rename_i x c
  split at e <;> try (cases e; done)
  rename_i l hx hc
  split at e <;> try (cases e; done)
  rename_i n hn
  simp only [Option.some.injEq, Prod.mk.injEq] at e
  obtain ⟨rfl, rfl⟩ := e
  refine acalls_entry0 he fun F β w vs s rl => ?_
  obtain ⟨u, us, rfl, ru, v, vs', rfl, rv, rfl⟩ := rl
  obtain ⟨st, rfl, hs⟩ := aSym_rel hx ru
  have : v = .int .u8 c := rv
  subst this
  refine ⟨_, Lib.run_indexByteString _ _ _, ?_⟩
  show Value.int .i64 _ = .int .i64 n
  congr 1
  have := sIdxB_ok hc hn hs
  show Lib.indexByte st c.toNat.toUInt8 = n
  rcases this with ⟨h1, h2⟩ | ⟨h1, h2⟩
  · rw [h1, h2]
  · omega
def sCount (c : Int) : List (List Int) → Option Nat
  | [] => some 0
  | e :: l => match cmpE .eql e [c], sCount c l with
    | some true, some n => some (n + 1)
    | some false, some n => some n
    | _, _ => none
theorem sCount_ok {c0 : Ctx} {c : Int} (hc : byteE c = true) : ∀ {l : List (List Int)} {s : List UInt8} {r : Nat}, sCount c l = some r → SymOk c0 s l → Lib.countByte s c.toNat.toUInt8 = r
  | [], s, r, h, q => by
    have : s = [] := by have := q.length; simpa using this
    subst this
    simp only [sCount, Option.some.injEq] at h
    subst h; rfl
  | e :: l, s, r, h, q => by
    cases s with
    | nil => have := q.length; simp at this
    | cons b s =>
      have q' : (b.toNat : Int) = linV c0.V.ρ e ∧ SymOk c0 s l := by
        unfold SymOk at q
        simp only [List.map_cons, List.cons.injEq] at q
        exact q
      unfold sCount at h
      split at h <;> simp only [Option.some.injEq, reduceCtorEq] at h
      · rename_i n hh hn
        have hb := cmp_byte hc q'.1 hh
        have ih := sCount_ok hc hn q'.2
        unfold Lib.countByte at *
        rw [List.count_cons, ih, hb]
        simpa using h
      · rename_i n hh hn
        have hb := cmp_byte hc q'.1 hh
        have ih := sCount_ok hc hn q'.2
        unfold Lib.countByte at *
        rw [List.count_cons, ih, hb]
        simpa using h
/-- internal/bytealg.CountString -/
def spCount (args : List AV) (h : Heap) : Option OutH := match args with
  | [x, .int .u8 c] => match aSym x, byteE c with
    | some l, true => match sCount c l with
      | some r => some (.int .i64 (r : Nat), h)
      | none => none
    | _, _ => none
  | _ => none
theorem spCount_ok {P : Program} {f : FuncId} (he : Ent P f Extern.BytealgCount.count) {args : List AV} {h h' : Heap} {r : AV} (e : spCount args h = some (r, h')) : ACalls P f args h (fun r' h'' => r' = .ret r ∧ h'' = h') := by
  unfold spCount at e
  split at e <;> try (cases e; done)
  rename_i x c
  split at e <;> try (cases e; done)
  rename_i l hx hc
  split at e <;> try (cases e; done)
  rename_i n hn
  simp only [Option.some.injEq, Prod.mk.injEq] at e
  obtain ⟨rfl, rfl⟩ := e
  refine acalls_entry0 he fun F β w vs s rl => ?_
  obtain ⟨u, us, rfl, ru, v, vs', rfl, rv, rfl⟩ := rl
  obtain ⟨st, rfl, hs⟩ := aSym_rel hx ru
  have : v = .int .u8 c := rv
  subst this
  refine ⟨_, Lib.run_countString _ _ _, ?_⟩
  show Value.int .i64 _ = .int .i64 (n : Nat)
  have := sCount_ok hc hn hs
  show Value.int .i64 (Lib.countByte st c.toNat.toUInt8 : Nat) = _
  rw [this]
/-- internal/abi.NoEscape -/
def spSame (args : List AV) (h : Heap) : Option OutH := match args with
  | [x] => some (x, h)
  | _ => none
theorem spSame_ok {P : Program} {f : FuncId} (he : Ent P f Extern.AbiNoEscape.same) {args : List AV} {h h' : Heap} {r : AV} (e : spSame args h = some (r, h')) : ACalls P f args h (fun r' h'' => r' = .ret r ∧ h'' = h') := by
  unfold spSame at e
  split at e <;> try (cases e; done)
  rename_i x
  simp only [Option.some.injEq, Prod.mk.injEq] at e
  obtain ⟨rfl, rfl⟩ := e
  refine acalls_entry0 he fun F β w vs s rl => ?_
  obtain ⟨u, us, rfl, ru, rfl⟩ := rl
  exact ⟨_, Lib.run_noEscape _ _, ru⟩
end Go.AH
namespace Go.AH
open Go
set_option linter.unusedVariables false
set_option linter.unusedSimpArgs false
/-! ### bytes of slices -/
def intsOf : List AV → Option (List Int)
  | [] => some []
  | .int .u8 n :: l => match intsOf l with
    | some xs => some (n :: xs)
    | none => none
  | _ => none
theorem intsOf_rel {c : Ctx} : ∀ {cs : List AV} {xs : List Int} {vs : List Value}, intsOf cs = some xs → RelL c cs vs → vs = xs.map (Value.int .u8)
  | [], xs, vs, h, r => by
    simp only [intsOf, Option.some.injEq] at h
    subst h
    exact r
  | x :: cs, xs, vs, h, r => by
    unfold intsOf at h
    split at h
    · rename_i q; cases q
    · rename_i n l q
      cases q
      split at h <;> simp only [Option.some.injEq, reduceCtorEq] at h
      rename_i ys hy
      subst h
      obtain ⟨v, vs', rfl, rv, r'⟩ := r
      have : v = .int .u8 n := rv
      subst this
      rw [intsOf_rel hy r']
      rfl
    · cases h
/-- The bytes of a slice that lies in a block. -/
def bytesSl (h : Heap) (x : AV) : Option (List Int) := match x with
  | .sl id off len (some cap) => match rowAt h id with
    | some (cs, _, _) => if len ≤ cap ∧ 0 < cap then match cut cs off len with
      | some ds => intsOf ds
      | none => none else none
    | none => none
  | _ => none
section
variable {P : Program} {F : Fr} {β : Nat → Nat} {w : World} {h : Heap}
theorem St.cellOf (s : St F β w h) {id : Nat} {cs : List AV} {e : TypeId} {wh : Bool} (hr : rowAt h id = some (cs, e, wh)) {i : Nat} {x : AV} (hx : cs[i]? = some x) : ∃ y, w.cell? ⟨β id, i, none⟩ = some y ∧ Rel (ctx F β w h) x y := by
  obtain ⟨_, _, vs, fz, ho, ⟨ys, zs, e1, r, _⟩, _, _⟩ := s.rowOf hr
  obtain ⟨y, hy, ry⟩ := r.get hx
  refine ⟨y, ?_, ry⟩
  have hlt := (List.getElem?_eq_some_iff.1 hy).1
  have : vs[i]? = some y := by rw [← Array.getElem?_toList, e1, List.getElem?_append_left hlt]; exact hy
  simp only [World.cell?, ho]
  simpa using this
theorem run_bytesSl (s : St F β w h) {x : AV} {u : Value} {xs : List Int} (hx : bytesSl h x = some xs) (r : Rel (ctx F β w h) x u) : (Extern.Bytes.bytesOf u).run P w = .ok ⟨(Lib.bytesOf xs).toArray⟩ w := by
  unfold bytesSl at hx
  split at hx <;> try (cases hx; done)
  rename_i id off len cap
  split at hx <;> try (cases hx; done)
  rename_i cs e wh hrow
  split at hx <;> try (cases hx; done)
  rename_i hc
  split at hx <;> try (cases hx; done)
  rename_i ds hcut
  obtain ⟨hid, o, cap', rfl, ho, hle, hcap⟩ := r
  have hcap := hcap cap rfl
  have ho : o = off := by rcases ho with q | q; exact q; omega
  subst ho
  obtain ⟨h1, h2, h3⟩ := cut_len hcut
  have hints : ∀ (ds : List AV) (xs : List Int), intsOf ds = some xs → xs.length = ds.length ∧ ∀ (j : Nat) (x : Int), xs[j]? = some x → ds[j]? = some (AV.int .u8 x) := by
    intro ds
    induction ds with
    | nil => intro xs h; simp only [intsOf, Option.some.injEq] at h; subst h; simp
    | cons y ds ih =>
      intro xs h
      unfold intsOf at h
      split at h
      · rename_i q; cases q
      · rename_i n l q
        cases q
        split at h <;> simp only [Option.some.injEq, reduceCtorEq] at h
        rename_i zs hz
        subst h
        obtain ⟨p1, p2⟩ := ih _ hz
        refine ⟨by simp [p1], ?_⟩
        intro j x hj
        cases j with
        | zero => simp at hj ⊢; exact hj
        | succ j => simpa using p2 j x (by simpa using hj)
      · cases h
  obtain ⟨hl, hg⟩ := hints ds xs hx
  have hrun := Lib.run_loadBytesX (P := P) w xs ⟨β id, o, none⟩ .empty (fun j x hj => by
    have e1 : (⟨β id, o, none⟩ : Addr).add j = ⟨β id, o + j, none⟩ := by unfold Addr.add; split <;> simp_all
    have hd := hg j x hj
    rw [h3] at hd
    have hjl : j < len := by have := (List.getElem?_eq_some_iff.1 hj).1; omega
    rw [List.getElem?_take_of_lt hjl, List.getElem?_drop] at hd
    obtain ⟨y, hy, ry⟩ := s.cellOf hrow hd
    have : y = .int .u8 x := ry
    subst this
    rw [e1]
    exact hy)
  have hlen : xs.length = len := by omega
  rw [hlen] at hrun
  show (Extern.Bytes.loadBytes ⟨β id, o, none⟩ len .empty).run P w = _
  rw [hrun]
  congr 1
  apply ByteArray.ext
  show (#[] : Array UInt8) ++ _ = _
  simp
end
/-- internal/bytealg.Compare -/
def spCmp (args : List AV) (h : Heap) : Option OutH := match args with
  | [x, y] => match bytesSl h x, bytesSl h y with
    | some xs, some ys => some (.int .i64 (Lib.compareBytes (Lib.bytesOf xs) (Lib.bytesOf ys)), h)
    | _, _ => none
  | _ => none
theorem spCmp_ok {P : Program} {f : FuncId} (he : Ent P f Extern.BytealgCompare.compare) {args : List AV} {h h' : Heap} {r : AV} (e : spCmp args h = some (r, h')) : ACalls P f args h (fun r' h'' => r' = .ret r ∧ h'' = h') := by
  unfold spCmp at e
  split at e <;> try (cases e; done)
  rename_i x y
  split at e <;> try (cases e; done)
  rename_i xs ys hx hy
  simp only [Option.some.injEq, Prod.mk.injEq] at e
  obtain ⟨rfl, rfl⟩ := e
  refine acalls_entry0 he fun F β w vs s rl => ?_
  obtain ⟨u, us, rfl, ru, v, vs', rfl, rv, rfl⟩ := rl
  refine ⟨_, ?_, (rfl : Rel _ (.int .i64 _) (.int .i64 _))⟩
  have h1 := run_bytesSl (P := P) s hx ru
  have h2 := run_bytesSl (P := P) s hy rv
  show ((do pure (goInt (Extern.BytealgCompare.cmp (← Extern.Bytes.bytesOf u) (← Extern.Bytes.bytesOf v))) : Sem Value)).run P w = _
  simp only [Sem.run_bind, h1, h2, Sem.run_pure, Result.andThen]
  rw [Lib.cmp_eq]
  rfl
/-- internal/bytealg.MakeNoZero: e is a byte's type. -/
def spMkNZ (e : TypeId) (args : List AV) (h : Heap) : Option OutH := match args with
  | [.int .i64 n] => if 0 ≤ n ∧ n ≤ 281474976710656 then some (.gsl h.length n.toNat 1, h ++ [some (.row (List.replicate n.toNat .unk) e false)]) else none
  | _ => none
theorem relL_unks {c : Ctx} : ∀ (vs : List Value), RelL c (List.replicate vs.length .unk) vs
  | [] => rfl
  | v :: vs => ⟨v, vs, rfl, trivial, relL_unks vs⟩
theorem spMkNZ_ok {P : Program} {f : FuncId} {ps : Array TypeId} {t e : TypeId} (ht : P.underlying t = some (.slice e)) (he : Ent P f (Extern.BytealgMakeNoZero.makeNoZero ps #[t])) {args : List AV} {h h' : Heap} {r : AV} (q : spMkNZ e args h = some (r, h')) : ACalls P f args h (fun r' h'' => r' = .ret r ∧ h'' = h') := by
  unfold spMkNZ at q
  split at q <;> try (cases q; done)
  rename_i n
  split at q <;> try (cases q; done)
  rename_i hn
  simp only [Option.some.injEq, Prod.mk.injEq] at q
  obtain ⟨rfl, rfl⟩ := q
  refine acalls_entry he fun F β w vs s rl => ?_
  obtain ⟨u, us, rfl, ru, rfl⟩ := rl
  have : u = .int .i64 n := ru
  subst this
  obtain ⟨cs, hr, hle, _⟩ := Lib.run_makeNoZero (P := P) w ps t e ht n.toNat (by omega)
  have hnn : ((n.toNat : Nat) : Int) = n := by omega
  rw [hnn] at hr
  have g0 := s.drew w.drew rfl rfl rfl rfl
  have g1 := g0.st.made (.cells cs e) (.row (List.replicate n.toNat .unk) e false) ⟨cs, (0, 0), rfl, ⟨cs.toList.take n.toNat, cs.toList.drop n.toNat, by simp, by
    have := relL_unks (c := ctx F β w.drew.drew h) (cs.toList.take n.toNat)
    rwa [List.length_take, Array.length_toList, Nat.min_eq_left hle] at this, by simp⟩, by simp⟩
  refine ⟨_, _, hr, _, _, _, ⟨rfl, rfl⟩, g0.trans g1, ?_⟩
  refine ⟨by simp, cs.size, e, ?_, hle, ?_⟩
  · simp only [if_pos]; rfl
  · simp only [if_pos, World.shape?, show (w.drew.drew.alloc (.cells cs e)).heap[w.drew.heap.size]? = some _ from heap_alloc_new w.drew.drew _]
    simp
end Go.AH
namespace Go.AH
open Go
set_option linter.unusedVariables false
set_option linter.unusedSimpArgs false
/-- A slice that lies in a block, at a cell that is known of. -/
def slAt (h : Heap) (x : AV) : Option (Nat × Nat) := match x with
  | .sl id off len _ => if 0 < len then match rowAt h id with
    | some (cs, _, _) => if off < cs.length then some (id, off) else none
    | none => none else none
  | .gsl id len _ => if 0 < len then match rowAt h id with
    | some (cs, _, _) => if 0 < cs.length then some (id, 0) else none
    | none => none else none
  | _ => none
theorem slAt_rel {F : Fr} {β : Nat → Nat} {w : World} {h : Heap} (s : St F β w h) {x : AV} {u : Value} {id off : Nat} (hx : slAt h x = some (id, off)) (r : Rel (ctx F β w h) x u) :
    ∃ len cap e n, u = .slice (some ⟨β id, off, none⟩) len cap ∧ w.shape? (β id) = some (e, n) ∧ off < n ∧ w.frozen? ⟨β id, off, none⟩ = false := by
  have core : ∀ {cs : List AV} {e : TypeId} {wh : Bool}, rowAt h id = some (cs, e, wh) → off < cs.length → ∃ e n, w.shape? (β id) = some (e, n) ∧ off < n ∧ w.frozen? ⟨β id, off, none⟩ = false := by
    intro cs e wh hrow hlt
    obtain ⟨_, _, vs, fz, ho, _, hfz, hle⟩ := s.rowOf hrow
    refine ⟨e, vs.size, by simp only [World.shape?, ho], by omega, ?_⟩
    have := hfz off (by omega)
    simp only [World.frozen?, ho]
    simpa using this
  unfold slAt at hx
  split at hx
  · rename_i id' off' len cap
    split at hx <;> try (cases hx; done)
    rename_i hl
    split at hx <;> try (cases hx; done)
    rename_i cs e wh hrow
    split at hx <;> simp only [Option.some.injEq, Prod.mk.injEq, reduceCtorEq] at hx
    rename_i hlt
    obtain ⟨rfl, rfl⟩ := hx
    obtain ⟨h1, o, cap', rfl, h2, h3, _⟩ := r
    have : o = off' := by rcases h2 with q | q; exact q; omega
    subst this
    obtain ⟨e, n, q1, q2, q3⟩ := core hrow hlt
    exact ⟨len, cap', e, n, rfl, q1, q2, q3⟩
  · rename_i id' len esz
    split at hx <;> try (cases hx; done)
    rename_i hl
    split at hx <;> try (cases hx; done)
    rename_i cs e wh hrow
    split at hx <;> simp only [Option.some.injEq, Prod.mk.injEq, reduceCtorEq] at hx
    rename_i hlt
    obtain ⟨rfl, rfl⟩ := hx
    obtain ⟨h1, cap', e', rfl, h2, h3⟩ := r
    obtain ⟨e, n, q1, q2, q3⟩ := core hrow hlt
    exact ⟨len, cap', e, n, rfl, q1, q2, q3⟩
  · cases hx
/-- slices.overlaps: whatever it says. -/
def spOver (args : List AV) (h : Heap) : Option OutH := match args with
  | [x, y] => match slAt h x, slAt h y with
    | some _, some _ => some (.anyb, h)
    | _, _ => none
  | _ => none
theorem spOver_ok {P : Program} {f : FuncId} {tS tR e : TypeId} (ht : P.underlying tS = some (.slice e)) (size : Nat) (hz : ∀ w, (Go.sizeOf e).run P w = .ok size w) (he : Ent P f (Extern.SlicesOverlaps.overlaps #[tS, tS] #[tR])) {args : List AV} {h h' : Heap} {r : AV} (q : spOver args h = some (r, h')) : ACalls P f args h (fun r' h'' => r' = .ret r ∧ h'' = h') := by
  unfold spOver at q
  split at q <;> try (cases q; done)
  rename_i x y
  split at q <;> try (cases q; done)
  rename_i p1 p2 hx hy
  simp only [Option.some.injEq, Prod.mk.injEq] at q
  obtain ⟨rfl, rfl⟩ := q
  refine acalls_entry he fun F β w vs s rl => ?_
  obtain ⟨u, us, rfl, ru, v, vs', rfl, rv, rfl⟩ := rl
  obtain ⟨la, ca, ea, na, rfl, a1, a2, a3⟩ := slAt_rel s hx ru
  obtain ⟨lb, cb, eb, nb, rfl, b1, b2, b3⟩ := slAt_rel s hy rv
  have key : ∃ b w', (Extern.SlicesOverlaps.overlaps #[tS, tS] #[tR] #[.slice (some ⟨β p1.1, p1.2, none⟩) la ca, .slice (some ⟨β p2.1, p2.2, none⟩) lb cb]).run P w = .ok (.bool b) w' ∧ (w' = w ∨ w' = w.drew) := by
    change ∃ b w', Sem.run P (α := Value) (do
      let some t := (#[tS, tS] : Array TypeId)[0]? | stuck "slices.overlaps: no parameter types"
      let .slice elem ← underlying t | stuck "slices.overlaps: slice type expected"
      let size ← sizeOf elem
      match (some ⟨β p1.1, p1.2, none⟩ : Option Addr), (some ⟨β p2.1, p2.2, none⟩ : Option Addr) with
      | some a, some b =>
        if la = 0 ∨ lb = 0 ∨ size = 0 then pure (Value.bool false)
        else if a.block != b.block && (← frozen a) && (← frozen b) then unsupported .addressObserved
        else do
          if a.block != b.block then do
            noView a; noView b
            if ← mayBeOne a b then return Value.bool ((← choose (.extern "sameAddr.stringBytes" 2)) == 1)
          pure (Value.bool (a.block == b.block && a.off < b.off + lb * size && b.off < a.off + la * size))
      | _, _ => pure (Value.bool false)) w = _ ∧ _
    by_cases h0 : la = 0 ∨ lb = 0 ∨ size = 0
    · exact ⟨false, w, by simp [run_underlying ht, hz, h0], .inl rfl⟩
    · by_cases hne : β p1.1 = β p2.1
      · refine ⟨decide (p1.2 < p2.2 + lb * size) && decide (p2.2 < p1.2 + la * size), w, ?_, .inl rfl⟩
        simp [run_underlying ht, hz, h0, hne, frozen, Sem.run]
      · have hnb : (β p1.1 != β p2.1) = true := by simpa using hne
        have hnb' : (β p1.1 == β p2.1) = false := by simpa using hne
        cases hm : (mayBeOne ⟨β p1.1, p1.2, none⟩ ⟨β p2.1, p2.2, none⟩).run P w with
        | ok m w2 =>
          have hw2 : w2 = w := by
            simp [mayBeOne, stringish, frozen, shape, Sem.run, a1, a3, b1, b3] at hm
            exact hm.2.symm
          subst hw2
          cases m with
          | true =>
            refine ⟨(Question.extern "sameAddr.stringBytes" 2).cut (w2.tape w2.drawn (Question.extern "sameAddr.stringBytes" 2)) == 1, w2.drew, ?_, .inr rfl⟩
            have hf : (Question.extern "sameAddr.stringBytes" 2).forced = false := rfl
            simp [run_underlying ht, hz, h0, hnb, hnb', frozen, noView, viewAt, shape, Sem.run, a1, b1, a3, b3, hm, hf]
          | false =>
            refine ⟨false, w2, ?_, .inl rfl⟩
            simp [run_underlying ht, hz, h0, hnb, hnb', frozen, noView, viewAt, shape, Sem.run, a1, b1, a3, b3, hm]
        | halt st w2 =>
          exfalso
          simp [mayBeOne, stringish, frozen, shape, Sem.run, a1, a3, b1, b3] at hm
  obtain ⟨b, w', h1, h2⟩ := key
  rcases h2 with rfl | rfl
  · exact ⟨_, _, h1, β, h, .anyb, ⟨rfl, rfl⟩, Goes.refl s, b, rfl⟩
  · exact ⟨_, _, h1, β, h, .anyb, ⟨rfl, rfl⟩, s.drew w.drew rfl rfl rfl rfl, b, rfl⟩
end Go.AH
namespace Go.AH
open Go
set_option linter.unusedVariables false
set_option linter.unusedSimpArgs false
/-! ### where a text stands in another -/
def sIdx (m : List (List Int)) : List (List Int) → Nat → Option Int
  | [], i => match symEq [] m with
    | some true => some (i : Nat)
    | some false => some (-1)
    | none => none
  | e :: l, i => match symEq ((e :: l).take m.length) m with
    | some true => some (i : Nat)
    | some false => sIdx m l (i + 1)
    | none => none
theorem prefix_take {α : Type} [BEq α] [LawfulBEq α] : ∀ (sub s : List α), sub.isPrefixOf s = (s.take sub.length == sub)
  | [], s => by simp
  | a :: sub, [] => rfl
  | a :: sub, b :: s => by
    rw [List.isPrefixOf_cons_cons, List.length_cons, List.take_succ_cons, prefix_take sub s]
    show _ = (b == a && _)
    congr 1
    exact Bool.eq_iff_iff.2 ⟨fun h => by simp at h ⊢; exact h.symm, fun h => by simp at h ⊢; exact h.symm⟩
theorem sIdx_ok {c0 : Ctx} {m : List (List Int)} {t : List UInt8} (hm : SymOk c0 t m) : ∀ {l : List (List Int)} {i : Nat} {s : List UInt8} {r : Int}, sIdx m l i = some r → SymOk c0 s l → (Lib.index s t = -1 ∧ r = -1) ∨ (0 ≤ Lib.index s t ∧ r = Lib.index s t + i)
  | [], i, s, r, h, q => by
    have : s = [] := by have := q.length; simpa using this
    subst this
    unfold sIdx at h
    split at h <;> simp only [Option.some.injEq, reduceCtorEq] at h
    · rename_i hh
      have := symEq_ok hh q hm
      have ht : t = [] := by simpa using (beq_iff_eq.1 this).symm
      subst ht
      right
      exact ⟨by decide, by rw [← h]; show (i : Int) = 0 + i; omega⟩
    · rename_i hh
      have := symEq_ok hh q hm
      have ht : t.isEmpty = false := by
        cases t with
        | nil => simp at this
        | cons _ _ => rfl
      left
      exact ⟨by unfold Lib.index; rw [ht]; rfl, h.symm⟩
  | e :: l, i, s, r, h, q => by
    cases s with
    | nil => have := q.length; simp at this
    | cons b s =>
      have hl : t.length = m.length := hm.length
      have q' : SymOk c0 s l := by
        unfold SymOk at q ⊢
        simp only [List.map_cons, List.cons.injEq] at q
        exact q.2
      unfold sIdx at h
      split at h <;> try (cases h; done)
      · rename_i hh
        have := symEq_ok hh (q.take m.length) hm
        rw [← hl, ← prefix_take] at this
        simp only [Option.some.injEq] at h
        right
        unfold Lib.index
        rw [if_pos this]
        exact ⟨Int.le_refl _, by omega⟩
      · rename_i hh
        have := symEq_ok hh (q.take m.length) hm
        rw [← hl, ← prefix_take] at this
        have ih := sIdx_ok hm h q'
        unfold Lib.index
        rw [if_neg (by rw [this]; simp)]
        rcases ih with ⟨h1, h2⟩ | ⟨h1, h2⟩
        · left; rw [h1]; exact ⟨rfl, h2⟩
        · right
          have hne : (Lib.index s t == -1) = false := by
            rw [beq_eq_false_iff_ne]; omega
          rw [hne]
          simp only [Bool.false_eq_true, if_false]
          constructor
          · omega
          · rw [h2]; omega
/-- internal/stringslite.Index -/
def spIndex (args : List AV) (h : Heap) : Option OutH := match args with
  | [x, y] => match aSym x, aSym y with
    | some l, some m => if l.length < 4294967281 then match sIdx m l 0 with
      | some r => some (.int .i64 r, h)
      | none => none else none
    | _, _ => none
  | _ => none
theorem spIndex_ok {P : Program} {f : FuncId} (hc : Callable P f)
    (hk : ∀ (s sub : ByteArray) (m : Int) (w : World), s.size < 4294967281 → w.cell? ⟨0, 0, none⟩ = some (.int .i64 m) → Calls P f #[.string s, .string sub] w fun e w' => e = .returned (.int .i64 (Lib.index s.data.toList sub.data.toList)) ∧ w' = w)
    {args : List AV} {h h' : Heap} {r : AV} (e : spIndex args h = some (r, h')) : ACalls P f args h (fun r' h'' => r' = .ret r ∧ h'' = h') := by
  unfold spIndex at e
  split at e <;> try (cases e; done)
  rename_i x y
  split at e <;> try (cases e; done)
  rename_i l m hx hy
  split at e <;> try (cases e; done)
  rename_i hl
  split at e <;> try (cases e; done)
  rename_i n hn
  simp only [Option.some.injEq, Prod.mk.injEq] at e
  obtain ⟨rfl, rfl⟩ := e
  intro F β w vs s rl
  obtain ⟨u, us, e1, ru, v, vs', e2, rv, e3⟩ := rl
  have e3' : vs' = [] := e3
  subst e3' e2
  have hvs : vs = #[u, v] := by rw [← Array.toArray_toList (xs := vs), e1]
  subst hvs
  obtain ⟨s1, rfl, hs1⟩ := aSym_rel hx ru
  obtain ⟨s2, rfl, hs2⟩ := aSym_rel hy rv
  obtain ⟨_, _, hg, _⟩ := s.gl (0, [.any .i64]) (by simp [gtab])
  obtain ⟨y0, hy0, k, rfl⟩ := hg 0 (.any .i64) rfl
  refine .inl ⟨hc, (hk ⟨s1.toArray⟩ ⟨s2.toArray⟩ k w (by have := hs1.length; show s1.length < _; omega) hy0).mono ?_⟩
  rintro e w' ⟨rfl, rfl⟩
  refine ⟨β, h, .ret (.int .i64 n), ⟨rfl, rfl⟩, Goes.refl s, _, rfl, ?_⟩
  have := sIdx_ok hs2 hn hs1
  show Value.int .i64 (Lib.index s1 s2) = .int .i64 n
  congr 1
  rcases this with ⟨h1, h2⟩ | ⟨h1, h2⟩
  · rw [h1, h2]
  · omega
/-! ### a number of a small range -/
/-- A contract at every number of a range. -/
theorem ACalls.enum {P : Program} {f : FuncId} {x : AV} {k : IntKind} {e : List Int} {h : Heap} {K : AEnd → Heap → Prop} (hall : ∀ n : Int, loV e ≤ n → n ≤ hiV e → ACalls P f [x, .int k n] h K) : ACalls P f [x, .lin k e] h K := by
  intro F β w vs s rl
  obtain ⟨u, us, e1, ru, v, vs', e2, rv, e3⟩ := rl
  have bd := linV_bound F.V e
  exact hall (linV F.V.ρ e) bd.1 bd.2 F β w vs s ⟨u, us, e1, ru, v, vs', e2, rv, e3⟩
end Go.AH
namespace Go.AH
open Go
set_option linter.unusedVariables false
set_option linter.unusedSimpArgs false
/-- A slice over all that is known of its block: its capacity is its length, or its block has one element more. -/
theorem ACalls.split {P : Program} {f : FuncId} {n esz : Nat} {rest : List AV} {cs : List AV} {e : TypeId} {wh : Bool} {hr h1 : Heap} {r : AV} (hlen : cs.length ≤ n * esz) (hp : 0 < esz)
    (A : ACalls P f (.sl 0 0 n (some n) :: rest) (some (.row cs e wh) :: hr) (fun r' h'' => r' = .ret r ∧ h'' = h1))
    (B : ACalls P f (.gsl 0 n esz :: rest) (some (.row (cs ++ List.replicate esz .unk) e wh) :: hr) (fun r' h'' => r' = .ret r ∧ h'' = h1)) :
    ACalls P f (.gsl 0 n esz :: rest) (some (.row cs e wh) :: hr) (fun r' h'' => r' = .ret r ∧ h'' = h1) := by
  intro F β w vs s rl
  obtain ⟨v0, vt, ev, r0, rt⟩ := rl
  obtain ⟨hid, cap', e', rfl, hle, hsh⟩ := r0
  by_cases hc : cap' = n
  · subst hc
    exact A F β w vs s ⟨_, vt, ev, ⟨hid, 0, cap', rfl, .inl rfl, hle, fun x hx => by cases hx; rfl⟩, rt⟩
  · obtain ⟨o, ho, vs0, fz, rfl, ⟨ys, zs, e1, rr, hz⟩, hfz⟩ := s.live 0 (.row cs e wh) rfl
    have hsize : vs0.size = cap' * esz := by
      have hsh' : w.shape? (β 0) = some (e', cap' * esz) := hsh
      simp only [World.shape?, ho] at hsh'
      simp at hsh'
      exact hsh'.2
    have hmul : (n + 1) * esz ≤ cap' * esz := Nat.mul_le_mul_right _ (by omega)
    rw [Nat.add_mul, Nat.one_mul] at hmul
    have hyl : ys.length = cs.length := rr.length.symm
    have htot : vs0.size = ys.length + zs.length := by
      have := congrArg List.length e1
      rwa [Array.length_toList, List.length_append] at this
    have hzl : esz ≤ zs.length := by omega
    have own : ∀ b, Own β (some (.row (cs ++ List.replicate esz .unk) e wh) :: hr) b ↔ Own β (some (.row cs e wh) :: hr) b := by
      intro b
      constructor
      · rintro ⟨id, blk, hb, q⟩
        cases id with
        | zero => exact ⟨0, _, rfl, q⟩
        | succ id => exact ⟨id + 1, blk, hb, q⟩
      · rintro ⟨id, blk, hb, q⟩
        cases id with
        | zero => exact ⟨0, _, rfl, q⟩
        | succ id => exact ⟨id + 1, blk, hb, q⟩
    have le : (ctx F β w (some (.row cs e wh) :: hr)).le (ctx F β w (some (.row (cs ++ List.replicate esz .unk) e wh) :: hr)) :=
      ⟨Nat.le_refl _, fun _ _ => rfl, s.lt, Nat.le_refl _, fun _ _ _ _ _ q => q, fun _ _ => rfl, fun b q => .inl (q.imp (own b).1 id), rfl⟩
    have s' : St F β w (some (.row (cs ++ List.replicate esz .unk) e wh) :: hr) := by
      refine ⟨fun id blk hb => ?_, fun i j bi bj hi hj q => ?_, fun b hF q => s.sep b hF ((own b).1 q), s.flt, s.lt, s.gl.mono fun b q => (own b).1 q⟩
      · cases id with
        | zero =>
          simp only [List.getElem?_cons_zero, Option.some.injEq] at hb
          subst hb
          refine ⟨_, ho, vs0, fz, rfl, ⟨ys ++ zs.take esz, zs.drop esz, by rw [List.append_assoc, List.take_append_drop]; exact e1, (RelL.le le _ _ rr).append ?_, fun q => ?_⟩, hfz⟩
          · have := relL_unk (c := ctx F β w (some (.row (cs ++ List.replicate esz .unk) e wh) :: hr)) (zs.take esz)
            rwa [List.length_take, Nat.min_eq_left hzl] at this
          · have := hz q
            rw [this] at hzl
            simp at hzl
            omega
        | succ id =>
          obtain ⟨o2, h2, h3⟩ := s.live (id + 1) blk hb
          exact ⟨o2, h2, BlkRel.le le h3⟩
      · have get : ∀ (i : Nat) (bi : Blk), (some (Blk.row (cs ++ List.replicate esz .unk) e wh) :: hr)[i]? = some (some bi) → ∃ b : Blk, (some (Blk.row cs e wh) :: hr)[i]? = some (some b) := by
          intro i bi hi
          cases i with
          | zero => exact ⟨_, rfl⟩
          | succ i => exact ⟨bi, hi⟩
        obtain ⟨b1, q1⟩ := get i bi hi
        obtain ⟨b2, q2⟩ := get j bj hj
        exact s.inj i j b1 b2 q1 q2 q
    refine (B F β w vs s' ⟨_, vt, ev, ⟨hid, cap', e', rfl, hle, hsh⟩, RelL.le le _ _ rt⟩).mono ?_
    rintro en w' ⟨β', h2, r2, k, g, he⟩
    exact ⟨β', h2, r2, k, ⟨g.st, g.step.weaken fun b => (own b).1, g.len, g.β⟩, he⟩
end Go.AH
namespace Go.AH
open Go
set_option linter.unusedVariables false
set_option linter.unusedSimpArgs false
/-! ### decimals of named numbers -/
def dv (a : Nat) (ds : List Nat) : Nat := ds.foldl (fun a d => 10 * a + d) a
theorem decDigits_step (a d : Nat) (ha : 0 < a) (hd : d < 10) : Lib.decDigits (10 * a + d) = Lib.decDigits a ++ [UInt8.ofNat (48 + d)] := by
  conv => lhs; unfold Lib.decDigits
  rw [dif_neg (by omega), show (10 * a + d) / 10 = a by omega, show (10 * a + d) % 10 = d by omega]
theorem decDigits_dv : ∀ (ds : List Nat) (a : Nat), 0 < a → (∀ d ∈ ds, d < 10) → Lib.decDigits (dv a ds) = Lib.decDigits a ++ ds.map fun d => UInt8.ofNat (48 + d)
  | [], a, _, _ => by simp [dv]
  | d :: ds, a, ha, hd => by
    have hd0 := hd d (by simp)
    show Lib.decDigits (dv (10 * a + d) ds) = _
    rw [decDigits_dv ds (10 * a + d) (by omega) (fun x hx => hd x (by simp [hx])), decDigits_step a d ha hd0]
    simp
def valE (l : List (List Int)) : List Int := l.foldl (fun a d => addL (mulL 10 a) (subL d [48])) []
def digB (e : List Int) : Bool := decide (48 ≤ loV e) && decide (hiV e ≤ 57)
def digOk : List (List Int) → Bool
  | [] => false
  | [e] => digB e
  | e :: l => decide (49 ≤ loV e) && decide (hiV e ≤ 57) && l.all digB
theorem valE_go (ρ : Nat → Int) : ∀ (l : List (List Int)) (a : List Int) (s : List UInt8) (n : Nat), linV ρ a = n → s.map (fun b => (b.toNat : Int)) = l.map (linV ρ) → (∀ b ∈ s, 48 ≤ b.toNat ∧ b.toNat ≤ 57) →
    linV ρ (l.foldl (fun a d => addL (mulL 10 a) (subL d [48])) a) = (dv n (s.map fun b => b.toNat - 48) : Nat)
  | [], a, s, n, ha, hs, _ => by
    have : s = [] := by simpa using congrArg List.length hs
    subst this
    exact ha
  | e :: l, a, [], n, ha, hs, _ => by simp at hs
  | e :: l, a, b :: s, n, ha, hs, hb => by
    simp only [List.map_cons, List.cons.injEq] at hs
    have h1 := hb b (by simp)
    rw [List.foldl_cons, List.map_cons]
    show _ = ((dv (10 * n + (b.toNat - 48)) (s.map fun b => b.toNat - 48) : Nat) : Int)
    refine valE_go ρ l _ s _ ?_ hs.2 fun x hx => hb x (by simp [hx])
    rw [linV_add, linV_mul, linV_sub, ha, ← hs.1]
    have : linV ρ [48] = 48 := by simp [linV, linS]
    rw [this]; omega
theorem itoa_ok {c : Ctx} {l : List (List Int)} {s : List UInt8} (hd : digOk l = true) (hs : SymOk c s l) : Lib.itoa (linV c.V.ρ (valE l)) = s ∧ 0 ≤ linV c.V.ρ (valE l) := by
  have hb : ∀ (l : List (List Int)) (s : List UInt8), l.all digB = true → SymOk c s l → ∀ b ∈ s, 48 ≤ b.toNat ∧ b.toNat ≤ 57 := by
    intro l
    induction l with
    | nil =>
      intro s _ h b hb
      have : s = [] := by
        have := SymOk.length h
        simpa using this
      rw [this] at hb
      simp at hb
    | cons e l ih =>
      intro s h1 h2 b hb
      cases s with
      | nil => simp at hb
      | cons b0 s =>
        unfold SymOk at h2
        simp only [List.map_cons, List.cons.injEq] at h2
        rw [List.all_cons, Bool.and_eq_true] at h1
        rcases List.mem_cons.1 hb with rfl | hb
        · have bd := linV_bound c.V e
          have h3 := h1.1
          unfold digB at h3
          simp only [Bool.and_eq_true, decide_eq_true_eq] at h3
          omega
        · exact ih s h1.2 h2.2 b hb
  have all : l.all digB = true := by
    unfold digOk at hd
    split at hd
    · cases hd
    · simpa using hd
    · rw [Bool.and_eq_true, Bool.and_eq_true] at hd
      rw [List.all_cons, Bool.and_eq_true]
      refine ⟨?_, hd.2⟩
      unfold digB
      simp only [Bool.and_eq_true, decide_eq_true_eq] at hd ⊢
      omega
  have hbs := hb l s all hs
  cases l with
  | nil => cases hd
  | cons e l =>
    cases s with
    | nil => have := hs.length; simp at this
    | cons b s =>
      have h0 := hbs b (by simp)
      have hs' := hs
      unfold SymOk at hs'
      simp only [List.map_cons, List.cons.injEq] at hs'
      have hv : linV c.V.ρ (valE (e :: l)) = (dv (b.toNat - 48) (s.map fun b => b.toNat - 48) : Nat) := by
        have e0 : linV c.V.ρ ([] : List Int) = ((0 : Nat) : Int) := by simp [linV]
        have := valE_go c.V.ρ (e :: l) [] (b :: s) 0 e0 hs hbs
        unfold valE
        rw [this]
        show ((dv (10 * 0 + (b.toNat - 48)) _ : Nat) : Int) = _
        rw [show 10 * 0 + (b.toNat - 48) = b.toNat - 48 by omega]
      rw [hv]
      refine ⟨?_, Int.natCast_nonneg _⟩
      unfold Lib.itoa
      rw [if_neg (by omega), Int.toNat_natCast]
      have bytes : ∀ x ∈ s, UInt8.ofNat (48 + (x.toNat - 48)) = x := by
        intro x hx
        have := hbs x (by simp [hx])
        rw [show 48 + (x.toNat - 48) = x.toNat by omega]
        simp
      have b0 : UInt8.ofNat (48 + (b.toNat - 48)) = b := by
        rw [show 48 + (b.toNat - 48) = b.toNat by omega]
        simp
      have one : Lib.decDigits (b.toNat - 48) = [b] := by
        unfold Lib.decDigits
        rw [dif_pos (by omega), b0]
      cases l with
      | nil =>
        have : s = [] := by have := hs.length; simpa using this
        subst this
        exact one
      | cons e2 l =>
        have hpos : 0 < b.toNat - 48 := by
          unfold digOk at hd
          rw [Bool.and_eq_true, Bool.and_eq_true] at hd
          simp only [decide_eq_true_eq] at hd
          have bd := linV_bound c.V e
          omega
        rw [decDigits_dv _ _ hpos (by
          intro d hd
          obtain ⟨x, hx, rfl⟩ := List.mem_map.1 hd
          have := hbs x (by simp [hx])
          omega), one, List.map_map]
        show [b] ++ s.map (fun x => UInt8.ofNat (48 + (x.toNat - 48))) = b :: s
        rw [List.map_congr_left bytes]
        simp
theorem St.growL {F : Fr} {β : Nat → Nat} {h : Heap} : ∀ (os : List Obj) {w : World}, St F β w h → Goes F β w h β (Go.Sort.grow w os.toArray) h
  | [], w, s => by
    have : Go.Sort.grow w ([] : List Obj).toArray = w := Go.Sort.grow_empty w
    rw [this]
    exact Goes.refl s
  | o :: os, w, s => by
    have g := s.aside o
    have g2 := St.growL os g.st
    rw [Go.Sort.alloc_eq_grow, Go.Sort.grow_grow] at g2
    have : (#[o] ++ os.toArray : Array Obj) = (o :: os).toArray := by simp
    rw [this] at g2
    rw [Go.Sort.alloc_eq_grow] at g
    exact g.trans g2
end Go.AH
namespace Go.AH
open Go
set_option linter.unusedVariables false
set_option linter.unusedSimpArgs false
def pow10V : List Value := (List.range 20).map fun i => Value.int .u64 (10 ^ i : Nat)
theorem gl_pow10 {O : Nat → Prop} {w : World} (g : GSt O w) : ∃ e fz, w.heap[1]? = some (.cells pow10V.toArray e fz) := by
  obtain ⟨h1, _, hr, e, hs⟩ := g (1, (List.range 20).map fun i => .int .u64 (10 ^ i : Nat)) (by simp [gtab])
  have hs' : w.shape? 1 = some (e, 20) := by simpa using hs
  unfold World.shape? at hs'
  split at hs' <;> simp only [Option.some.injEq, Prod.mk.injEq, reduceCtorEq] at hs'
  rename_i cs e' fz ho
  obtain ⟨rfl, hsz⟩ := hs'
  refine ⟨e', fz, ?_⟩
  rw [ho]
  congr 2
  apply Array.ext'
  show cs.toList = pow10V
  apply List.ext_getElem?
  intro i
  rcases Nat.lt_or_ge i 20 with q | q
  · have hx : ((List.range 20).map fun i => AV.int .u64 (10 ^ i : Nat))[i]? = some (.int .u64 (10 ^ i : Nat)) := by
      rw [List.getElem?_map, List.getElem?_range q]; rfl
    obtain ⟨y, hy, ry⟩ := hr i _ hx
    have : y = .int .u64 (10 ^ i : Nat) := ry
    subst this
    simp only [World.cell?, ho] at hy
    rw [Array.getElem?_toList]
    unfold pow10V
    rw [List.getElem?_map, List.getElem?_range q]
    simpa using hy
  · rw [List.getElem?_eq_none (by rw [Array.length_toList]; omega), List.getElem?_eq_none (by simp [pow10V]; omega)]
def findDig (e : List Int) : List (List (List Int)) → Option (List (List Int))
  | [] => none
  | l :: ls => if digOk l = true ∧ strip (valE l) = strip e then some l else findDig e ls
theorem findDig_ok {e : List Int} : ∀ {ls : List (List (List Int))} {l : List (List Int)}, findDig e ls = some l → digOk l = true ∧ strip (valE l) = strip e
  | [], _, h => by cases h
  | x :: ls, l, h => by
    unfold findDig at h
    split at h
    · rename_i hc; cases h; exact hc
    · exact findDig_ok h
/-- strconv.Itoa of a named number, whose digits are one of some lists. -/
def spItoa (cands : List (List (List Int))) (args : List AV) (h : Heap) : Option OutH := match args with
  | [.lin .i64 e] => match findDig e cands with
    | some l => if hiV e ≤ 9223372036854775807 ∧ l.all (fun d => decide (0 ≤ loV d) && decide (hiV d < 256)) = true then some (.sym l, h) else none
    | none => none
  | _ => none
/-- Bytes with those values. -/
theorem sym_bytes {c : Ctx} : ∀ (l : List (List Int)), l.all (fun d => decide (0 ≤ loV d) && decide (hiV d < 256)) = true → ∃ s : List UInt8, SymOk c s l
  | [], _ => ⟨[], rfl⟩
  | e :: l, h => by
    rw [List.all_cons, Bool.and_eq_true] at h
    obtain ⟨s, hs⟩ := sym_bytes (c := c) l h.2
    have bd := linV_bound c.V e
    have h1 := h.1
    simp only [Bool.and_eq_true, decide_eq_true_eq] at h1
    refine ⟨UInt8.ofNat (linV c.V.ρ e).toNat :: s, ?_⟩
    unfold SymOk at *
    rw [List.map_cons, List.map_cons, hs]
    congr 1
    have e0 : (UInt8.ofNat (linV c.V.ρ e).toNat).toNat = (linV c.V.ρ e).toNat % 256 := by simp
    rw [e0]; omega
theorem spItoa_ok {P : Program} {f : FuncId} {cands : List (List (List Int))} (hc : Callable P f)
    (hk : ∀ (n : Int) (w : World), -9223372036854775808 ≤ n → n ≤ 9223372036854775807 → (∃ e fz, w.heap[1]? = some (.cells pow10V.toArray e fz)) → Calls P f #[.int .i64 n] w fun e w' => e = .returned (.string ⟨(Lib.itoa n).toArray⟩) ∧ ∃ k os, w' = Go.Sort.grow (w.drewN k) os)
    {args : List AV} {h h' : Heap} {r : AV} (e : spItoa cands args h = some (r, h')) : ACalls P f args h (fun r' h'' => r' = .ret r ∧ h'' = h') := by
  unfold spItoa at e
  split at e <;> try (cases e; done)
  rename_i le
  split at e <;> try (cases e; done)
  rename_i l hl
  split at e <;> simp only [Option.some.injEq, Prod.mk.injEq, reduceCtorEq] at e
  rename_i hb
  obtain ⟨rfl, rfl⟩ := e
  obtain ⟨hd, hv⟩ := findDig_ok hl
  intro F β w vs s rl
  obtain ⟨u, us, e1, ru, e2⟩ := rl
  have e2' : us = [] := e2
  subst e2'
  have hvs : vs = #[u] := by rw [← Array.toArray_toList (xs := vs), e1]
  subst hvs
  have : u = .int .i64 (linV F.V.ρ le) := ru
  subst this
  have hval : linV F.V.ρ le = linV F.V.ρ (valE l) := by rw [← linV_strip F.V.ρ le, ← hv, linV_strip]
  have bd := linV_bound F.V le
  obtain ⟨sb, hsb⟩ := sym_bytes (c := ctx F β w h) l hb.2
  obtain ⟨hit, hnn⟩ := itoa_ok hd hsb
  have hit' : Lib.itoa (linV F.V.ρ le) = sb := by rw [hval]; exact hit
  have hnn' : 0 ≤ linV F.V.ρ le := by rw [hval]; exact hnn
  refine .inl ⟨hc, (hk (linV F.V.ρ le) w (by omega) (by omega) (gl_pow10 s.gl)).mono ?_⟩
  rintro e w' ⟨rfl, k, os, rfl⟩
  have g1 := s.drew (w.drewN k) rfl rfl rfl rfl
  have g2 := St.growL os.toList g1.st
  rw [Array.toArray_toList] at g2
  exact ⟨β, h, .ret (.sym l), ⟨rfl, rfl⟩, g1.trans g2, _, rfl, sb, by rw [hit'], hsb⟩
end Go.AH
