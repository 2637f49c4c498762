/- Abstract binary operations, slicing, indexing and building. No condition. -/
import Derived.Test.YtieaamjikcjbeaaA4
namespace Go.AH
set_option linter.unusedSimpArgs false
set_option linter.unusedVariables false
open Go

def aUn (op : UnOp) (x : AV) : Option AV := match op, x with
  | .neg, .int k n => aInt .sub k 0 n
  | .xor, .int k n => aInt .xor k (if k.signed then -1 else k.max) n
  | .not, .bool b => some (.bool !b)
  | _, _ => none

/-- '==', '!=': a nil interface on both sides is asked only where one of the two is a literal. -/
def aGuardEq (P : Program) (t : TypeId) (lit : Bool) (x y : AV) : Bool := match x, y with
  | .nili, .nili => lit
  | .agg _, .agg _ => !(P.eqGuardType P.depth t)
  | .nili, .unk | .unk, .nili | .unk, .unk | .agg _, .unk | .unk, .agg _ => false
  | _, _ => true

def aBin (P : Program) (op : BinOp) (t : TypeId) (lit : Bool) (x y : AV) : Option AV := match x, y with
  | .int k a, .int k' b => match op with
    | .shl => aInt .shl k a b
    | .shr => aInt .shr k a b
    | op => if k = k' then aInt op k a b else none
  | .str a, .str b => aStr op a b
  | x, y => if aGuardEq P t lit x y then match op with
    | .eql => (aEq P 30 t x y).map .bool
    | .neq => (aEq P 30 t x y).map fun b => .bool !b
    | _ => none else none

def isLit : Operand → Bool | .const _ => true | _ => false

def bound (v : Option AV) (dflt top : Nat) : Option Nat := match v with
  | none => some dflt
  | some (.int _ i) => if 0 ≤ i ∧ i ≤ (top : Int) then some i.toNat else none
  | some _ => none

/-- low, high, max: where a slice expression cuts. -/
def aBounds (len top : Nat) (lo hi mx : Option AV) : Option (Nat × Nat × Option Nat) := match mx with
  | none => match bound hi len top with
    | some h => match bound lo 0 h with
      | some l => some (l, h, none)
      | none => none
    | none => none
  | some m => match bound (some m) 0 top with
    | some m => match hi with
      | none => none
      | some hv => match bound (some hv) 0 m with
        | some h => match bound lo 0 h with
          | some l => some (l, h, some m)
          | none => none
        | none => none
    | none => none

def sliceOf (sz : Nat) (x : AV) (lo hi mx : Option AV) : Option AV := match x with
  | .nilsl => match aBounds 0 0 lo hi mx with
    | some _ => some .nilsl
    | none => none
  | .esl => match aBounds 0 0 lo hi mx with
    | some _ => some .esl
    | none => none
  | .sl id off len cap => match aBounds len (cap.getD len) lo hi mx with
    | some (l, h, m) => some (.sl id (off + l * sz) (h - l) (match m with | some m => some (m - l) | none => cap.map (· - l)))
    | none => none
  | .gsl id len esz => if esz = sz then match aBounds len len lo hi mx with
    | some (l, h, some m) => some (.sl id (l * sz) (h - l) (some (m - l)))
    | some (l, h, none) => if l = 0 then some (.gsl id h esz) else some (.sl id (l * sz) (h - l) none)
    | none => none else none
  | .isl cs len => match aBounds len len lo hi mx with
    | some (l, h, m) => if m = some l then some .esl else some (.isl ((cs.take (h * sz)).drop (l * sz)) (h - l))
    | none => none
  | _ => none

def aSlice (P : Program) (t : TypeId) (x : AV) (lo hi mx : Option AV) : Option AV := match P.underlying t with
  | some .string => match x with
    | .str s => if mx.isSome then none else match aBounds s.length s.length lo hi none with
      | some (l, h, _) => some (.str ((s.take h).drop l))
      | none => none
    | _ => none
  | some (.slice e) => match tsz P e with
    | some sz => sliceOf sz x lo hi mx
    | none => none
  | some (.array n e) => match tsz P e with
    | some sz => match aBounds n n lo hi mx with
      | some (l, h, m) => match x with
        | .ptr id off => some (.sl id (off + l * sz) (h - l) (some (m.getD n - l)))
        | .iptr cs => if m = some l then some .esl else some (.isl ((cs.take (h * sz)).drop (l * sz)) (h - l))
        | _ => none
      | none => none
    | none => none
  | _ => none

def aIndexAddr (P : Program) (t : TypeId) (x i : AV) : Option AV := match i with
  | .int _ i => match P.underlying t with
    | some (.array n e) => match tsz P e with
      | some sz => if 0 ≤ i ∧ i < (n : Int) then match x with
        | .ptr id off => some (.ptr id (off + i.toNat * sz))
        | .iptr cs => some (.iptr (cs.drop (i.toNat * sz)))
        | _ => none else none
      | none => none
    | some (.slice e) => match tsz P e with
      | some sz => match x with
        | .sl id off len _ => if 0 ≤ i ∧ i < (len : Int) then some (.ptr id (off + i.toNat * sz)) else none
        | .gsl id len _ => if 0 ≤ i ∧ i < (len : Int) then some (.ptr id (i.toNat * sz)) else none
        | .isl cs len => if 0 ≤ i ∧ i < (len : Int) then some (.iptr (cs.drop (i.toNat * sz))) else none
        | _ => none
      | none => none
    | _ => none
  | _ => none

def aIndex (P : Program) (t : TypeId) (x i : AV) : Option AV := match i with
  | .int _ i => match P.underlying t with
    | some .string => match x with
      | .str s => if 0 ≤ i ∧ i < (s.length : Int) then some (.int .u8 (s.getD i.toNat 0).toNat) else none
      | _ => none
    | some (.array n e) => match x with
      | .agg cs => match tsz P e with
        | some sz => if 0 ≤ i ∧ i < (n : Int) then pick P e cs (i.toNat * sz) else none
        | none => none
      | _ => none
    | _ => none
  | _ => none

def aFieldAddr (P : Program) (s : TypeId) (x : AV) (f : Nat) : Option AV := match fld P s f with
  | some (off, ft) => match tsz P ft with
    | some (_ + 1) => match x with
      | .ptr id o => some (.ptr id (o + off))
      | .iptr cs => some (.iptr (cs.drop off))
      | _ => none
    | _ => none
  | none => none

def aField (P : Program) (s : TypeId) (x : AV) (f : Nat) : Option AV := match fld P s f with
  | some (off, ft) => match x with
    | .agg cs => pick P ft cs off
    | _ => none
  | none => none

def aExtract (x : AV) (i : Nat) : Option AV := match x with
  | .tup vs => vs[i]?
  | _ => none

def aNilCheck : AV → Option AV
  | .ptr id o => some (.ptr id o)
  | .iptr cs => some (.iptr cs)
  | .fn (.func n) caps => some (.fn (.func n) caps)
  | _ => none

def aMakeIface (P : Program) (t : TypeId) (x : AV) : Option AV := match P.underlying t with
  | some (.interface _) => none
  | some _ => some (.ifc t x)
  | none => none

def aMin : List AV → Option AV
  | [.int k x, .int _ y] => some (.int k (if y < x then y else x))
  | [.int k x, .int _ y, .int _ z] => some (.int k (if z < (if y < x then y else x) then z else (if y < x then y else x)))
  | _ => none
def aMax : List AV → Option AV
  | [.int k x, .int _ y] => some (.int k (if y > x then y else x))
  | [.int k x, .int _ y, .int _ z] => some (.int k (if z > (if y > x then y else x) then z else (if y > x then y else x)))
  | _ => none

def aLen (P : Program) (t : TypeId) (x : AV) : Option AV := match P.underlying t with
  | some .string => match x with
    | .str s => some (.int .i64 s.length)
    | _ => none
  | some (.array n _) => some (.int .i64 n)
  | some (.slice _) => match x with
    | .nilsl => some (.int .i64 0)
    | .esl => some (.int .i64 0)
    | .sl _ _ len _ => some (.int .i64 len)
    | .gsl _ len _ => some (.int .i64 len)
    | .isl _ len => some (.int .i64 len)
    | _ => none
  | _ => none

/-- Whole numbers to whole numbers, texts to texts. -/
def aConv (P : Program) (src dst : TypeId) (x : AV) : Option AV := match P.underlying src, P.underlying dst with
  | some _, some (.int k) => match x with
    | .int _ n => some (.int k (k.wrap n))
    | _ => none
  | some _, some .string => match x with
    | .str s => some (.str s)
    | _ => none
  | _, _ => none

/-! ### struct and array values -/
def setMany {α : Type} (cs : List α) (off : Nat) : List α → List α
  | [] => cs
  | v :: vs => setMany (cs.set off v) (off + 1) vs

def zeroCellsOf (P : Program) (t : TypeId) : Option (List AV) := ((P.info? t).bind (·.zero)).map fun z => z.cells.toList.map ofConst1

def aFill (place : Nat → Option (Nat × Nat)) (cells : List AV) : List (Nat × AV) → Option (List AV)
  | [] => some cells
  | (i, v) :: rest => match place i, acells v with
    | some (off, size), some vc => if vc.length = size ∧ off + vc.length ≤ cells.length then aFill place (setMany cells off vc) rest else none
    | _, _ => none

def fieldPlaces (P : Program) : List Field → Option (List (Nat × Nat))
  | [] => some []
  | f :: fs => match tsz P f.type, fieldPlaces P fs with
    | some n, some l => some ((f.offset, n) :: l)
    | _, _ => none

def aBuild (P : Program) (t : TypeId) (parts : List (Nat × AV)) : Option AV := match zeroCellsOf P t with
  | some z => match P.underlying t with
    | some (.struct fs) => match fieldPlaces P fs.toList with
      | some pl => (aFill (pl[·]?) z parts).map .agg
      | none => none
    | some (.array _ e) => match tsz P e with
      | some sz => (aFill (fun i => some (i * sz, sz)) z parts).map .agg
      | none => none
    | _ => none
  | none => none

section
variable {P : Program} {c : Ctx}

theorem run_aUn {op : UnOp} {x v : AV} {u : Value} (h : aUn op x = some v) (r : Rel c x u) (w : World) : ∃ v', (Op.unary op u).run P w = .ok v' w ∧ Rel c v v' := by
  cases op <;> cases x <;> simp only [aUn, reduceCtorEq, Option.some.injEq] at h <;> simp only [Rel] at r <;> subst r
  · have := run_intOp (P := P) (c := c) h 0 w; simpa [Op.unary, binOp] using this
  · have := run_intOp (P := P) (c := c) h 0 w; simpa [Op.unary, binOp] using this
  · subst h; exact ⟨_, rfl, rfl⟩

theorem run_eqGuard {op : BinOp} {t : TypeId} {a b : Operand} {x y : AV} {u v : Value} (h : aGuardEq P t (isLit a || isLit b) x y = true) (rx : Rel c x u) (ry : Rel c y v) (w : World) : (eqGuard op t a b u v).run P w = .ok () w := by
  have hu : u = .nilIface → x = .nili ∨ x = .unk := by
    rintro rfl
    cases x <;> simp [Rel] at rx <;> simp
  have hv : v = .nilIface → y = .nili ∨ y = .unk := by
    rintro rfl
    cases y <;> simp [Rel] at ry <;> simp
  have hu2 : ∀ cs, u = .agg cs → (∃ l, x = .agg l) ∨ x = .unk := by
    rintro cs rfl
    cases x <;> simp [Rel] at rx <;> simp
  have hv2 : ∀ cs, v = .agg cs → (∃ l, y = .agg l) ∨ y = .unk := by
    rintro cs rfl
    cases y <;> simp [Rel] at ry <;> simp
  clear rx ry
  cases op <;> try rfl
  all_goals
    simp only [eqGuard, Bool.not_true, Bool.false_eq_true, if_false]
    split
    · rcases hu rfl with rfl | rfl <;> rcases hv rfl with rfl | rfl <;> simp [aGuardEq] at h
      rw [if_pos]
      · rfl
      · cases a <;> cases b <;> simp_all [isLit]
    · rcases hu2 _ rfl with ⟨l, rfl⟩ | rfl <;> rcases hv2 _ rfl with ⟨l', rfl⟩ | rfl <;> simp [aGuardEq] at h
      simp [h]
    · rfl

theorem aNil_unk (x y : AV) (h : x = .unk ∨ y = .unk) : aNil x y = none := by
  rcases h with rfl | rfl
  · rfl
  · unfold aNil; cases nilOf x <;> rfl

theorem aEq_unk {n : Nat} {t : TypeId} {x y : AV} {r : Bool} (h : aEq P n t x y = some r) : x ≠ .unk ∧ y ≠ .unk := by
  cases n with
  | zero => simp [aEq] at h
  | succ n =>
    unfold aEq at h
    constructor
    · rintro rfl
      split at h <;> try (simp at h; done)
      rename_i k _ _ _ _ _ _
      cases k <;> simp [nilFit] at h
    · rintro rfl
      split at h <;> try (simp at h; done)
      · rename_i k _ _ _ _ _ _
        cases k <;> simp [nilFit] at h

theorem run_eql {t : TypeId} {x y : AV} {r : Bool} {u v : Value} (h : aEq P 30 t x y = some r) (hi : ∀ k a k' b, ¬ (x = .int k a ∧ y = .int k' b)) (hs : ∀ a b, ¬ (x = .str a ∧ y = .str b)) (rx : Rel c x u) (ry : Rel c y v) (w : World) :
    (binOp .eql t u v).run P w = .ok (.bool r) w ∧ (binOp .neq t u v).run P w = .ok (.bool !r) w := by
  have key : (Op.equal t u v).run P w = .ok r w := run_aEq w 30 t x y r h u v rx ry 9970
  obtain ⟨nx, ny⟩ := aEq_unk h
  have gen : ∀ (A B : Sem Value), A = (do pure (.bool (← Op.equal t u v))) → B = (do pure (.bool (!(← Op.equal t u v)))) → A.run P w = .ok (.bool r) w ∧ B.run P w = .ok (.bool !r) w := by
    rintro A B rfl rfl
    simp [key]
  have i1 : ∀ k n, u = .int k n → ∃ k n, x = .int k n := by rintro k n rfl; cases x <;> simp [Rel] at rx nx ⊢
  have i2 : ∀ k n, v = .int k n → ∃ k n, y = .int k n := by rintro k n rfl; cases y <;> simp [Rel] at ry ny ⊢
  have s1 : ∀ n, u = .string n → ∃ n, x = .str n := by rintro n rfl; cases x <;> simp [Rel] at rx nx ⊢
  have s2 : ∀ n, v = .string n → ∃ n, y = .str n := by rintro n rfl; cases y <;> simp [Rel] at ry ny ⊢
  have f1 : ∀ k n, u ≠ .float k n := by rintro k n rfl; cases x <;> simp [Rel] at rx nx
  have c1 : ∀ k n m, u ≠ .complex k n m := by rintro k n m rfl; cases x <;> simp [Rel] at rx nx
  cases u with
  | float k n => exact absurd rfl (f1 k n)
  | complex k n m => exact absurd rfl (c1 k n m)
  | int k n => cases v with
    | int k' n' =>
      obtain ⟨_, _, e1⟩ := i1 _ _ rfl
      obtain ⟨_, _, e2⟩ := i2 _ _ rfl
      exact absurd ⟨e1, e2⟩ (hi _ _ _ _)
    | _ => exact gen _ _ rfl rfl
  | string n => cases v with
    | string n' =>
      obtain ⟨_, e1⟩ := s1 _ rfl
      obtain ⟨_, e2⟩ := s2 _ rfl
      exact absurd ⟨e1, e2⟩ (hs _ _)
    | _ => exact gen _ _ rfl rfl
  | _ => exact gen _ _ rfl rfl

theorem run_aBin {op : BinOp} {t : TypeId} {a b : Operand} {x y z : AV} {u v : Value} (h : aBin P op t (isLit a || isLit b) x y = some z) (rx : Rel c x u) (ry : Rel c y v) (w : World) :
    ∃ z', (eqGuard op t a b u v >>= fun _ => binOp op t u v).run P w = .ok z' w ∧ Rel c z z' := by
  have fin : (∃ z', (binOp op t u v).run P w = .ok z' w ∧ Rel c z z') → aGuardEq P t (isLit a || isLit b) x y = true → ∃ z', (eqGuard op t a b u v >>= fun _ => binOp op t u v).run P w = .ok z' w ∧ Rel c z z' := by
    rintro ⟨z', h1, h2⟩ hg
    exact ⟨z', by rw [Sem.run_bind, run_eqGuard hg rx ry w]; exact h1, h2⟩
  unfold aBin at h
  split at h
  · simp only [Rel] at rx ry
    subst rx ry
    refine fin ?_ rfl
    split at h
    · exact run_shiftOp (.inl rfl) h t w
    · exact run_shiftOp (.inr rfl) h t w
    · split at h
      · rename_i hk; subst hk; exact run_intOp h t w
      · cases h
  · simp only [Rel] at rx ry
    subst rx ry
    exact fin (run_strOp h t w) rfl
  · rename_i hni hns
    split at h
    · rename_i hg
      refine fin ?_ hg
      split at h
      · rw [Option.map_eq_some_iff] at h
        obtain ⟨r, hr, rfl⟩ := h
        exact ⟨_, (run_eql hr (fun _ _ _ _ e => hni _ _ _ _ e.1 e.2) (fun _ _ e => hns _ _ e.1 e.2) rx ry w).1, rfl⟩
      · rw [Option.map_eq_some_iff] at h
        obtain ⟨r, hr, rfl⟩ := h
        exact ⟨_, (run_eql hr (fun _ _ _ _ e => hni _ _ _ _ e.1 e.2) (fun _ _ e => hns _ _ e.1 e.2) rx ry w).2, rfl⟩
      · cases h
    · cases h

/-- Optional operands. -/
def RelO (c : Ctx) : Option AV → Option Value → Prop
  | none, v => v = none
  | some x, v => ∃ y, v = some y ∧ Rel c x y

theorem run_bound {x : AV} {u : Value} {d top n : Nat} (h : bound (some x) d top = some n) (r : Rel c x u) {y : Nat} (hy : top ≤ y) (code : BoundsCode) (w : World) : (Instr.sliceBound u y code).run P w = .ok n w ∧ n ≤ top := by
  cases x <;> simp only [bound, reduceCtorEq] at h
  rename_i k i
  split at h <;> simp only [Option.some.injEq, reduceCtorEq] at h
  subst h
  simp only [Rel] at r
  subst r
  rename_i hi
  refine ⟨?_, by omega⟩
  have : 0 ≤ i ∧ i ≤ (y : Int) := by omega
  simp [Instr.sliceBound, asIntOf, this]

theorem run_bounds {isSl : Bool} {len top cap' : Nat} {lo hi mx : Option AV} {lo' hi' mx' : Option Value} {l h : Nat} {m : Option Nat} (hb : aBounds len top lo hi mx = some (l, h, m)) (hlt : len ≤ top) (ht : top ≤ cap')
    (rl : RelO c lo lo') (rh : RelO c hi hi') (rm : RelO c mx mx') (w : World) :
    (Instr.sliceBounds isSl len cap' lo' hi' mx').run P w = .ok (l, h, m.getD cap') w ∧ l ≤ h ∧ h ≤ top ∧ (∀ x, m = some x → h ≤ x ∧ x ≤ top) := by
  unfold aBounds at hb
  cases mx with
  | none =>
    cases rm
    simp only at hb
    cases hh : bound hi len top with
    | none => simp [hh] at hb
    | some h1 =>
      simp only [hh] at hb
      cases hl : bound lo 0 h1 with
      | none => simp [hl] at hb
      | some l1 =>
        simp only [hl, Option.some.injEq, Prod.mk.injEq] at hb
        obtain ⟨rfl, rfl, rfl⟩ := hb
        cases hi with
        | none =>
          cases rh
          simp only [bound, Option.some.injEq] at hh
          subst hh
          cases lo with
          | none => cases rl; simp only [bound, Option.some.injEq] at hl; subst hl; exact ⟨by simp [Instr.sliceBounds], Nat.zero_le _, hlt, by simp⟩
          | some x =>
            obtain ⟨y, rfl, ry⟩ := rl
            have e := fun code => run_bound (P := P) hl ry (Nat.le_refl _) code w
            exact ⟨by simp [Instr.sliceBounds, (e _).1], (e .index).2, hlt, by simp⟩
        | some z =>
          obtain ⟨z', rfl, rz⟩ := rh
          have e1 := fun code => run_bound (P := P) hh rz ht code w
          cases lo with
          | none => cases rl; simp only [bound, Option.some.injEq] at hl; subst hl; exact ⟨by simp [Instr.sliceBounds, (e1 _).1], Nat.zero_le _, (e1 .index).2, by simp⟩
          | some x =>
            obtain ⟨y, rfl, ry⟩ := rl
            have e := fun code => run_bound (P := P) hl ry (Nat.le_refl _) code w
            exact ⟨by simp [Instr.sliceBounds, (e _).1, (e1 _).1], (e .index).2, (e1 .index).2, by simp⟩
  | some x =>
    obtain ⟨y, rfl, ry⟩ := rm
    simp only at hb
    cases hm : bound (some x) 0 top with
    | none => simp [hm] at hb
    | some m1 =>
      simp only [hm] at hb
      cases hi with
      | none => simp at hb
      | some hv =>
        obtain ⟨hv', rfl, rhv⟩ := rh
        simp only at hb
        cases hh : bound (some hv) 0 m1 with
        | none => simp [hh] at hb
        | some h1 =>
          simp only [hh] at hb
          cases hl : bound lo 0 h1 with
          | none => simp [hl] at hb
          | some l1 =>
            simp only [hl, Option.some.injEq, Prod.mk.injEq] at hb
            obtain ⟨rfl, rfl, rfl⟩ := hb
            have e0 := fun code => run_bound (P := P) hm ry ht code w
            have e1 := fun code => run_bound (P := P) hh rhv (Nat.le_refl _) code w
            have fin : h1 ≤ m1 ∧ m1 ≤ top := ⟨(e1 .index).2, (e0 .index).2⟩
            cases lo with
            | none => cases rl; simp only [bound, Option.some.injEq] at hl; subst hl; exact ⟨by simp [Instr.sliceBounds, (e1 _).1, (e0 _).1], Nat.zero_le _, Nat.le_trans fin.1 fin.2, fun x hx => by simp at hx; subst hx; exact fin⟩
            | some x =>
              obtain ⟨y, rfl, ry⟩ := rl
              have e := fun code => run_bound (P := P) hl ry (Nat.le_refl _) code w
              exact ⟨by simp [Instr.sliceBounds, (e _).1, (e1 _).1, (e0 _).1], (e .index).2, Nat.le_trans fin.1 fin.2, fun x hx => by simp at hx; subst hx; exact fin⟩

end
end Go.AH
