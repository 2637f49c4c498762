/- Abstract operations on numbers, texts and comparisons. No condition. -/
import Derived.Test.YtieaamjikcjbeaaA3
namespace Go.AH
set_option linter.unusedSimpArgs false
set_option linter.unusedVariables false
open Go

/-! ### operators -/
def aInt (op : BinOp) (k : IntKind) (x y : Int) : Option AV := match op with
  | .add => some (.int k (k.wrap (x + y)))
  | .sub => some (.int k (k.wrap (x - y)))
  | .mul => some (.int k (k.wrap (x * y)))
  | .quo => if y = 0 then none else some (.int k (k.wrap (x.tdiv y)))
  | .rem => if y = 0 then none else some (.int k (x.tmod y))
  | .and => some (.int k (k.wrap (BitVec.ofInt k.bits x &&& BitVec.ofInt k.bits y).toNat))
  | .or => some (.int k (k.wrap (BitVec.ofInt k.bits x ||| BitVec.ofInt k.bits y).toNat))
  | .xor => some (.int k (k.wrap (BitVec.ofInt k.bits x ^^^ BitVec.ofInt k.bits y).toNat))
  | .andNot => some (.int k (k.wrap (BitVec.ofInt k.bits x &&& ~~~ BitVec.ofInt k.bits y).toNat))
  | .shl => if y < 0 then none else some (.int k (k.wrap (x * 2 ^ (min y.toNat k.bits))))
  | .shr => if y < 0 then none else some (.int k (x.fdiv (2 ^ (min y.toNat k.bits))))
  | .eql => some (.bool (x == y))
  | .neq => some (.bool (x != y))
  | .lss => some (.bool (decide (x < y)))
  | .leq => some (.bool (decide (x ≤ y)))
  | .gtr => some (.bool (decide (x > y)))
  | .geq => some (.bool (decide (x ≥ y)))

def aStr (op : BinOp) (x y : List UInt8) : Option AV := match op with
  | .add => if x.length + y.length ≤ 9223372036854775807 then some (.str (x ++ y)) else none
  | .eql => some (.bool (x == y))
  | .neq => some (.bool (!(x == y)))
  | .lss => some (.bool (Op.bytesLess x y))
  | .leq => some (.bool (Op.bytesLess x y || x == y))
  | .gtr => some (.bool (!(Op.bytesLess x y || x == y)))
  | .geq => some (.bool (!(Op.bytesLess x y)))
  | _ => none

/-- Is a slice, a pointer .. nil? -/
def nilOf : AV → Option Bool
  | .nilp => some true
  | .ptr _ _ => some false
  | .iptr _ => some false
  | .nilsl => some true
  | .sl _ _ _ _ => some false
  | .gsl _ _ _ => some false
  | .isl _ len => if len = 0 then none else some false
  | .nilm => some true
  | .map _ => some false
  | .nilf => some true
  | .fn _ _ => some false
  | .nili => some true
  | .ifc _ _ => some false
  | _ => none

/-- One of the two is nil: '=='. -/
def aNil (x y : AV) : Option Bool := match nilOf x, nilOf y with
  | some a, some b => if a || b then some (a && b) else none
  | _, _ => none

/-- Which values a type's '==' with nil is asked of. -/
def nilFit : TypeDesc → AV → Bool
  | .pointer _, .nilp | .pointer _, .ptr _ _ | .pointer _, .iptr _ => true
  | .slice _, .nilsl | .slice _, .sl _ _ _ _ | .slice _, .gsl _ _ _ | .slice _, .isl _ _ => true
  | .map _ _, .nilm | .map _ _, .map _ => true
  | .func _ _ _, .nilf | .func _ _ _, .fn _ _ => true
  | .interface _, .nili | .interface _, .ifc _ _ => true
  | _, _ => false

def eqF (P : Program) (rec : TypeId → AV → AV → Option Bool) (xs ys : List AV) : List Field → Option Bool
  | [] => some true
  | f :: fs => if f.name = "_" then eqF P rec xs ys fs else
    match pick P f.type xs f.offset, pick P f.type ys f.offset with
    | some a, some b => match rec f.type a b, eqF P rec xs ys fs with
      | some r, some q => some (r && q)
      | _, _ => none
    | _, _ => none
def eqA (P : Program) (rec : TypeId → AV → AV → Option Bool) (e : TypeId) (c : Nat) (xs ys : List AV) : List Nat → Option Bool
  | [] => some true
  | i :: is => match pick P e xs (i * c), pick P e ys (i * c) with
    | some a, some b => match rec e a b, eqA P rec e c xs ys is with
      | some r, some q => some (r && q)
      | _, _ => none
    | _, _ => none
def aEq (P : Program) : Nat → TypeId → AV → AV → Option Bool
  | 0, _, _, _ => none
  | d + 1, t, x, y => match P.underlying t with
    | some .bool => match x, y with
      | .bool a, .bool b => some (a == b)
      | _, _ => none
    | some (.int _) => match x, y with
      | .int k a, .int k' b => if k = k' then some (a == b) else none
      | _, _ => none
    | some .string => match x, y with
      | .str a, .str b => some (a == b)
      | _, _ => none
    | some (.struct fs) => match x, y with
      | .agg xs, .agg ys => if P.stoodInHeld t then none else eqF P (aEq P d) xs ys fs.toList
      | _, _ => none
    | some (.array n e) => match x, y with
      | .agg xs, .agg ys => match tsz P e with
        | some c => eqA P (aEq P d) e c xs ys (List.range n)
        | none => none
      | _, _ => none
    | some k => if nilFit k x && nilFit k y then aNil x y else none
    | none => none

section
variable {P : Program} {c : Ctx}

theorem run_intOp {op : BinOp} {k : IntKind} {x y : Int} {v : AV} (h : aInt op k x y = some v) (t : TypeId) (w : World) :
    ∃ v', (binOp op t (.int k x) (.int k y)).run P w = .ok v' w ∧ Rel c v v' := by
  cases op <;> simp only [aInt] at h
  case quo => split at h <;> simp only [Option.some.injEq, reduceCtorEq] at h; subst h; refine ⟨_, ?_, rfl⟩; simp [binOp, Op.intDiv, *]
  case rem => split at h <;> simp only [Option.some.injEq, reduceCtorEq] at h; subst h; refine ⟨_, ?_, rfl⟩; simp [binOp, Op.intDiv, *]
  case shl => split at h <;> simp only [Option.some.injEq, reduceCtorEq] at h; subst h; refine ⟨_, ?_, rfl⟩; simp [binOp, Op.shift, *]
  case shr => split at h <;> simp only [Option.some.injEq, reduceCtorEq] at h; subst h; refine ⟨_, ?_, rfl⟩; simp [binOp, Op.shift, *]
  all_goals
    simp only [Option.some.injEq] at h
    subst h
    refine ⟨_, ?_, rfl⟩
    simp only [binOp, Op.intArith, Op.intBits, Op.intCmp, ne_eq, not_true_eq_false, if_false, Sem.run_pure]

theorem run_shiftOp {op : BinOp} (hop : op = .shl ∨ op = .shr) {k k' : IntKind} {x y : Int} {v : AV} (h : aInt op k x y = some v) (t : TypeId) (w : World) :
    ∃ v', (binOp op t (.int k x) (.int k' y)).run P w = .ok v' w ∧ Rel c v v' := by
  rcases hop with rfl | rfl <;> simp only [aInt] at h <;> split at h <;> simp only [Option.some.injEq, reduceCtorEq] at h <;> subst h <;> refine ⟨_, ?_, rfl⟩ <;> simp [binOp, Op.shift, *]

theorem bytes_toList (s : List UInt8) : (ByteArray.mk s.toArray).toList = s := by rw [ByteArray.toList_eq]

theorem run_strOp {op : BinOp} {x y : List UInt8} {v : AV} (h : aStr op x y = some v) (t : TypeId) (w : World) :
    ∃ v', (binOp op t (.string ⟨x.toArray⟩) (.string ⟨y.toArray⟩)).run P w = .ok v' w ∧ Rel c v v' := by
  have e : ∀ op, binOp op t (.string ⟨x.toArray⟩) (.string ⟨y.toArray⟩) = Op.stringOp op ⟨x.toArray⟩ ⟨y.toArray⟩ := by intro op; cases op <;> rfl
  rw [e]
  cases op <;> simp only [aStr, reduceCtorEq] at h
  case add =>
    split at h <;> simp only [Option.some.injEq, reduceCtorEq] at h
    rename_i hle
    subst h
    have h1 : ¬ (((ByteArray.mk x.toArray).size + (ByteArray.mk y.toArray).size : Nat) : Int) > IntKind.i64.max := by
      simp only [ByteArray.size, List.size_toArray, IntKind.max, IntKind.signed, IntKind.bits, if_true]
      omega
    refine ⟨.string ⟨(x ++ y).toArray⟩, ?_, rfl⟩
    simp only [Op.stringOp, if_neg h1, Sem.run_pure]
    congr 2
  all_goals
    simp only [Option.some.injEq] at h
    subst h
    refine ⟨_, ?_, rfl⟩
    simp only [Op.stringOp, bytes_toList, Sem.run_pure]

theorem nil_pointer {e : TypeId} {x : AV} {u : Value} {a : Bool} (hx : nilFit (.pointer e) x = true) (h : nilOf x = some a) (r : Rel c x u) : ∃ p, u = .pointer p ∧ a = p.isNone := by
  cases x <;> simp only [nilFit, Bool.false_eq_true] at hx <;> simp only [nilOf, Option.some.injEq] at h <;> subst h <;> simp only [Rel] at r
  · exact ⟨none, r, rfl⟩
  · exact ⟨_, r.2, rfl⟩
  · obtain ⟨b, o, e, _⟩ := r; exact ⟨_, e, rfl⟩
theorem nil_slice {e : TypeId} {x : AV} {u : Value} {a : Bool} (hx : nilFit (.slice e) x = true) (h : nilOf x = some a) (r : Rel c x u) : ∃ p l k, u = .slice p l k ∧ a = p.isNone := by
  cases x <;> simp only [nilFit, Bool.false_eq_true] at hx
  case isl cs len =>
    obtain ⟨p, l, e, _, q⟩ := r
    simp [nilOf] at h
    obtain ⟨h0, rfl⟩ := h
    rcases q with q | ⟨b, o, rfl, _⟩
    · exact absurd q h0
    · exact ⟨_, _, _, e, rfl⟩
  all_goals simp only [nilOf, Option.some.injEq] at h; subst h; simp only [Rel] at r
  · exact ⟨none, _, _, r, rfl⟩
  · obtain ⟨_, o, cap', e, _⟩ := r; exact ⟨_, _, _, e, rfl⟩
  · obtain ⟨_, cap', _, e, _⟩ := r; exact ⟨_, _, _, e, rfl⟩
theorem nil_map {k e : TypeId} {x : AV} {u : Value} {a : Bool} (hx : nilFit (.map k e) x = true) (h : nilOf x = some a) (r : Rel c x u) : ∃ p, u = .map p ∧ a = p.isNone := by
  cases x <;> simp only [nilFit, Bool.false_eq_true] at hx <;> simp only [nilOf, Option.some.injEq] at h <;> subst h <;> simp only [Rel] at r
  · exact ⟨none, r, rfl⟩
  · exact ⟨_, r.2, rfl⟩
theorem nil_func {p q : Array TypeId} {b : Bool} {x : AV} {u : Value} {a : Bool} (hx : nilFit (.func p q b) x = true) (h : nilOf x = some a) (r : Rel c x u) : (u = .nilFunc ∧ a = true) ∨ (∃ f s t, u = .func f s t ∧ a = false) := by
  cases x <;> simp only [nilFit, Bool.false_eq_true] at hx <;> simp only [nilOf, Option.some.injEq] at h <;> subst h <;> simp only [Rel] at r
  · exact .inl ⟨r, rfl⟩
  · obtain ⟨vs, e, _⟩ := r; exact .inr ⟨_, _, _, e, rfl⟩
theorem nil_iface {m : Array (String × TypeId)} {x : AV} {u : Value} {a : Bool} (hx : nilFit (.interface m) x = true) (h : nilOf x = some a) (r : Rel c x u) : (u = .nilIface ∧ a = true) ∨ (∃ s t, u = .iface s t ∧ a = false) := by
  cases x <;> simp only [nilFit, Bool.false_eq_true] at hx <;> simp only [nilOf, Option.some.injEq] at h <;> subst h <;> simp only [Rel] at r
  · exact .inl ⟨r, rfl⟩
  · obtain ⟨vs, e, _⟩ := r; exact .inr ⟨_, _, e, rfl⟩

theorem run_nil {d : Nat} {t : TypeId} {k : TypeDesc} (hu : P.underlying t = some k) {x y : AV} {u v : Value} (hx : nilFit k x = true) (hy : nilFit k y = true) {r : Bool} (h : aNil x y = some r) (rx : Rel c x u) (ry : Rel c y v) (w : World) :
    (Op.equalIn (d + 1) t u v).run P w = .ok r w := by
  unfold aNil at h
  split at h
  · rename_i a b ha hb
    split at h <;> simp only [Option.some.injEq, reduceCtorEq] at h
    rename_i hab
    subst h
    cases k <;> try (cases x <;> simp [nilFit] at hx; done)
    case pointer e =>
      obtain ⟨p, rfl, rfl⟩ := nil_pointer hx ha rx
      obtain ⟨q, rfl, rfl⟩ := nil_pointer hy hb ry
      cases p <;> cases q <;> simp at hab <;> simp [Op.equalIn, run_underlying hu]
    case slice e =>
      obtain ⟨p, l, n, rfl, rfl⟩ := nil_slice hx ha rx
      obtain ⟨q, l', n', rfl, rfl⟩ := nil_slice hy hb ry
      cases p <;> cases q <;> simp at hab <;> simp [Op.equalIn, run_underlying hu]
    case map k e =>
      obtain ⟨p, rfl, rfl⟩ := nil_map hx ha rx
      obtain ⟨q, rfl, rfl⟩ := nil_map hy hb ry
      cases p <;> cases q <;> simp at hab <;> simp [Op.equalIn, run_underlying hu]
    case func =>
      rcases nil_func hx ha rx with ⟨rfl, rfl⟩ | ⟨_, _, _, rfl, rfl⟩ <;> rcases nil_func hy hb ry with ⟨rfl, rfl⟩ | ⟨_, _, _, rfl, rfl⟩ <;> simp at hab <;> simp [Op.equalIn, run_underlying hu]
    case interface =>
      rcases nil_iface hx ha rx with ⟨rfl, rfl⟩ | ⟨_, _, rfl, rfl⟩ <;> rcases nil_iface hy hb ry with ⟨rfl, rfl⟩ | ⟨_, _, rfl, rfl⟩ <;> simp at hab <;> simp [Op.equalIn, run_underlying hu]
  · cases h

def EqOk (P : Program) (c : Ctx) (w : World) (d : Nat) : Prop := ∀ (t : TypeId) (x y : AV) (r : Bool), aEq P d t x y = some r → ∀ (u v : Value), Rel c x u → Rel c y v → ∀ m, (Op.equalIn (d + m) t u v).run P w = .ok r w

theorem run_aEqF (w : World) (d : Nat) (IH : EqOk P c w d) (xs ys : List AV) (us vs : Array Value) (rx : RelL c xs us.toList) (ry : RelL c ys vs.toList) (m : Nat) : ∀ (fs : List Field) (r : Bool), eqF P (aEq P d) xs ys fs = some r → (Op.eqFields (d + m) us vs fs).run P w = .ok r w := by
  intro fs
  induction fs with
  | nil => intro r h; simp [eqF] at h; subst h; simp [Op.eqFields]
  | cons f fs ih =>
    intro r h
    unfold eqF at h
    split at h
    · rename_i hn
      rw [Op.eqFields, if_neg (by simpa using hn)]
      exact ih r h
    · rename_i hn
      split at h
      · rename_i a b ha hb
        split at h
        · rename_i q q' hq hq'
          simp only [Option.some.injEq] at h
          subst h
          obtain ⟨a', h1, ra⟩ := run_part_rel (P := P) rx ha w
          obtain ⟨b', h2, rb⟩ := run_part_rel (P := P) ry hb w
          have h3 := IH f.type a b q hq a' b' ra rb m
          have h4 := ih q' hq'
          rw [Op.eqFields]
          simp only [ne_eq, hn, not_false_eq_true, if_true, Sem.run_bind, h1, h2, h3, Result.andThen_ok]
          cases q
          · simp
          · simpa using h4
        · cases h
      · cases h

theorem run_aEqA (w : World) (d : Nat) (IH : EqOk P c w d) (e : TypeId) (sz : Nat) (xs ys : List AV) (us vs : Array Value) (rx : RelL c xs us.toList) (ry : RelL c ys vs.toList) (m : Nat) : ∀ (is : List Nat) (r : Bool), eqA P (aEq P d) e sz xs ys is = some r → (Op.eqItems (d + m) e sz us vs is).run P w = .ok r w := by
  intro is
  induction is with
  | nil => intro r h; simp [eqA] at h; subst h; simp [Op.eqItems]
  | cons i is ih =>
    intro r h
    unfold eqA at h
    split at h
    · rename_i a b ha hb
      split at h
      · rename_i q q' hq hq'
        simp only [Option.some.injEq] at h
        subst h
        obtain ⟨a', h1, ra⟩ := run_part_rel (P := P) rx ha w
        obtain ⟨b', h2, rb⟩ := run_part_rel (P := P) ry hb w
        have h3 := IH e a b q hq a' b' ra rb m
        have h4 := ih q' hq'
        rw [Op.eqItems]
        simp only [Sem.run_bind, h1, h2, h3, Result.andThen_ok]
        cases q
        · simp
        · simpa using h4
      · cases h
    · cases h

theorem run_aEq (w : World) : ∀ (n : Nat), EqOk P c w n
  | 0, _, _, _, _, h, _, _, _, _, _ => by simp [aEq] at h
  | d + 1, t, x, y, r, h, u, v, rx, ry, m => by
    have IH := run_aEq w d
    rw [show d + 1 + m = d + m + 1 by omega]
    cases hu : P.underlying t with
    | none => simp [aEq, hu] at h
    | some k =>
      have other : nilFit k x = true ∧ nilFit k y = true ∧ aNil x y = some r → (Op.equalIn (d + m + 1) t u v).run P w = .ok r w := fun q => run_nil hu q.1 q.2.1 q.2.2 rx ry w
      cases k
      case bool =>
        cases x <;> cases y <;> simp [aEq, hu] at h
        simp only [Rel] at rx ry
        subst h rx ry
        simp [Op.equalIn, run_underlying hu]
      case int =>
        cases x <;> cases y <;> simp [aEq, hu] at h
        simp only [Rel] at rx ry
        obtain ⟨rfl, h⟩ := h
        subst h rx ry
        simp [Op.equalIn, run_underlying hu]
      case string =>
        cases x <;> cases y <;> simp [aEq, hu] at h
        simp only [Rel] at rx ry
        subst h rx ry
        rw [run_equalIn_string w _ _ _ _ hu, bytes_toList, bytes_toList]
      case struct fs =>
        cases x <;> cases y <;> simp [aEq, hu] at h
        obtain ⟨us, rfl, rx⟩ := rx
        obtain ⟨vs, rfl, ry⟩ := ry
        have hf : P.fieldsOf t = fs := by simp [Program.fieldsOf, hu]
        rw [run_equalIn_struct (P := P) w _ t us vs (by rw [hf]; exact hu) h.1, hf]
        exact run_aEqF w d IH _ _ us vs rx ry m fs.toList r h.2
      case array n e =>
        cases x <;> cases y <;> simp [aEq, hu] at h
        obtain ⟨us, rfl, rx⟩ := rx
        obtain ⟨vs, rfl, ry⟩ := ry
        unfold tsz at h
        cases hi : P.info? e with
        | none => simp [hi] at h
        | some i =>
          simp [hi] at h
          rw [run_equalIn_array w (d + m) us vs hu hi]
          have hc : P.cellsOf e = i.size := by simp [Program.cellsOf, hi]
          rw [hc]
          exact run_aEqA w d IH e i.size _ _ us vs rx ry m (List.range n) r h
      all_goals
        simp only [aEq, hu] at h
        split at h
        · rename_i hxy
          simp only [Bool.and_eq_true] at hxy
          exact other ⟨hxy.1, hxy.2, h⟩
        · cases h

end
end Go.AH
