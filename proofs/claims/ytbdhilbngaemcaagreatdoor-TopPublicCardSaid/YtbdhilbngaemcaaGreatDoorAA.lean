/- Abstract values, heaps and operations, and the evaluator of one operation, which is sound. No condition. -/
import Derived.Deep.LoopGhost
import Derived.Orders
import Derived.Below
import Derived.Laws.AppendOwn
import Derived.Lib.FrozenHead
import Derived.Laws.StructEq
import Derived.ChangeKeysEq
import Derived.Laws.Entries
import Derived.Laws.Tables
import Derived.ArgAppend
import Derived.Laws.BytesString
set_option linter.unusedVariables false
set_option linter.unusedSimpArgs false
namespace Go.AH
open Go

/-! ### what is not known: numbers that are named -/
/-- The greatest value of each name (all begin at 0): of four bytes: first digit less one of three, two digits, first digit less one of two, a byte of three digits (0 to 19); bits of five numbers (20 to 59); bytes (60 to 71); digits and dots (72 to 86). -/
def domL : List Nat := [1, 9, 9, 8, 255, 1, 9, 9, 8, 255, 1, 9, 9, 8, 255, 1, 9, 9, 8, 255] ++ List.replicate 40 1 ++ List.replicate 12 255 ++ List.replicate 15 11
def dom (i : Nat) : Nat := domL.getD i 0
/-- How public an address of four bytes is. -/
def spaceF (a b c d : Nat) : Nat :=
  if a = 127 then 0 else if a = 0 ∧ b = 0 ∧ c = 0 ∧ d = 0 then 0 else if a = 10 then 1 else if a = 100 ∧ 64 ≤ b ∧ b ≤ 127 then 1 else if a = 169 ∧ b = 254 then 1 else if a = 172 ∧ 16 ≤ b ∧ b ≤ 31 then 1 else if a = 192 ∧ b = 168 then 1 else 2
/-- Values of the names; the bytes of six addresses: two of each space. -/
structure Val where
  ρ : Nat → Int
  lo : ∀ i, 0 ≤ ρ i
  hi : ∀ i, ρ i ≤ dom i
  thr : ∀ j, j < 4 → ρ (5 * j + 4) = 100 * (1 + ρ (5 * j)) + 10 * ρ (5 * j + 1) + ρ (5 * j + 2)
  oct : Nat → Nat → Nat
  ob : ∀ j k, oct j k ≤ 255
  spc : ∀ j, j < 6 → spaceF (oct j 0) (oct j 1) (oct j 2) (oct j 3) = j % 3
/-- A byte's digits; an address's text. -/
def decB (n : Nat) : List UInt8 := if n < 10 then [UInt8.ofNat (48 + n)] else if n < 100 then [UInt8.ofNat (48 + n / 10), UInt8.ofNat (48 + n % 10)] else [UInt8.ofNat (48 + n / 100), UInt8.ofNat (48 + n / 10 % 10), UInt8.ofNat (48 + n % 10)]
def dotB (V : Val) (j : Nat) : List UInt8 := decB (V.oct j 0) ++ (46 :: (decB (V.oct j 1) ++ (46 :: (decB (V.oct j 2) ++ (46 :: decB (V.oct j 3))))))
def linS (ρ : Nat → Int) : Nat → List Int → Int
  | _, [] => 0
  | i, a :: as => a * ρ i + linS ρ (i + 1) as
/-- A number, and names times numbers. -/
def linV (ρ : Nat → Int) : List Int → Int
  | [] => 0
  | c :: as => c + linS ρ 0 as

/-! ### bounds of named numbers -/
def loS : Nat → List Int → Int
  | _, [] => 0
  | i, a :: as => (if a < 0 then a * dom i else 0) + loS (i + 1) as
def hiS : Nat → List Int → Int
  | _, [] => 0
  | i, a :: as => (if a < 0 then 0 else a * dom i) + hiS (i + 1) as
def loV : List Int → Int
  | [] => 0
  | c :: as => c + loS 0 as
def hiV : List Int → Int
  | [] => 0
  | c :: as => c + hiS 0 as
theorem linS_bound (V : Val) : ∀ (i : Nat) (as : List Int), loS i as ≤ linS V.ρ i as ∧ linS V.ρ i as ≤ hiS i as
  | _, [] => by simp [loS, hiS, linS]
  | i, a :: as => by
    obtain ⟨h1, h2⟩ := linS_bound V (i + 1) as
    have l := V.lo i
    have u := V.hi i
    simp only [loS, hiS, linS]
    by_cases ha : a < 0
    · simp only [ha, if_true]
      have := Int.mul_le_mul_of_nonpos_left (Int.le_of_lt ha) u
      have := Int.mul_nonpos_of_nonpos_of_nonneg (Int.le_of_lt ha) l
      omega
    · simp only [ha, if_false]
      have := Int.mul_le_mul_of_nonneg_left u (Int.not_lt.1 ha)
      have := Int.mul_nonneg (Int.not_lt.1 ha) l
      omega
theorem linV_bound (V : Val) (e : List Int) : loV e ≤ linV V.ρ e ∧ linV V.ρ e ≤ hiV e := by
  cases e with
  | nil => simp [loV, hiV, linV]
  | cons c as =>
    have := linS_bound V 0 as
    simp only [loV, hiV, linV]
    omega

def addL : List Int → List Int → List Int
  | [], b => b
  | x :: a, [] => x :: a
  | x :: a, y :: b => (x + y) :: addL a b
def mulL (k : Int) : List Int → List Int
  | [] => []
  | x :: a => k * x :: mulL k a
def subL (a b : List Int) : List Int := addL a (mulL (-1) b)
/-- Without zeros at the end. -/
def strip : List Int → List Int
  | [] => []
  | x :: a => match strip a with
    | [] => if x = 0 then [] else [x]
    | b => x :: b
theorem linS_add (ρ : Nat → Int) : ∀ (i : Nat) (a b : List Int), linS ρ i (addL a b) = linS ρ i a + linS ρ i b
  | _, [], b => by simp [addL, linS]
  | _, x :: a, [] => by simp [addL, linS]
  | i, x :: a, y :: b => by simp only [addL, linS, linS_add ρ (i + 1) a b, Int.add_mul]; omega
theorem linV_add (ρ : Nat → Int) (a b : List Int) : linV ρ (addL a b) = linV ρ a + linV ρ b := by
  cases a with
  | nil => simp [addL, linV]
  | cons x a => cases b with
    | nil => simp [addL, linV]
    | cons y b => simp only [addL, linV, linS_add]; omega
theorem linS_mul (ρ : Nat → Int) (k : Int) : ∀ (i : Nat) (a : List Int), linS ρ i (mulL k a) = k * linS ρ i a
  | _, [] => by simp [mulL, linS]
  | i, x :: a => by simp only [mulL, linS, linS_mul ρ k (i + 1) a, Int.mul_add, Int.mul_assoc]
theorem linV_mul (ρ : Nat → Int) (k : Int) (a : List Int) : linV ρ (mulL k a) = k * linV ρ a := by
  cases a with
  | nil => simp [mulL, linV]
  | cons x a => simp only [mulL, linV, linS_mul, Int.mul_add]
theorem linV_sub (ρ : Nat → Int) (a b : List Int) : linV ρ (subL a b) = linV ρ a - linV ρ b := by
  rw [subL, linV_add, linV_mul]; omega
theorem linS_strip (ρ : Nat → Int) : ∀ (i : Nat) (a : List Int), linS ρ i (strip a) = linS ρ i a
  | _, [] => rfl
  | i, x :: a => by
    have ih := linS_strip ρ (i + 1) a
    unfold strip
    split
    · rename_i h
      rw [h] at ih
      simp only [linS] at ih ⊢
      split
      · rename_i hx; subst hx; simp [linS, ← ih]
      · simp [linS, ← ih]
    · simp only [linS, ih]
theorem linV_strip (ρ : Nat → Int) (a : List Int) : linV ρ (strip a) = linV ρ a := by
  cases a with
  | nil => rfl
  | cons x a =>
    have ih := linS_strip ρ 0 a
    unfold strip
    split
    · rename_i h
      rw [h] at ih
      simp only [linS] at ih
      split
      · rename_i hx; subst hx; simp [linV, ← ih]
      · simp [linV, linS, ← ih]
    · simp only [linV, ih]

/-- Abstract values. -/
inductive AV where
  | any (k : IntKind)
  | lin (k : IntKind) (e : List Int)
  | sym (l : List (List Int))
  | gptr (g off : Nat)
  | anyb
  | atl (k : IntKind) (n : Nat)
  | txt (pre : List UInt8) (j : Nat)
  | oct (j k : Nat)
  | bstr (lo hi : Nat)
  | osl (id hi : Nat)
  | lnb (id : Nat)
  | bfn (f : Fn) (first : List AV)
  | unk
  | bool (b : Bool)
  | int (k : IntKind) (n : Int)
  | str (s : List UInt8)
  | nilp
  | ptr (id off : Nat)
  | iptr (cs : List AV)
  | nilsl
  | esl
  | sl (id off len : Nat) (cap : Option Nat)
  | gsl (id len esz : Nat)
  | isl (cs : List AV) (len : Nat)
  | nilm
  | map (id : Nat)
  | nilf
  | fn (f : Fn) (caps : List AV)
  | nili
  | ifc (t : TypeId) (v : AV)
  | agg (cs : List AV)
  | tup (vs : List AV)
  deriving Inhabited

/-- How ids are read: the world, which block an id names, how many ids there are, which blocks may yet be written. -/
structure Ctx where
  w : World
  β : Nat → Nat
  n : Nat
  N : Nat → Prop
  V : Val

mutual
def Rel (c : Ctx) : AV → Value → Prop
  | .any k, v => ∃ n, v = .int k n
  | .lin k e, v => v = .int k (linV c.V.ρ e)
  | .sym l, v => ∃ s : List UInt8, v = .string ⟨s.toArray⟩ ∧ s.map (fun b => (b.toNat : Int)) = l.map (linV c.V.ρ)
  | .unk, _ => True
  | .bool b, v => v = .bool b
  | .int k n, v => v = .int k n
  | .str s, v => v = .string ⟨s.toArray⟩
  | .nilp, v => v = .pointer none
  | .ptr id off, v => id < c.n ∧ v = .pointer (some ⟨c.β id, off, none⟩)
  | .iptr cs, v => ∃ b o, v = .pointer (some ⟨b, o, none⟩) ∧ b < c.w.heap.size ∧ ¬ c.N b ∧ Row c cs b o
  | .nilsl, v => v = .slice none 0 0
  | .esl, v => ∃ a, v = .slice a 0 0
  | .sl id off len cap, v => id < c.n ∧ ∃ o cap', v = .slice (some ⟨c.β id, o, none⟩) len cap' ∧ (o = off ∨ cap' = 0) ∧ len ≤ cap' ∧ (∀ x, cap = some x → cap' = x)
  | .gsl id len esz, v => id < c.n ∧ ∃ cap' e, v = .slice (some ⟨c.β id, 0, none⟩) len cap' ∧ len ≤ cap' ∧ c.w.shape? (c.β id) = some (e, cap' * esz)
  | .isl cs len, v => ∃ a cap', v = .slice a len cap' ∧ len ≤ cap' ∧ (len = 0 ∨ ∃ b o, a = some ⟨b, o, none⟩ ∧ b < c.w.heap.size ∧ ¬ c.N b ∧ Row c cs b o)
  | .nilm, v => v = .map none
  | .map id, v => id < c.n ∧ v = .map (some (c.β id))
  | .nilf, v => v = .nilFunc
  | .fn f caps, v => ∃ vs, v = .func f #[] vs ∧ RelL c caps vs.toList
  | .nili, v => v = .nilIface
  | .ifc t x, v => ∃ y, v = .iface t y ∧ Rel c x y
  | .agg cs, v => ∃ vs, v = .agg vs ∧ RelL c cs vs.toList
  | .tup cs, v => ∃ vs, v = .tuple vs ∧ RelL c cs vs.toList
  | .gptr g off, v => v = .pointer (some ⟨g, off, none⟩)
  | .anyb, v => ∃ b, v = .bool b
  | .atl k n, v => ∃ m : Int, v = .int k m ∧ (n : Int) ≤ m
  | .txt pre j, v => v = .string ⟨(pre ++ dotB c.V j).toArray⟩
  | .oct j k, v => v = .int .u8 (c.V.oct j k : Nat)
  | .bstr lo hi, v => ∃ s : List UInt8, v = .string ⟨s.toArray⟩ ∧ lo ≤ s.length ∧ s.length ≤ hi
  | .osl id hi, v => id < c.n ∧ ∃ len cap' e, v = .slice (some ⟨c.β id, 0, none⟩) len cap' ∧ 1 ≤ len ∧ len ≤ cap' ∧ len ≤ hi ∧ c.w.shape? (c.β id) = some (e, cap')
  | .lnb id, v => id < c.n ∧ ∃ (n cap' : Nat) (e : TypeId), v = .int .i64 n ∧ 1 ≤ n ∧ n ≤ cap' ∧ n ≤ 1099511627776 ∧ c.w.shape? (c.β id) = some (e, cap')
  | .bfn f first, v => ∃ vs, v = .func f vs #[] ∧ RelL c first vs.toList
def RelL (c : Ctx) : List AV → List Value → Prop
  | [], vs => vs = []
  | x :: xs, vs => ∃ y ys, vs = y :: ys ∧ Rel c x y ∧ RelL c xs ys
def Row (c : Ctx) : List AV → Nat → Nat → Prop
  | [], _, _ => True
  | x :: xs, b, o => (∃ y, c.w.cell? ⟨b, o, none⟩ = some y ∧ Rel c x y) ∧ Row c xs b (o + 1)
end

/-- The readings of c hold in c'. -/
structure Ctx.le (c c' : Ctx) : Prop where
  n : c.n ≤ c'.n
  β : ∀ id, id < c.n → c'.β id = c.β id
  lt : ∀ id, id < c.n → c.β id < c.w.heap.size
  size : c.w.heap.size ≤ c'.w.heap.size
  keep : ∀ b o y, b < c.w.heap.size → ¬ c.N b → c.w.cell? ⟨b, o, none⟩ = some y → c'.w.cell? ⟨b, o, none⟩ = some y
  shape : ∀ b, b < c.w.heap.size → c'.w.shape? b = c.w.shape? b
  N : ∀ b, c'.N b → c.N b ∨ c.w.heap.size ≤ b
  V : c'.V = c.V

theorem cell_of_block {w w' : World} {b o : Nat} (h : w'.heap[b]? = w.heap[b]?) : w'.cell? ⟨b, o, none⟩ = w.cell? ⟨b, o, none⟩ :=
  World.cell?_of_block (w := w) h

mutual
theorem Rel.le {c c' : Ctx} (h : c.le c') : ∀ (x : AV) (v : Value), Rel c x v → Rel c' x v
  | .unk, _, _ => trivial
  | .any _, _, r => r
  | .lin _ _, _, r => by unfold Rel at r ⊢; rw [h.V]; exact r
  | .sym _, _, r => by unfold Rel at r ⊢; rw [h.V]; exact r
  | .bool _, _, r => r
  | .int _ _, _, r => r
  | .str _, _, r => r
  | .nilp, _, r => r
  | .ptr id off, _, r => ⟨Nat.lt_of_lt_of_le r.1 h.n, by rw [h.β id r.1]; exact r.2⟩
  | .iptr cs, _, ⟨b, o, e, hb, hN, hr⟩ => ⟨b, o, e, Nat.lt_of_lt_of_le hb h.size, fun k => (h.N b k).elim hN (fun q => by omega), Row.le h cs b o hb hN hr⟩
  | .nilsl, _, r => r
  | .esl, _, r => r
  | .sl id off len cap, _, r => ⟨Nat.lt_of_lt_of_le r.1 h.n, by rw [h.β id r.1]; exact r.2⟩
  | .gsl id len esz, _, ⟨r, cap', e, h1, h2, h3⟩ => ⟨Nat.lt_of_lt_of_le r h.n, cap', e, by rw [h.β id r]; exact ⟨h1, h2, by rw [h.shape _ (h.lt id r)]; exact h3⟩⟩
  | .isl cs len, _, ⟨a, cap', e, hl, hr⟩ => ⟨a, cap', e, hl, hr.imp id fun ⟨b, o, ha, hb, hN, hr⟩ => ⟨b, o, ha, Nat.lt_of_lt_of_le hb h.size, fun k => (h.N b k).elim hN (fun q => by omega), Row.le h cs b o hb hN hr⟩⟩
  | .nilm, _, r => r
  | .map id, _, r => ⟨Nat.lt_of_lt_of_le r.1 h.n, by rw [h.β id r.1]; exact r.2⟩
  | .nilf, _, r => r
  | .fn _ caps, _, ⟨vs, e, r⟩ => ⟨vs, e, RelL.le h caps _ r⟩
  | .nili, _, r => r
  | .ifc _ x, _, ⟨y, e, r⟩ => ⟨y, e, Rel.le h x y r⟩
  | .agg cs, _, ⟨vs, e, r⟩ => ⟨vs, e, RelL.le h cs _ r⟩
  | .tup cs, _, ⟨vs, e, r⟩ => ⟨vs, e, RelL.le h cs _ r⟩
  | .gptr _ _, _, r => r
  | .anyb, _, r => r
  | .atl _ _, _, r => r
  | .txt _ _, _, r => by unfold Rel at r ⊢; rw [h.V]; exact r
  | .oct _ _, _, r => by unfold Rel at r ⊢; rw [h.V]; exact r
  | .bstr _ _, _, r => r
  | .osl id hi, _, ⟨r, len, cap', e, h1, h2, h3, h4, h5⟩ => ⟨Nat.lt_of_lt_of_le r h.n, len, cap', e, by rw [h.β id r]; exact ⟨h1, h2, h3, h4, by rw [h.shape _ (h.lt id r)]; exact h5⟩⟩
  | .lnb id, _, ⟨r, n, cap', e, h1, h2, h3, h5, h4⟩ => ⟨Nat.lt_of_lt_of_le r h.n, n, cap', e, h1, h2, h3, h5, by rw [h.β id r, h.shape _ (h.lt id r)]; exact h4⟩
  | .bfn _ caps, _, ⟨vs, e, r⟩ => ⟨vs, e, RelL.le h caps _ r⟩
theorem RelL.le {c c' : Ctx} (h : c.le c') : ∀ (xs : List AV) (vs : List Value), RelL c xs vs → RelL c' xs vs
  | [], _, r => r
  | x :: xs, _, ⟨y, ys, e, r, rs⟩ => ⟨y, ys, e, Rel.le h x y r, RelL.le h xs ys rs⟩
theorem Row.le {c c' : Ctx} (h : c.le c') : ∀ (xs : List AV) (b o : Nat), b < c.w.heap.size → ¬ c.N b → Row c xs b o → Row c' xs b o
  | [], _, _, _, _, _ => trivial
  | x :: xs, b, o, hb, hN, ⟨⟨y, e, r⟩, rs⟩ => ⟨⟨y, h.keep b o y hb hN e, Rel.le h x y r⟩, Row.le h xs b (o + 1) hb hN rs⟩
end

/-! ### Rows of values -/
theorem RelL.length {c : Ctx} : ∀ {xs : List AV} {vs : List Value}, RelL c xs vs → xs.length = vs.length
  | [], _, r => by cases r; rfl
  | _ :: _, _, ⟨_, _, e, _, rs⟩ => by cases e; simp [RelL.length rs]

theorem RelL.get {c : Ctx} : ∀ {xs : List AV} {vs : List Value}, RelL c xs vs → ∀ {i : Nat} {x : AV}, xs[i]? = some x → ∃ y, vs[i]? = some y ∧ Rel c x y
  | [], _, _, _, _, h => by simp at h
  | _ :: _, _, ⟨y, ys, e, r, rs⟩, 0, x, h => by cases e; simp at h; exact ⟨y, rfl, h ▸ r⟩
  | _ :: _, _, ⟨y, ys, e, r, rs⟩, i + 1, x, h => by cases e; simp at h; simpa using RelL.get rs h

theorem RelL.getR {c : Ctx} : ∀ {xs : List AV} {vs : List Value}, RelL c xs vs → ∀ {i : Nat} {y : Value}, vs[i]? = some y → ∃ x, xs[i]? = some x ∧ Rel c x y
  | [], _, r, _, _, h => by cases r; simp at h
  | _ :: _, _, ⟨y, ys, e, r, rs⟩, 0, x, h => by cases e; simp at h; exact ⟨_, rfl, h ▸ r⟩
  | _ :: _, _, ⟨y, ys, e, r, rs⟩, i + 1, x, h => by cases e; simp at h; simpa using RelL.getR rs h

theorem RelL.set {c : Ctx} {x : AV} {y : Value} (h : Rel c x y) : ∀ {xs : List AV} {vs : List Value}, RelL c xs vs → ∀ (i : Nat), RelL c (xs.set i x) (vs.set i y)
  | [], _, r, _ => by cases r; exact rfl
  | _ :: _, _, ⟨_, ys, e, _, rs⟩, 0 => by cases e; exact ⟨_, _, rfl, h, rs⟩
  | _ :: _, _, ⟨_, ys, e, r, rs⟩, i + 1 => by cases e; exact ⟨_, _, rfl, r, RelL.set h rs i⟩

theorem RelL.append {c : Ctx} : ∀ {xs xs' : List AV} {vs vs' : List Value}, RelL c xs vs → RelL c xs' vs' → RelL c (xs ++ xs') (vs ++ vs')
  | [], _, _, _, r, r' => by cases r; exact r'
  | _ :: _, _, _, _, ⟨_, ys, e, r, rs⟩, r' => by cases e; exact ⟨_, _, rfl, r, RelL.append rs r'⟩

theorem RelL.take {c : Ctx} : ∀ {xs : List AV} {vs : List Value}, RelL c xs vs → ∀ n, RelL c (xs.take n) (vs.take n)
  | [], _, r, n => by cases r; simp [RelL]
  | _ :: _, _, ⟨_, _, e, _, _⟩, 0 => by cases e; exact rfl
  | _ :: _, _, ⟨_, ys, e, r, rs⟩, n + 1 => by cases e; exact ⟨_, _, rfl, r, RelL.take rs n⟩

theorem RelL.drop {c : Ctx} : ∀ {xs : List AV} {vs : List Value}, RelL c xs vs → ∀ n, RelL c (xs.drop n) (vs.drop n)
  | [], _, r, n => by cases r; simp [RelL]
  | _ :: _, _, ⟨_, _, e, r, rs⟩, 0 => by cases e; exact ⟨_, _, rfl, r, rs⟩
  | _ :: _, _, ⟨_, ys, e, r, rs⟩, n + 1 => by cases e; exact RelL.drop rs n

theorem RelL.replicate {c : Ctx} {x : AV} {y : Value} (h : Rel c x y) : ∀ n, RelL c (List.replicate n x) (List.replicate n y)
  | 0 => rfl
  | n + 1 => ⟨_, _, rfl, h, RelL.replicate h n⟩

theorem relL_unk {c : Ctx} : ∀ (vs : List Value), RelL c (List.replicate vs.length .unk) vs
  | [] => rfl
  | _ :: vs => ⟨_, _, rfl, trivial, relL_unk vs⟩

theorem relL_of_get {c : Ctx} : ∀ {xs : List AV} {vs : List Value}, xs.length = vs.length → (∀ (i : Nat) (x : AV) (y : Value), xs[i]? = some x → vs[i]? = some y → Rel c x y) → RelL c xs vs
  | [], [], _, _ => rfl
  | [], _ :: _, h, _ => by simp at h
  | _ :: _, [], h, _ => by simp at h
  | x :: xs, v :: vs, h, hr => ⟨_, _, rfl, hr 0 x v rfl rfl, relL_of_get (by simpa using h) fun i a b ha hb => hr (i + 1) a b (by simpa using ha) (by simpa using hb)⟩

theorem Row.get {c : Ctx} : ∀ {xs : List AV} {b o : Nat}, Row c xs b o → ∀ {i : Nat} {x : AV}, xs[i]? = some x → ∃ y, c.w.cell? ⟨b, o + i, none⟩ = some y ∧ Rel c x y
  | [], _, _, _, _, _, h => by simp at h
  | _ :: _, _, _, ⟨⟨y, e, r⟩, rs⟩, 0, x, h => by simp at h; exact ⟨y, e, h ▸ r⟩
  | _ :: _, b, o, ⟨_, rs⟩, i + 1, x, h => by
    simp at h
    have := Row.get rs h
    rwa [show o + 1 + i = o + (i + 1) by omega] at this

theorem row_of_get {c : Ctx} : ∀ {xs : List AV} {b o : Nat}, (∀ (i : Nat) (x : AV), xs[i]? = some x → ∃ y, c.w.cell? ⟨b, o + i, none⟩ = some y ∧ Rel c x y) → Row c xs b o
  | [], _, _, _ => trivial
  | x :: xs, b, o, h => ⟨h 0 x rfl, row_of_get fun i a ha => by
    have := h (i + 1) a (by simpa using ha)
    rwa [show o + (i + 1) = o + 1 + i by omega] at this⟩

theorem Row.drop {c : Ctx} {xs : List AV} {b o : Nat} (h : Row c xs b o) (n : Nat) : Row c (xs.drop n) b (o + n) :=
  row_of_get fun i x hx => by
    rw [List.getElem?_drop] at hx
    have := h.get hx
    rwa [show o + n + i = o + (n + i) by omega]

theorem Row.take {c : Ctx} {xs : List AV} {b o : Nat} (h : Row c xs b o) (n : Nat) : Row c (xs.take n) b o :=
  row_of_get fun i x hx => by
    rw [List.getElem?_take] at hx
    split at hx
    · exact h.get hx
    · simp at hx

theorem row_sub {c : Ctx} {xs ys : List AV} {b o : Nat} (h : Row c ys b o) (hs : ∀ (i : Nat) x, xs[i]? = some x → ys[i]? = some x ∨ x = .unk ∧ i < ys.length) : Row c xs b o :=
  row_of_get fun i x hx => by
    rcases hs i x hx with h1 | ⟨rfl, h2⟩
    · exact h.get h1
    · obtain ⟨y, e, _⟩ := h.get (List.getElem?_eq_getElem h2)
      exact ⟨y, e, trivial⟩

/-- A named number that is none. -/
def mkLin (k : IntKind) (e : List Int) : AV := match strip e with
  | [] => .int k 0
  | [c] => .int k c
  | e => .lin k e
theorem mkLin_rel (c : Ctx) (k : IntKind) (e : List Int) : Rel c (mkLin k e) (.int k (linV c.V.ρ e)) := by
  rw [← linV_strip]
  unfold mkLin
  generalize strip e = a
  split
  · simp [Rel, linV]
  · simp [Rel, linV, linS]
  · simp only [Rel]
/-- The bytes of a text that are named, as cells. -/
def scells (l : List (List Int)) : List AV := l.map (mkLin .u8)
theorem rel_scells (c : Ctx) : ∀ {s : List UInt8} {l : List (List Int)}, s.map (fun b => (b.toNat : Int)) = l.map (linV c.V.ρ) → RelL c (scells l) (s.map fun b => .int .u8 b.toNat)
  | [], [], _ => rfl
  | [], _ :: _, h => by simp at h
  | _ :: _, [], h => by simp at h
  | b :: s, e :: l, h => by
    simp only [List.map_cons, List.cons.injEq] at h
    refine ⟨_, _, rfl, ?_, rel_scells c h.2⟩
    have := mkLin_rel c .u8 e
    rw [← h.1] at this
    exact this
end Go.AH
namespace Go.AH
open Go

/-- A block, abstractly. -/
inductive Blk where
  | row (cs : List AV) (elem : TypeId) (whole : Bool)
  | mp (es : List (AV × AV × Nat)) (clock : Nat)
  | siter (s : List UInt8) (pos : Nat)
  | yiter (l : List (List Int)) (pos : Nat)
  | ubytes (elem : TypeId)
  deriving Inhabited

def RelE (c : Ctx) : List (AV × AV × Nat) → List MapEntry → Prop
  | [], l => l = []
  | (k, v, b) :: es, l => ∃ e r, l = e :: r ∧ Rel c k e.key ∧ Rel c v e.val ∧ e.born = b ∧ RelE c es r

def BlkRel (c : Ctx) : Blk → Obj → Prop
  | .row cs elem whole, o => ∃ vs fz, o = .cells vs elem fz ∧ (∃ ys zs, vs.toList = ys ++ zs ∧ RelL c cs ys ∧ (whole = true → zs = [])) ∧ ∀ i, i < vs.size → ¬ (fz.1 ≤ i ∧ i < fz.2)
  | .mp es clock, o => ∃ l, o = .map l clock ∧ RelE c es l.toList
  | .siter s pos, o => o = .stringIter ⟨s.toArray⟩ pos
  | .ubytes e, o => ∃ vs fz, o = .cells vs e fz ∧ (∀ i, i < vs.size → ¬ (fz.1 ≤ i ∧ i < fz.2)) ∧ ∀ x ∈ vs.toList, ∃ n : Nat, x = .int .u8 n ∧ n < 256
  | .yiter l pos, o => ∃ s : List UInt8, o = .stringIter ⟨s.toArray⟩ pos ∧ s.map (fun b => (b.toNat : Int)) = l.map (linV c.V.ρ)

theorem RelE.le {c c' : Ctx} (h : c.le c') : ∀ {es : List (AV × AV × Nat)} {l : List MapEntry}, RelE c es l → RelE c' es l
  | [], _, r => r
  | (_, _, _) :: _, _, ⟨e, r, h1, h2, h3, h4, h5⟩ => ⟨e, r, h1, Rel.le h _ _ h2, Rel.le h _ _ h3, h4, RelE.le h h5⟩

theorem BlkRel.le {c c' : Ctx} (h : c.le c') : ∀ {b : Blk} {o : Obj}, BlkRel c b o → BlkRel c' b o
  | .row _ _ _, _, ⟨vs, fz, e, ⟨ys, zs, e2, r, w⟩, f⟩ => ⟨vs, fz, e, ⟨ys, zs, e2, RelL.le h _ _ r, w⟩, f⟩
  | .mp _ _, _, ⟨l, e, r⟩ => ⟨l, e, RelE.le h r⟩
  | .siter _ _, _, r => r
  | .yiter _ _, _, r => by simp only [BlkRel] at r ⊢; rw [h.V]; exact r
  | .ubytes _, _, r => r

abbrev Heap := List (Option Blk)

/-- Block b is the call's own. -/
def Own (β : Nat → Nat) (h : Heap) (b : Nat) : Prop := ∃ id blk, h[id]? = some (some blk) ∧ β id = b

/-- Blocks that the call does not write, and the values of the names. -/
structure Fr where
  blk : Nat → Prop
  V : Val
instance : CoeFun Fr (fun _ => Nat → Prop) := ⟨Fr.blk⟩

abbrev ctx (F : Fr) (β : Nat → Nat) (w : World) (h : Heap) : Ctx := ⟨w, β, h.length, fun b => Own β h b ∨ F b, F.V⟩

/-! ### package variables that are read: what their first cells hold -/
def gtab : List (Nat × List AV) := [(0, [.any .i64]), (1, (List.range 20).map fun i => .int .u64 (10 ^ i : Nat))]
def gRel : AV → Value → Prop
  | .int k n, v => v = .int k n
  | .any k, v => ∃ n, v = .int k n
  | _, _ => True
def GRow (w : World) (g : Nat) (cs : List AV) : Prop := ∀ i x, cs[i]? = some x → ∃ y, w.cell? ⟨g, i, none⟩ = some y ∧ gRel x y
def GSt (O : Nat → Prop) (w : World) : Prop := ∀ x ∈ gtab, x.1 < w.heap.size ∧ ¬ O x.1 ∧ GRow w x.1 x.2 ∧ ∃ e, w.shape? x.1 = some (e, x.2.length)

structure St (F : Fr) (β : Nat → Nat) (w : World) (h : Heap) : Prop where
  live : ∀ id blk, h[id]? = some (some blk) → ∃ o, w.heap[β id]? = some o ∧ BlkRel (ctx F β w h) blk o
  inj : ∀ i j bi bj, h[i]? = some (some bi) → h[j]? = some (some bj) → β i = β j → i = j
  sep : ∀ b, F b → ¬ Own β h b
  flt : ∀ b, F b → b < w.heap.size
  lt : ∀ id, id < h.length → β id < w.heap.size
  gl : GSt (Own β h) w

structure Step (O : Nat → Prop) (w w' : World) (O' : Nat → Prop) : Prop where
  os : w'.os = w.os
  tape : w'.tape = w.tape
  output : w'.output = w.output
  size : w.heap.size ≤ w'.heap.size
  keep : ∀ b, b < w.heap.size → ¬ O b → w'.heap[b]? = w.heap[b]?
  shape : ∀ b, b < w.heap.size → w'.shape? b = w.shape? b
  own : ∀ b, O' b → O b ∨ w.heap.size ≤ b

theorem Step.refl (O : Nat → Prop) (w : World) : Step O w w O := ⟨rfl, rfl, rfl, Nat.le_refl _, fun _ _ _ => rfl, fun _ _ => rfl, fun _ h => .inl h⟩

theorem Step.trans {O O' O'' : Nat → Prop} {w w' w'' : World} (h : Step O w w' O') (k : Step O' w' w'' O'') : Step O w w'' O'' where
  os := k.os.trans h.os
  tape := k.tape.trans h.tape
  output := k.output.trans h.output
  size := Nat.le_trans h.size k.size
  keep b hb hO := by
    rw [k.keep b (Nat.lt_of_lt_of_le hb h.size) (fun q => (h.own b q).elim hO (fun r => by omega)), h.keep b hb hO]
  shape b hb := by rw [k.shape b (Nat.lt_of_lt_of_le hb h.size), h.shape b hb]
  own b hb := by
    rcases k.own b hb with q | q
    · exact h.own b q
    · exact .inr (Nat.le_trans h.size q)

theorem Step.below {O O' : Nat → Prop} {w w' : World} (h : Step O w w' O') (hO : ∀ b, ¬ O b) : Go.RowKit.Below w.heap.size w w' :=
  ⟨h.os, h.tape, h.output, h.size, fun k hk => h.keep k hk (hO k)⟩

theorem GSt.mono {O O' : Nat → Prop} {w : World} (g : GSt O w) (h : ∀ b, O' b → O b) : GSt O' w := fun x hx => ⟨(g x hx).1, fun q => (g x hx).2.1 (h _ q), (g x hx).2.2⟩
theorem GSt.step {O O' : Nat → Prop} {w w' : World} (g : GSt O w) (st : Step O w w' O') : GSt O' w' := fun x hx => by
  obtain ⟨h1, h2, h3, e0, h4⟩ := g x hx
  refine ⟨Nat.lt_of_lt_of_le h1 st.size, fun q => (st.own _ q).elim h2 (fun r => by omega), fun i y hy => ?_, e0, by rw [st.shape _ h1]; exact h4⟩
  obtain ⟨z, e, r⟩ := h3 i y hy
  exact ⟨z, by rw [cell_of_block (st.keep _ h1 h2)]; exact e, r⟩

/-- One abstract state goes to another. -/
structure Goes (F : Fr) (β : Nat → Nat) (w : World) (h : Heap) (β' : Nat → Nat) (w' : World) (h' : Heap) : Prop where
  st : St F β' w' h'
  step : Step (Own β h) w w' (Own β' h')
  len : h.length ≤ h'.length
  β : ∀ id, id < h.length → β' id = β id

theorem St.leOf {F : Fr} {β β' : Nat → Nat} {w w' : World} {h h' : Heap} (s : St F β w h) (st : Step (Own β h) w w' (Own β' h')) (len : h.length ≤ h'.length)
    (hβ : ∀ id, id < h.length → β' id = β id) : (ctx F β w h).le (ctx F β' w' h') where
  n := len
  β := hβ
  lt := s.lt
  size := st.size
  keep b o y hb hN e := by rw [cell_of_block (st.keep b hb fun q => hN (.inl q))]; exact e
  shape := st.shape
  V := rfl
  N b hb := by
    rcases hb with q | q
    · exact (st.own b q).imp .inl id
    · exact .inl (.inr q)

theorem Goes.le {F : Fr} {β β' : Nat → Nat} {w w' : World} {h h' : Heap} (s : St F β w h) (g : Goes F β w h β' w' h') : (ctx F β w h).le (ctx F β' w' h') :=
  s.leOf g.step g.len g.β

theorem Goes.refl {F : Fr} {β : Nat → Nat} {w : World} {h : Heap} (s : St F β w h) : Goes F β w h β w h := ⟨s, Step.refl _ _, Nat.le_refl _, fun _ _ => rfl⟩

theorem Goes.trans {F : Fr} {β β' β'' : Nat → Nat} {w w' w'' : World} {h h' h'' : Heap} (g : Goes F β w h β' w' h') (k : Goes F β' w' h' β'' w'' h'') : Goes F β w h β'' w'' h'' :=
  ⟨k.st, g.step.trans k.step, Nat.le_trans g.len k.len, fun id hid => (k.β id (Nat.lt_of_lt_of_le hid g.len)).trans (g.β id hid)⟩

/-- A draw. -/
theorem St.drew {F : Fr} {β : Nat → Nat} {w : World} {h : Heap} (s : St F β w h) (w' : World) (hh : w'.heap = w.heap) (h1 : w'.os = w.os) (h2 : w'.tape = w.tape) (h3 : w'.output = w.output) : Goes F β w h β w' h := by
  have st : Step (Own β h) w w' (Own β h) := ⟨h1, h2, h3, by rw [hh]; exact Nat.le_refl _, fun b _ _ => by rw [hh], fun b _ => by simp [World.shape?, hh], fun b q => .inl q⟩
  have le := s.leOf (β' := β) (h' := h) st (Nat.le_refl _) (fun _ _ => rfl)
  refine ⟨⟨fun id blk hb => ?_, s.inj, s.sep, fun b hb => by rw [hh]; exact s.flt b hb, fun id hid => by rw [hh]; exact s.lt id hid, s.gl.step st⟩, st, Nat.le_refl _, fun _ _ => rfl⟩
  obtain ⟨o, ho, hr⟩ := s.live id blk hb
  exact ⟨o, by rw [hh]; exact ho, BlkRel.le le hr⟩

theorem own_append {β : Nat → Nat} {h : Heap} {x : Option Blk} {n b : Nat} (q : Own (fun id => if id = h.length then n else β id) (h ++ [x]) b) : Own β h b ∨ b = n := by
  obtain ⟨id, blk, hb, e⟩ := q
  by_cases hid : id = h.length
  · simp [hid] at e; exact .inr e.symm
  · simp [hid] at e
    rw [List.getElem?_append] at hb
    split at hb
    · exact .inl ⟨id, blk, hb, e⟩
    · rename_i hge
      have : id - h.length ≠ 0 := by omega
      rw [List.getElem?_eq_none (by simp; omega)] at hb
      simp at hb

/-- A new block. -/
theorem St.alloc {F : Fr} {β : Nat → Nat} {w : World} {h : Heap} (s : St F β w h) (o : Obj) (blk : Blk) (hr : BlkRel (ctx F β w h) blk o) :
    Goes F β w h (fun id => if id = h.length then w.heap.size else β id) (w.alloc o) (h ++ [some blk]) := by
  have old : ∀ b, b < w.heap.size → (w.alloc o).heap[b]? = w.heap[b]? := fun b hb => heap_alloc_old w o b hb
  have st : Step (Own β h) w (w.alloc o) (Own (fun id => if id = h.length then w.heap.size else β id) (h ++ [some blk])) :=
    ⟨rfl, rfl, rfl, by simp, fun b hb _ => old b hb, fun b hb => by simp [World.shape?, old b hb], fun b q => (own_append q).imp id fun e => by omega⟩
  have le := s.leOf (β' := fun id => if id = h.length then w.heap.size else β id) (h' := h ++ [some blk]) st (by simp) (fun id hid => if_neg (by omega))
  refine ⟨⟨fun id b hb => ?_, fun i j bi bj hi hj e => ?_, fun b hF q => ?_, fun b hF => ?_, fun id hid => ?_, s.gl.step st⟩, st, by simp, fun id hid => if_neg (by omega)⟩
  · rw [List.getElem?_append] at hb
    split at hb
    · rename_i hlt
      obtain ⟨o', ho', hr'⟩ := s.live id b hb
      refine ⟨o', ?_, BlkRel.le le hr'⟩
      simp only [if_neg (show id ≠ h.length by omega)]
      rw [old _ (s.lt id hlt)]; exact ho'
    · rename_i hge
      have he : id = h.length := by
        rcases Nat.lt_or_ge (id - h.length) 1 with q | q
        · omega
        · rw [List.getElem?_eq_none (by simpa using q)] at hb; simp at hb
      subst he
      simp at hb
      subst hb
      exact ⟨o, by rw [if_pos rfl]; exact heap_alloc_new w o, BlkRel.le le hr⟩
  · have key : ∀ (i : Nat) (bi : Blk), (h ++ [some blk])[i]? = some (some bi) → i = h.length ∨ (i < h.length ∧ h[i]? = some (some bi)) := by
      intro i bi hi
      rw [List.getElem?_append] at hi
      split at hi
      · exact .inr ⟨‹_›, hi⟩
      · left
        rcases Nat.lt_or_ge (i - h.length) 1 with q | q
        · omega
        · rw [List.getElem?_eq_none (by simpa using q)] at hi; simp at hi
    rcases key i bi hi with hi' | ⟨hi', hi''⟩ <;> rcases key j bj hj with hj' | ⟨hj', hj''⟩
    · omega
    · subst hi'; rw [if_pos rfl, if_neg (show j ≠ h.length by omega)] at e; have := s.lt j hj'; omega
    · subst hj'; rw [if_pos rfl, if_neg (show i ≠ h.length by omega)] at e; have := s.lt i hi'; omega
    · rw [if_neg (show j ≠ h.length by omega), if_neg (show i ≠ h.length by omega)] at e; exact s.inj i j bi bj hi'' hj'' e
  · rcases own_append q with q | q
    · exact s.sep b hF q
    · have := s.flt b hF; omega
  · have := s.flt b hF; simp; omega
  · rw [List.length_append] at hid
    simp only [World.size_alloc]
    split
    · omega
    · have := s.lt id (by simp at hid; omega); omega

/-- A block that is given up. -/
theorem St.kill {F : Fr} {β : Nat → Nat} {w : World} {h : Heap} (s : St F β w h) (i : Nat) : Goes F β w h β w (h.set i none) := by
  have own : ∀ (id : Nat) (blk : Blk), (h.set i none)[id]? = some (some blk) → h[id]? = some (some blk) := by
    intro id blk hb
    rw [List.getElem?_set] at hb
    split at hb
    · split at hb <;> simp at hb
    · exact hb
  have st : Step (Own β h) w w (Own β (h.set i none)) := ⟨rfl, rfl, rfl, Nat.le_refl _, fun _ _ _ => rfl, fun _ _ => rfl, fun b ⟨id, blk, hb, e⟩ => .inl ⟨id, blk, own id blk hb, e⟩⟩
  have le := s.leOf (β' := β) (h' := h.set i none) st (by simp) (fun _ _ => rfl)
  refine ⟨⟨fun id blk hb => ?_, fun a b ba bb ha hb e => s.inj a b ba bb (own _ _ ha) (own _ _ hb) e, fun b hF ⟨id, blk, hb, e⟩ => s.sep b hF ⟨id, blk, own id blk hb, e⟩, s.flt, fun id hid => s.lt id (by simpa using hid), s.gl.step st⟩, st, by simp, fun _ _ => rfl⟩
  obtain ⟨o, ho, hr⟩ := s.live id blk (own id blk hb)
  exact ⟨o, ho, BlkRel.le le hr⟩

/-- A block that is written. -/
theorem St.put {F : Fr} {β : Nat → Nat} {w : World} {h : Heap} (s : St F β w h) (i : Nat) (old blk : Blk) (hi : h[i]? = some (some old)) (w' : World) (o' : Obj)
    (h1 : w'.os = w.os) (h2 : w'.tape = w.tape) (h3 : w'.output = w.output) (hs : w'.heap.size = w.heap.size) (ho : w'.heap[β i]? = some o') (hk : ∀ b, b ≠ β i → w'.heap[b]? = w.heap[b]?)
    (hsh : w'.shape? (β i) = w.shape? (β i)) (hr : BlkRel (ctx F β w h) blk o') : Goes F β w h β w' (h.set i (some blk)) := by
  have hil : i < h.length := by
    rcases Nat.lt_or_ge i h.length with q | q
    · exact q
    · rw [List.getElem?_eq_none q] at hi; simp at hi
  have own : ∀ (id : Nat) (b : Blk), (h.set i (some blk))[id]? = some (some b) → (id = i ∧ b = blk) ∨ (id ≠ i ∧ h[id]? = some (some b)) := by
    intro id b hb
    rw [List.getElem?_set] at hb
    split at hb
    · rename_i e
      subst e
      simp [hil] at hb
      exact .inl ⟨rfl, hb.symm⟩
    · exact .inr ⟨by omega, hb⟩
  have own2 : ∀ b, Own β (h.set i (some blk)) b → Own β h b := by
    rintro b ⟨id, bk, hb, e⟩
    rcases own id bk hb with ⟨rfl, _⟩ | ⟨_, q⟩
    · exact ⟨id, old, hi, e⟩
    · exact ⟨id, bk, q, e⟩
  have st : Step (Own β h) w w' (Own β (h.set i (some blk))) := by
    refine ⟨h1, h2, h3, by omega, fun b _ hO => hk b fun e => hO ⟨i, old, hi, e.symm⟩, fun b _ => ?_, fun b q => .inl (own2 b q)⟩
    by_cases e : b = β i
    · rw [e]; exact hsh
    · simp [World.shape?, hk b e]
  have le := s.leOf (β' := β) (h' := h.set i (some blk)) st (by simp) (fun _ _ => rfl)
  refine ⟨⟨fun id b hb => ?_, fun a c ba bc ha hc e => ?_, fun b hF q => s.sep b hF (own2 b q), fun b hF => by rw [hs]; exact s.flt b hF, fun id hid => by rw [hs]; exact s.lt id (by simpa using hid), s.gl.step st⟩, st, by simp, fun _ _ => rfl⟩
  · rcases own id b hb with ⟨rfl, rfl⟩ | ⟨hne, q⟩
    · exact ⟨o', ho, BlkRel.le le hr⟩
    · obtain ⟨o, hob, hrb⟩ := s.live id b q
      exact ⟨o, by rw [hk _ fun e => hne (s.inj _ _ _ _ q hi e)]; exact hob, BlkRel.le le hrb⟩
  · rcases own a ba ha with ⟨rfl, _⟩ | ⟨_, qa⟩ <;> rcases own c bc hc with ⟨rfl, _⟩ | ⟨_, qc⟩
    · rfl
    · exact s.inj _ _ _ _ hi qc e
    · exact s.inj _ _ _ _ qa hi e
    · exact s.inj _ _ _ _ qa qc e

end Go.AH
namespace Go.AH
open Go

/-! ### constants -/
def ofConst1 : Value → AV
  | .bool b => .bool b
  | .int k n => .int k n
  | .string s => .str s.data.toList
  | .pointer none => .nilp
  | .slice none 0 0 => .nilsl
  | .map none => .nilm
  | .nilFunc => .nilf
  | .nilIface => .nili
  | _ => .unk

def ofConst : Value → AV
  | .agg cs => .agg (cs.toList.map ofConst1)
  | .tuple cs => .tup (cs.toList.map ofConst1)
  | v => ofConst1 v

theorem rel_ofConst1 (c : Ctx) (v : Value) : Rel c (ofConst1 v) v := by
  unfold ofConst1
  split <;> simp [Rel]

theorem relL_ofConst1 (c : Ctx) : ∀ (vs : List Value), RelL c (vs.map ofConst1) vs
  | [] => rfl
  | v :: vs => ⟨v, vs, rfl, rel_ofConst1 c v, relL_ofConst1 c vs⟩

theorem rel_ofConst (c : Ctx) (v : Value) : Rel c (ofConst v) v := by
  unfold ofConst
  split
  · exact ⟨_, rfl, relL_ofConst1 c _⟩
  · exact ⟨_, rfl, relL_ofConst1 c _⟩
  · exact rel_ofConst1 c _

/-! ### cells -/
def acells : AV → Option (List AV)
  | .agg cs => some cs
  | .unk => none
  | .tup _ => none
  | x => some [x]

theorem acells_rel {c : Ctx} {x : AV} {v : Value} {cs : List AV} (h : acells x = some cs) (r : Rel c x v) : RelL c cs v.cells.toList := by
  cases x <;> simp only [acells, Option.some.injEq, reduceCtorEq] at h <;> subst h
  case agg cs => obtain ⟨vs, rfl, r⟩ := r; exact r
  all_goals
    have hv : v.cells = #[v] := by
      simp only [Rel] at r
      first
        | (subst r; rfl)
        | (obtain ⟨_, rfl⟩ := r; rfl)
        | (obtain ⟨_, _, rfl, _⟩ := r; rfl)
        | (obtain ⟨_, _, _, rfl, _⟩ := r; rfl)
        | (obtain ⟨_, rfl, _⟩ := r; rfl)
        | (obtain ⟨_, _, _, _, rfl, _⟩ := r; rfl)
    rw [hv]
    exact ⟨v, [], rfl, r, rfl⟩

/-- A value of one cell. -/
def oneC : AV → Bool
  | .agg _ => false
  | .unk => false
  | .tup _ => false
  | _ => true

theorem oneC_rel {c : Ctx} {x : AV} {v : Value} (h : oneC x = true) (r : Rel c x v) : v.oneCell' = true := by
  cases x <;> simp only [oneC, Bool.false_eq_true] at h <;> simp only [Rel] at r <;>
    first
      | (subst r; rfl)
      | (obtain ⟨_, rfl⟩ := r; rfl)
      | (obtain ⟨_, _, rfl, _⟩ := r; rfl)
      | (obtain ⟨_, _, _, rfl, _⟩ := r; rfl)
      | (obtain ⟨_, rfl, _⟩ := r; rfl)
      | (obtain ⟨_, _, _, _, rfl, _⟩ := r; rfl)

theorem oneC_all {c : Ctx} : ∀ {xs : List AV} {vs : List Value}, xs.all oneC = true → RelL c xs vs → ∀ v ∈ vs, v.oneCell' = true
  | [], _, _, r, v, hv => by cases r; simp at hv
  | x :: xs, _, h, ⟨y, ys, e, r, rs⟩, v, hv => by
    cases e
    simp at h hv
    rcases hv with rfl | hv
    · exact oneC_rel h.1 r
    · exact oneC_all (by simpa using h.2) rs v hv

/-! ### types -/
def tsz (P : Program) (t : TypeId) : Option Nat := (P.info? t).map (·.size)
def tagg (P : Program) (t : TypeId) : Option Bool := match P.underlying t with
  | some (.struct _) => some true
  | some (.array _ _) => some true
  | some _ => some false
  | none => none
/-- A field's offset and type. -/
def fld (P : Program) (s : TypeId) (f : Nat) : Option (Nat × TypeId) := match P.underlying s with
  | some (.struct fs) => (fs[f]?).map fun d => (d.offset, d.type)
  | _ => none

def cut (cs : List AV) (off n : Nat) : Option (List AV) := if off + n ≤ cs.length then some ((cs.drop off).take n) else none

/-- The value of type t in cells from off on. -/
def pick (P : Program) (t : TypeId) (cs : List AV) (off : Nat) : Option AV := match tagg P t with
  | some true => match tsz P t with
    | some n => (cut cs off n).map .agg
    | none => none
  | some false => cs[off]?
  | none => none

section
variable {P : Program} {c : Ctx}

theorem run_isAgg {t : TypeId} {b : Bool} (h : tagg P t = some b) (w : World) : (isAgg t).run P w = .ok b w := by
  unfold tagg at h
  split at h <;> rename_i hu <;> simp only [Option.some.injEq, reduceCtorEq] at h <;> subst h <;> simp only [isAgg, Sem.run_bind, run_underlying hu, Result.andThen_ok]
  · rfl
  · rfl
  · rename_i d h1 h2
    cases d <;> simp_all

theorem run_sizeOf' {t : TypeId} {n : Nat} (h : tsz P t = some n) (w : World) : (sizeOf t).run P w = .ok n w := by
  unfold tsz at h
  rw [Option.map_eq_some_iff] at h
  obtain ⟨i, hi, rfl⟩ := h
  simp [sizeOf, typeInfo, hi]

theorem cut_len {cs : List AV} {off n : Nat} {ds : List AV} (h : cut cs off n = some ds) : ds.length = n ∧ off + n ≤ cs.length ∧ ds = (cs.drop off).take n := by
  unfold cut at h
  split at h
  · simp at h; subst h; simp; omega
  · cases h

theorem run_loadCells_row {cs : List AV} {b o : Nat} (h : Row c cs b o) {off n : Nat} {ds : List AV} (hc : cut cs off n = some ds) :
    ∃ vs, (loadCells ⟨b, o + off, none⟩ n).run P c.w = .ok vs c.w ∧ RelL c ds vs.toList := by
  obtain ⟨hl, hle, rfl⟩ := cut_len hc
  have key : ∀ j, j < n → ∃ y, c.w.cell? ⟨b, o + off + j, none⟩ = some y ∧ Rel c (cs.getD (off + j) .unk) y := by
    intro j hj
    have := h.get (i := off + j) (x := cs.getD (off + j) .unk) (by rw [List.getD, List.getElem?_eq_getElem (by omega)]; rfl)
    rwa [show o + (off + j) = o + off + j by omega] at this
  let f : Nat → Value := fun j => ((c.w.cell? ⟨b, o + off + j, none⟩).getD undef)
  refine ⟨_, run_loadCells c.w ⟨b, o + off, none⟩ n f (fun j hj => ?_), ?_⟩
  · obtain ⟨y, e, _⟩ := key j hj
    rw [Addr.add_lit]
    simp only [f, e, Option.getD_some]
  · refine relL_of_get (by simp; omega) fun i x y hx hy => ?_
    simp only [List.getElem?_map] at hy
    rw [Option.map_eq_some_iff] at hy
    obtain ⟨j, hj, rfl⟩ := hy
    rw [List.getElem?_range] at hj
    · simp at hj
      subst hj
      rw [List.getElem?_take] at hx
      split at hx
      · obtain ⟨y, e, r⟩ := key i (by assumption)
        rw [List.getElem?_drop] at hx
        simp only [f, e, Option.getD_some]
        rw [List.getD, hx] at r
        exact r
      · cases hx
    · rcases Nat.lt_or_ge i n with q | q
      · exact q
      · rw [List.getElem?_eq_none (by simpa using q)] at hj; cases hj

theorem run_loadVar_row' {t : TypeId} {cs : List AV} {b o off : Nat} {v : AV} (h : Row c cs b o) (hp : pick P t cs off = some v) :
    ∃ v', (loadVar t ⟨b, o + off, none⟩).run P c.w = .ok v' c.w ∧ Rel c v v' := by
  unfold pick at hp
  split at hp
  · rename_i ha
    split at hp
    · rename_i n hn
      rw [Option.map_eq_some_iff] at hp
      obtain ⟨ds, hd, rfl⟩ := hp
      obtain ⟨vs, hr, hrel⟩ := run_loadCells_row (P := P) h hd
      exact ⟨.agg vs, by simp [loadVar, run_isAgg ha, run_sizeOf' hn, hr], vs, rfl, hrel⟩
    · cases hp
  · rename_i ha
    obtain ⟨y, e, r⟩ := h.get hp
    exact ⟨y, by simp [loadVar, run_isAgg ha, e], r⟩
  · cases hp

theorem run_part_rel {t : TypeId} {cs : List AV} {vs : Array Value} {off : Nat} {v : AV} (h : RelL c cs vs.toList) (hp : pick P t cs off = some v) (w : World) :
    ∃ v', (part t vs off).run P w = .ok v' w ∧ Rel c v v' := by
  unfold pick at hp
  split at hp
  · rename_i ha
    split at hp
    · rename_i n hn
      rw [Option.map_eq_some_iff] at hp
      obtain ⟨ds, hd, rfl⟩ := hp
      obtain ⟨hl, hle, rfl⟩ := cut_len hd
      refine ⟨.agg (vs.extract off (off + n)), by simp [part, run_isAgg ha, run_sizeOf' hn], _, rfl, ?_⟩
      rw [Array.toList_extract, List.extract]
      simpa using (h.drop off).take n
    · cases hp
  · rename_i ha
    obtain ⟨y, e, r⟩ := h.get hp
    exact ⟨y, by simp [part, run_isAgg ha]; rw [← Array.getElem?_toList, e]; rfl, r⟩
  · cases hp

end
end Go.AH
namespace Go.AH
open Go

/-! ### operators -/
def aInt (op : BinOp) (k : IntKind) (x y : Int) : Option AV := match op with
  | .add => some (.int k (k.wrap (x + y)))
  | .sub => some (.int k (k.wrap (x - y)))
  | .mul => some (.int k (k.wrap (x * y)))
  | .quo => if y = 0 then none else some (.int k (k.wrap (x.tdiv y)))
  | .rem => if y = 0 then none else some (.int k (x.tmod y))
  | .and => some (.int k (k.wrap (BitVec.ofInt k.bits x &&& BitVec.ofInt k.bits y).toNat))
  | .or => some (.int k (k.wrap (BitVec.ofInt k.bits x ||| BitVec.ofInt k.bits y).toNat))
  | .xor => some (.int k (k.wrap (BitVec.ofInt k.bits x ^^^ BitVec.ofInt k.bits y).toNat))
  | .andNot => some (.int k (k.wrap (BitVec.ofInt k.bits x &&& ~~~ BitVec.ofInt k.bits y).toNat))
  | .shl => if y < 0 then none else some (.int k (k.wrap (x * 2 ^ (min y.toNat k.bits))))
  | .shr => if y < 0 then none else some (.int k (x.fdiv (2 ^ (min y.toNat k.bits))))
  | .eql => some (.bool (x == y))
  | .neq => some (.bool (x != y))
  | .lss => some (.bool (decide (x < y)))
  | .leq => some (.bool (decide (x ≤ y)))
  | .gtr => some (.bool (decide (x > y)))
  | .geq => some (.bool (decide (x ≥ y)))

def aStr (op : BinOp) (x y : List UInt8) : Option AV := match op with
  | .add => if x.length + y.length ≤ 9223372036854775807 then some (.str (x ++ y)) else none
  | .eql => some (.bool (x == y))
  | .neq => some (.bool (!(x == y)))
  | .lss => some (.bool (Op.bytesLess x y))
  | .leq => some (.bool (Op.bytesLess x y || x == y))
  | .gtr => some (.bool (!(Op.bytesLess x y || x == y)))
  | .geq => some (.bool (!(Op.bytesLess x y)))
  | _ => none

/-- Is a slice, a pointer .. nil? -/
def nilOf : AV → Option Bool
  | .nilp => some true
  | .ptr _ _ => some false
  | .iptr _ => some false
  | .nilsl => some true
  | .sl _ _ _ _ => some false
  | .gsl _ _ _ => some false
  | .isl _ len => if len = 0 then none else some false
  | .nilm => some true
  | .map _ => some false
  | .nilf => some true
  | .fn _ _ => some false
  | .nili => some true
  | .ifc _ _ => some false
  | _ => none

/-- One of the two is nil: '=='. -/
def aNil (x y : AV) : Option Bool := match nilOf x, nilOf y with
  | some a, some b => if a || b then some (a && b) else none
  | _, _ => none

/-- Which values a type's '==' with nil is asked of. -/
def nilFit : TypeDesc → AV → Bool
  | .pointer _, .nilp | .pointer _, .ptr _ _ | .pointer _, .iptr _ => true
  | .slice _, .nilsl | .slice _, .sl _ _ _ _ | .slice _, .gsl _ _ _ | .slice _, .isl _ _ => true
  | .map _ _, .nilm | .map _ _, .map _ => true
  | .func _ _ _, .nilf | .func _ _ _, .fn _ _ => true
  | .interface _, .nili | .interface _, .ifc _ _ => true
  | _, _ => false

section
def isDig (b : UInt8) : Bool := decide (48 ≤ b.toNat) && decide (b.toNat ≤ 57)
/-- A text is none of those that begin so and go on with an address's. -/
def noTxt (p s : List UInt8) : Bool := !(p.isPrefixOf s && (match s.drop p.length with | b :: _ => isDig b | [] => false))
theorem decB_head (n : Nat) (hn : n ≤ 255) : ∃ b r, decB n = b :: r ∧ isDig b = true := by
  unfold decB
  have hd : ∀ k, k ≤ 9 → isDig (UInt8.ofNat (48 + k)) = true := by
    intro k hk
    have : (UInt8.ofNat (48 + k)).toNat = 48 + k := by simp; omega
    simp only [isDig, this, Bool.and_eq_true, decide_eq_true_eq]
    omega
  split
  · exact ⟨_, _, rfl, hd n (by omega)⟩
  · split
    · exact ⟨_, _, rfl, hd _ (by omega)⟩
    · exact ⟨_, _, rfl, hd _ (by omega)⟩
def eqT : AV → AV → Option Bool
  | .txt p i, .txt q j => if p = q ∧ i = j then some true else none
  | .txt p i, .str s => if noTxt p s = true then some false else none
  | .str s, .txt p i => if noTxt p s = true then some false else none
  | _, _ => none
theorem noTxt_ne {V : Val} {p s : List UInt8} {j : Nat} (h : noTxt p s = true) : s ≠ p ++ dotB V j := by
  rintro rfl
  unfold noTxt at h
  obtain ⟨b, r, e1, e2⟩ := decB_head (V.oct j 0) (V.ob j 0)
  have hp : p.isPrefixOf (p ++ dotB V j) = true := List.isPrefixOf_iff_prefix.2 ⟨_, rfl⟩
  rw [hp, List.drop_left] at h
  unfold dotB at h
  rw [e1] at h
  simp [e2] at h
variable {c : Ctx} in
theorem eqT_ok {x y : AV} {s s' : List UInt8} {b : Bool} (h : eqT x y = some b) (rx : Rel c x (.string ⟨s.toArray⟩)) (ry : Rel c y (.string ⟨s'.toArray⟩)) : (s == s') = b := by
  have inj : ∀ {a b : List UInt8}, Value.string ⟨a.toArray⟩ = .string ⟨b.toArray⟩ → a = b := by
    intro a b e
    injection e with e
    injection e with e
    simpa using congrArg Array.toList e
  unfold eqT at h
  split at h <;> try (cases h; done)
  · split at h <;> simp only [Option.some.injEq, reduceCtorEq] at h
    rename_i hc
    obtain ⟨rfl, rfl⟩ := hc
    subst h
    rw [inj rx, inj ry]
    simp
  · split at h <;> simp only [Option.some.injEq, reduceCtorEq] at h
    rename_i hc
    subst h
    rw [inj rx, inj ry]
    rw [beq_eq_false_iff_ne]
    exact (noTxt_ne hc).symm
  · split at h <;> simp only [Option.some.injEq, reduceCtorEq] at h
    rename_i hc
    subst h
    rw [inj rx, inj ry]
    rw [beq_eq_false_iff_ne]
    exact noTxt_ne hc

/-- Texts held against each other, within others. -/
def eqS (x y : AV) : Option Bool := match x, y with
  | .str a, .str b => some (a == b)
  | x, y => eqT x y
theorem eqS_ok {c : Ctx} {x y : AV} {r : Bool} {u v : Value} (h : eqS x y = some r) (rx : Rel c x u) (ry : Rel c y v) : ∃ s s' : List UInt8, u = .string ⟨s.toArray⟩ ∧ v = .string ⟨s'.toArray⟩ ∧ (s == s') = r := by
  unfold eqS at h
  split at h
  · rename_i a b
    simp only [Option.some.injEq] at h
    exact ⟨a, b, rx, ry, h⟩
  · have txt : ∀ x y, eqT x y = some r → (∃ s : List UInt8, ∀ u, Rel c x u → u = .string ⟨s.toArray⟩) ∧ (∃ s : List UInt8, ∀ u, Rel c y u → u = .string ⟨s.toArray⟩) := by
      intro x y h
      unfold eqT at h
      split at h <;> first | (cases h; done) | exact ⟨⟨_, fun u q => q⟩, ⟨_, fun u q => q⟩⟩
    obtain ⟨⟨s, hs⟩, ⟨s', hs'⟩⟩ := txt _ _ h
    have e1 := hs _ rx
    have e2 := hs' _ ry
    subst e1 e2
    exact ⟨s, s', rfl, rfl, eqT_ok h rx ry⟩
end
def eqF (P : Program) (rec : TypeId → AV → AV → Option Bool) (xs ys : List AV) : List Field → Option Bool
  | [] => some true
  | f :: fs => if f.name = "_" then eqF P rec xs ys fs else
    match pick P f.type xs f.offset, pick P f.type ys f.offset with
    | some a, some b => match rec f.type a b with
      | some false => some false
      | some true => eqF P rec xs ys fs
      | none => none
    | _, _ => none
def eqA (P : Program) (rec : TypeId → AV → AV → Option Bool) (e : TypeId) (c : Nat) (xs ys : List AV) : List Nat → Option Bool
  | [] => some true
  | i :: is => match pick P e xs (i * c), pick P e ys (i * c) with
    | some a, some b => match rec e a b with
      | some false => some false
      | some true => eqA P rec e c xs ys is
      | none => none
    | _, _ => none
def aEq (P : Program) : Nat → TypeId → AV → AV → Option Bool
  | 0, _, _, _ => none
  | d + 1, t, x, y => match P.underlying t with
    | some .bool => match x, y with
      | .bool a, .bool b => some (a == b)
      | _, _ => none
    | some (.int _) => match x, y with
      | .int k a, .int k' b => if k = k' then some (a == b) else none
      | _, _ => none
    | some .string => eqS x y
    | some (.struct fs) => match x, y with
      | .agg xs, .agg ys => if P.stoodInHeld t then none else eqF P (aEq P d) xs ys fs.toList
      | _, _ => none
    | some (.array n e) => match x, y with
      | .agg xs, .agg ys => match tsz P e with
        | some c => eqA P (aEq P d) e c xs ys (List.range n)
        | none => none
      | _, _ => none
    | some k => if nilFit k x && nilFit k y then aNil x y else none
    | none => none

section
variable {P : Program} {c : Ctx}

theorem run_intOp {op : BinOp} {k : IntKind} {x y : Int} {v : AV} (h : aInt op k x y = some v) (t : TypeId) (w : World) :
    ∃ v', (binOp op t (.int k x) (.int k y)).run P w = .ok v' w ∧ Rel c v v' := by
  cases op <;> simp only [aInt] at h
  case quo => split at h <;> simp only [Option.some.injEq, reduceCtorEq] at h; subst h; refine ⟨_, ?_, rfl⟩; simp [binOp, Op.intDiv, *]
  case rem => split at h <;> simp only [Option.some.injEq, reduceCtorEq] at h; subst h; refine ⟨_, ?_, rfl⟩; simp [binOp, Op.intDiv, *]
  case shl => split at h <;> simp only [Option.some.injEq, reduceCtorEq] at h; subst h; refine ⟨_, ?_, rfl⟩; simp [binOp, Op.shift, *]
  case shr => split at h <;> simp only [Option.some.injEq, reduceCtorEq] at h; subst h; refine ⟨_, ?_, rfl⟩; simp [binOp, Op.shift, *]
  all_goals
    simp only [Option.some.injEq] at h
    subst h
    refine ⟨_, ?_, rfl⟩
    simp only [binOp, Op.intArith, Op.intBits, Op.intCmp, ne_eq, not_true_eq_false, if_false, Sem.run_pure]

theorem run_shiftOp {op : BinOp} (hop : op = .shl ∨ op = .shr) {k k' : IntKind} {x y : Int} {v : AV} (h : aInt op k x y = some v) (t : TypeId) (w : World) :
    ∃ v', (binOp op t (.int k x) (.int k' y)).run P w = .ok v' w ∧ Rel c v v' := by
  rcases hop with rfl | rfl <;> simp only [aInt] at h <;> split at h <;> simp only [Option.some.injEq, reduceCtorEq] at h <;> subst h <;> refine ⟨_, ?_, rfl⟩ <;> simp [binOp, Op.shift, *]

theorem bytes_toList (s : List UInt8) : (ByteArray.mk s.toArray).toList = s := by rw [ByteArray.toList_eq]

theorem run_strOp {op : BinOp} {x y : List UInt8} {v : AV} (h : aStr op x y = some v) (t : TypeId) (w : World) :
    ∃ v', (binOp op t (.string ⟨x.toArray⟩) (.string ⟨y.toArray⟩)).run P w = .ok v' w ∧ Rel c v v' := by
  have e : ∀ op, binOp op t (.string ⟨x.toArray⟩) (.string ⟨y.toArray⟩) = Op.stringOp op ⟨x.toArray⟩ ⟨y.toArray⟩ := by intro op; cases op <;> rfl
  rw [e]
  cases op <;> simp only [aStr, reduceCtorEq] at h
  case add =>
    split at h <;> simp only [Option.some.injEq, reduceCtorEq] at h
    rename_i hle
    subst h
    have h1 : ¬ (((ByteArray.mk x.toArray).size + (ByteArray.mk y.toArray).size : Nat) : Int) > IntKind.i64.max := by
      simp only [ByteArray.size, List.size_toArray, IntKind.max, IntKind.signed, IntKind.bits, if_true]
      omega
    refine ⟨.string ⟨(x ++ y).toArray⟩, ?_, rfl⟩
    simp only [Op.stringOp, if_neg h1, Sem.run_pure]
    congr 2
  all_goals
    simp only [Option.some.injEq] at h
    subst h
    refine ⟨_, ?_, rfl⟩
    simp only [Op.stringOp, bytes_toList, Sem.run_pure]

theorem nil_pointer {e : TypeId} {x : AV} {u : Value} {a : Bool} (hx : nilFit (.pointer e) x = true) (h : nilOf x = some a) (r : Rel c x u) : ∃ p, u = .pointer p ∧ a = p.isNone := by
  cases x <;> simp only [nilFit, Bool.false_eq_true] at hx <;> simp only [nilOf, Option.some.injEq] at h <;> subst h <;> simp only [Rel] at r
  · exact ⟨none, r, rfl⟩
  · exact ⟨_, r.2, rfl⟩
  · obtain ⟨b, o, e, _⟩ := r; exact ⟨_, e, rfl⟩
theorem nil_slice {e : TypeId} {x : AV} {u : Value} {a : Bool} (hx : nilFit (.slice e) x = true) (h : nilOf x = some a) (r : Rel c x u) : ∃ p l k, u = .slice p l k ∧ a = p.isNone := by
  cases x <;> simp only [nilFit, Bool.false_eq_true] at hx
  case isl cs len =>
    obtain ⟨p, l, e, _, q⟩ := r
    simp [nilOf] at h
    obtain ⟨h0, rfl⟩ := h
    rcases q with q | ⟨b, o, rfl, _⟩
    · exact absurd q h0
    · exact ⟨_, _, _, e, rfl⟩
  all_goals simp only [nilOf, Option.some.injEq] at h; subst h; simp only [Rel] at r
  · exact ⟨none, _, _, r, rfl⟩
  · obtain ⟨_, o, cap', e, _⟩ := r; exact ⟨_, _, _, e, rfl⟩
  · obtain ⟨_, cap', _, e, _⟩ := r; exact ⟨_, _, _, e, rfl⟩
theorem nil_map {k e : TypeId} {x : AV} {u : Value} {a : Bool} (hx : nilFit (.map k e) x = true) (h : nilOf x = some a) (r : Rel c x u) : ∃ p, u = .map p ∧ a = p.isNone := by
  cases x <;> simp only [nilFit, Bool.false_eq_true] at hx <;> simp only [nilOf, Option.some.injEq] at h <;> subst h <;> simp only [Rel] at r
  · exact ⟨none, r, rfl⟩
  · exact ⟨_, r.2, rfl⟩
theorem nil_func {p q : Array TypeId} {b : Bool} {x : AV} {u : Value} {a : Bool} (hx : nilFit (.func p q b) x = true) (h : nilOf x = some a) (r : Rel c x u) : (u = .nilFunc ∧ a = true) ∨ (∃ f s t, u = .func f s t ∧ a = false) := by
  cases x <;> simp only [nilFit, Bool.false_eq_true] at hx <;> simp only [nilOf, Option.some.injEq] at h <;> subst h <;> simp only [Rel] at r
  · exact .inl ⟨r, rfl⟩
  · obtain ⟨vs, e, _⟩ := r; exact .inr ⟨_, _, _, e, rfl⟩
theorem nil_iface {m : Array (String × TypeId)} {x : AV} {u : Value} {a : Bool} (hx : nilFit (.interface m) x = true) (h : nilOf x = some a) (r : Rel c x u) : (u = .nilIface ∧ a = true) ∨ (∃ s t, u = .iface s t ∧ a = false) := by
  cases x <;> simp only [nilFit, Bool.false_eq_true] at hx <;> simp only [nilOf, Option.some.injEq] at h <;> subst h <;> simp only [Rel] at r
  · exact .inl ⟨r, rfl⟩
  · obtain ⟨vs, e, _⟩ := r; exact .inr ⟨_, _, e, rfl⟩

theorem run_nil {d : Nat} {t : TypeId} {k : TypeDesc} (hu : P.underlying t = some k) {x y : AV} {u v : Value} (hx : nilFit k x = true) (hy : nilFit k y = true) {r : Bool} (h : aNil x y = some r) (rx : Rel c x u) (ry : Rel c y v) (w : World) :
    (Op.equalIn (d + 1) t u v).run P w = .ok r w := by
  unfold aNil at h
  split at h
  · rename_i a b ha hb
    split at h <;> simp only [Option.some.injEq, reduceCtorEq] at h
    rename_i hab
    subst h
    cases k <;> try (cases x <;> simp [nilFit] at hx; done)
    case pointer e =>
      obtain ⟨p, rfl, rfl⟩ := nil_pointer hx ha rx
      obtain ⟨q, rfl, rfl⟩ := nil_pointer hy hb ry
      cases p <;> cases q <;> simp at hab <;> simp [Op.equalIn, run_underlying hu]
    case slice e =>
      obtain ⟨p, l, n, rfl, rfl⟩ := nil_slice hx ha rx
      obtain ⟨q, l', n', rfl, rfl⟩ := nil_slice hy hb ry
      cases p <;> cases q <;> simp at hab <;> simp [Op.equalIn, run_underlying hu]
    case map k e =>
      obtain ⟨p, rfl, rfl⟩ := nil_map hx ha rx
      obtain ⟨q, rfl, rfl⟩ := nil_map hy hb ry
      cases p <;> cases q <;> simp at hab <;> simp [Op.equalIn, run_underlying hu]
    case func =>
      rcases nil_func hx ha rx with ⟨rfl, rfl⟩ | ⟨_, _, _, rfl, rfl⟩ <;> rcases nil_func hy hb ry with ⟨rfl, rfl⟩ | ⟨_, _, _, rfl, rfl⟩ <;> simp at hab <;> simp [Op.equalIn, run_underlying hu]
    case interface =>
      rcases nil_iface hx ha rx with ⟨rfl, rfl⟩ | ⟨_, _, rfl, rfl⟩ <;> rcases nil_iface hy hb ry with ⟨rfl, rfl⟩ | ⟨_, _, rfl, rfl⟩ <;> simp at hab <;> simp [Op.equalIn, run_underlying hu]
  · cases h

def EqOk (P : Program) (c : Ctx) (w : World) (d : Nat) : Prop := ∀ (t : TypeId) (x y : AV) (r : Bool), aEq P d t x y = some r → ∀ (u v : Value), Rel c x u → Rel c y v → ∀ m, (Op.equalIn (d + m) t u v).run P w = .ok r w

theorem run_aEqF (w : World) (d : Nat) (IH : EqOk P c w d) (xs ys : List AV) (us vs : Array Value) (rx : RelL c xs us.toList) (ry : RelL c ys vs.toList) (m : Nat) : ∀ (fs : List Field) (r : Bool), eqF P (aEq P d) xs ys fs = some r → (Op.eqFields (d + m) us vs fs).run P w = .ok r w := by
  intro fs
  induction fs with
  | nil => intro r h; simp [eqF] at h; subst h; simp [Op.eqFields]
  | cons f fs ih =>
    intro r h
    unfold eqF at h
    split at h
    · rename_i hn
      rw [Op.eqFields, if_neg (by simpa using hn)]
      exact ih r h
    · rename_i hn
      split at h
      · rename_i a b ha hb
        obtain ⟨a', h1, ra⟩ := run_part_rel (P := P) rx ha w
        obtain ⟨b', h2, rb⟩ := run_part_rel (P := P) ry hb w
        split at h
        · rename_i hq
          simp only [Option.some.injEq] at h
          subst h
          have h3 := IH f.type a b false hq a' b' ra rb m
          rw [Op.eqFields]
          simp only [ne_eq, hn, not_false_eq_true, if_true, Sem.run_bind, h1, h2, h3, Result.andThen_ok]
          simp
        · rename_i hq
          have h3 := IH f.type a b true hq a' b' ra rb m
          have h4 := ih r h
          rw [Op.eqFields]
          simp only [ne_eq, hn, not_false_eq_true, if_true, Sem.run_bind, h1, h2, h3, Result.andThen_ok]
          simpa using h4
        · cases h
      · cases h

theorem run_aEqA (w : World) (d : Nat) (IH : EqOk P c w d) (e : TypeId) (sz : Nat) (xs ys : List AV) (us vs : Array Value) (rx : RelL c xs us.toList) (ry : RelL c ys vs.toList) (m : Nat) : ∀ (is : List Nat) (r : Bool), eqA P (aEq P d) e sz xs ys is = some r → (Op.eqItems (d + m) e sz us vs is).run P w = .ok r w := by
  intro is
  induction is with
  | nil => intro r h; simp [eqA] at h; subst h; simp [Op.eqItems]
  | cons i is ih =>
    intro r h
    unfold eqA at h
    split at h
    · rename_i a b ha hb
      obtain ⟨a', h1, ra⟩ := run_part_rel (P := P) rx ha w
      obtain ⟨b', h2, rb⟩ := run_part_rel (P := P) ry hb w
      split at h
      · rename_i hq
        simp only [Option.some.injEq] at h
        subst h
        have h3 := IH e a b false hq a' b' ra rb m
        rw [Op.eqItems]
        simp only [Sem.run_bind, h1, h2, h3, Result.andThen_ok]
        simp
      · rename_i hq
        have h3 := IH e a b true hq a' b' ra rb m
        have h4 := ih r h
        rw [Op.eqItems]
        simp only [Sem.run_bind, h1, h2, h3, Result.andThen_ok]
        simpa using h4
      · cases h
    · cases h

theorem run_aEq (w : World) : ∀ (n : Nat), EqOk P c w n
  | 0, _, _, _, _, h, _, _, _, _, _ => by simp [aEq] at h
  | d + 1, t, x, y, r, h, u, v, rx, ry, m => by
    have IH := run_aEq w d
    rw [show d + 1 + m = d + m + 1 by omega]
    cases hu : P.underlying t with
    | none => simp [aEq, hu] at h
    | some k =>
      have other : nilFit k x = true ∧ nilFit k y = true ∧ aNil x y = some r → (Op.equalIn (d + m + 1) t u v).run P w = .ok r w := fun q => run_nil hu q.1 q.2.1 q.2.2 rx ry w
      cases k
      case bool =>
        cases x <;> cases y <;> simp [aEq, hu] at h
        simp only [Rel] at rx ry
        subst h rx ry
        simp [Op.equalIn, run_underlying hu]
      case int =>
        cases x <;> cases y <;> simp [aEq, hu] at h
        simp only [Rel] at rx ry
        obtain ⟨rfl, h⟩ := h
        subst h rx ry
        simp [Op.equalIn, run_underlying hu]
      case string =>
        simp only [aEq, hu] at h
        obtain ⟨s, s', rfl, rfl, q⟩ := eqS_ok h rx ry
        subst q
        rw [run_equalIn_string w _ _ _ _ hu, bytes_toList, bytes_toList]
      case struct fs =>
        cases x <;> cases y <;> simp [aEq, hu] at h
        obtain ⟨us, rfl, rx⟩ := rx
        obtain ⟨vs, rfl, ry⟩ := ry
        have hf : P.fieldsOf t = fs := by simp [Program.fieldsOf, hu]
        rw [run_equalIn_struct (P := P) w _ t us vs (by rw [hf]; exact hu) h.1, hf]
        exact run_aEqF w d IH _ _ us vs rx ry m fs.toList r h.2
      case array n e =>
        cases x <;> cases y <;> simp [aEq, hu] at h
        obtain ⟨us, rfl, rx⟩ := rx
        obtain ⟨vs, rfl, ry⟩ := ry
        unfold tsz at h
        cases hi : P.info? e with
        | none => simp [hi] at h
        | some i =>
          simp [hi] at h
          rw [run_equalIn_array w (d + m) us vs hu hi]
          have hc : P.cellsOf e = i.size := by simp [Program.cellsOf, hi]
          rw [hc]
          exact run_aEqA w d IH e i.size _ _ us vs rx ry m (List.range n) r h
      all_goals
        simp only [aEq, hu] at h
        split at h
        · rename_i hxy
          simp only [Bool.and_eq_true] at hxy
          exact other ⟨hxy.1, hxy.2, h⟩
        · cases h

end
end Go.AH
namespace Go.AH
open Go

def aUn (op : UnOp) (x : AV) : Option AV := match op, x with
  | .neg, .int k n => aInt .sub k 0 n
  | .xor, .int k n => aInt .xor k (if k.signed then -1 else k.max) n
  | .not, .bool b => some (.bool !b)
  | _, _ => none

/-- '==', '!=': a nil interface on both sides is asked only where one of the two is a literal. -/
def aGuardEq (P : Program) (t : TypeId) (lit : Bool) (x y : AV) : Bool := match x, y with
  | .nili, .nili => lit
  | .agg _, .agg _ => !(P.eqGuardType P.depth t)
  | .nili, .unk | .unk, .nili | .unk, .unk | .agg _, .unk | .unk, .agg _ => false
  | _, _ => true

def symb : AV → Bool
  | .unk | .any _ | .anyb | .atl _ _ | .txt _ _ | .oct _ _ | .bstr _ _ | .lnb _ | .lin _ _ | .sym _ => true
  | _ => false
def aBin (P : Program) (op : BinOp) (t : TypeId) (lit : Bool) (x y : AV) : Option AV := match x, y with
  | .int k a, .int k' b => match op with
    | .shl => aInt .shl k a b
    | .shr => aInt .shr k a b
    | op => if k = k' then aInt op k a b else none
  | .str a, .str b => aStr op a b
  | x, y => if aGuardEq P t lit x y = true ∧ symb x = false ∧ symb y = false then match op with
    | .eql => (aEq P 30 t x y).map .bool
    | .neq => (aEq P 30 t x y).map fun b => .bool !b
    | _ => none else none

def isLit : Operand → Bool | .const _ => true | _ => false

def bound (v : Option AV) (dflt top : Nat) : Option Nat := match v with
  | none => some dflt
  | some (.int _ i) => if 0 ≤ i ∧ i ≤ (top : Int) then some i.toNat else none
  | some _ => none

/-- low, high, max: where a slice expression cuts. -/
def aBounds (len top : Nat) (lo hi mx : Option AV) : Option (Nat × Nat × Option Nat) := match mx with
  | none => match bound hi len top with
    | some h => match bound lo 0 h with
      | some l => some (l, h, none)
      | none => none
    | none => none
  | some m => match bound (some m) 0 top with
    | some m => match hi with
      | none => none
      | some hv => match bound (some hv) 0 m with
        | some h => match bound lo 0 h with
          | some l => some (l, h, some m)
          | none => none
        | none => none
    | none => none

def sliceOf (sz : Nat) (x : AV) (lo hi mx : Option AV) : Option AV := match x with
  | .nilsl => match aBounds 0 0 lo hi mx with
    | some _ => some .nilsl
    | none => none
  | .esl => match aBounds 0 0 lo hi mx with
    | some _ => some .esl
    | none => none
  | .sl id off len cap => match aBounds len (cap.getD len) lo hi mx with
    | some (l, h, m) => some (.sl id (off + l * sz) (h - l) (match m with | some m => some (m - l) | none => cap.map (· - l)))
    | none => none
  | .gsl id len esz => if esz = sz then match aBounds len len lo hi mx with
    | some (l, h, some m) => some (.sl id (l * sz) (h - l) (some (m - l)))
    | some (l, h, none) => if l = 0 then some (.gsl id h esz) else some (.sl id (l * sz) (h - l) none)
    | none => none else none
  | .isl cs len => match aBounds len len lo hi mx with
    | some (l, h, m) => if m = some l then some .esl else some (.isl ((cs.take (h * sz)).drop (l * sz)) (h - l))
    | none => none
  | _ => none

def aSlice (P : Program) (t : TypeId) (x : AV) (lo hi mx : Option AV) : Option AV := match P.underlying t with
  | some .string => match x with
    | .str s => if mx.isSome then none else match aBounds s.length s.length lo hi none with
      | some (l, h, _) => some (.str ((s.take h).drop l))
      | none => none
    | _ => none
  | some (.slice e) => match tsz P e with
    | some sz => sliceOf sz x lo hi mx
    | none => none
  | some (.array n e) => match tsz P e with
    | some sz => match aBounds n n lo hi mx with
      | some (l, h, m) => match x with
        | .ptr id off => some (.sl id (off + l * sz) (h - l) (some (m.getD n - l)))
        | .iptr cs => if m = some l then some .esl else some (.isl ((cs.take (h * sz)).drop (l * sz)) (h - l))
        | _ => none
      | none => none
    | none => none
  | _ => none

def aIndexAddr (P : Program) (t : TypeId) (x i : AV) : Option AV := match i with
  | .int _ i => match P.underlying t with
    | some (.array n e) => match tsz P e with
      | some sz => if 0 ≤ i ∧ i < (n : Int) then match x with
        | .ptr id off => some (.ptr id (off + i.toNat * sz))
        | .iptr cs => some (.iptr (cs.drop (i.toNat * sz)))
        | _ => none else none
      | none => none
    | some (.slice e) => match tsz P e with
      | some sz => match x with
        | .sl id off len _ => if 0 ≤ i ∧ i < (len : Int) then some (.ptr id (off + i.toNat * sz)) else none
        | .gsl id len _ => if 0 ≤ i ∧ i < (len : Int) then some (.ptr id (i.toNat * sz)) else none
        | .isl cs len => if 0 ≤ i ∧ i < (len : Int) then some (.iptr (cs.drop (i.toNat * sz))) else none
        | _ => none
      | none => none
    | _ => none
  | _ => none

def aIndex (P : Program) (t : TypeId) (x i : AV) : Option AV := match i with
  | .int _ i => match P.underlying t with
    | some .string => match x with
      | .str s => if 0 ≤ i ∧ i < (s.length : Int) then some (.int .u8 (s.getD i.toNat 0).toNat) else none
      | _ => none
    | some (.array n e) => match x with
      | .agg cs => match tsz P e with
        | some sz => if 0 ≤ i ∧ i < (n : Int) then pick P e cs (i.toNat * sz) else none
        | none => none
      | _ => none
    | _ => none
  | _ => none

def aFieldAddr (P : Program) (s : TypeId) (x : AV) (f : Nat) : Option AV := match fld P s f with
  | some (off, ft) => match tsz P ft with
    | some (_ + 1) => match x with
      | .ptr id o => some (.ptr id (o + off))
      | .iptr cs => some (.iptr (cs.drop off))
      | _ => none
    | _ => none
  | none => none

def aField (P : Program) (s : TypeId) (x : AV) (f : Nat) : Option AV := match fld P s f with
  | some (off, ft) => match x with
    | .agg cs => pick P ft cs off
    | _ => none
  | none => none

def aExtract (x : AV) (i : Nat) : Option AV := match x with
  | .tup vs => vs[i]?
  | _ => none

def aNilCheck : AV → Option AV
  | .ptr id o => some (.ptr id o)
  | .iptr cs => some (.iptr cs)
  | .fn (.func n) caps => some (.fn (.func n) caps)
  | _ => none

def aMakeIface (P : Program) (t : TypeId) (x : AV) : Option AV := match P.underlying t with
  | some (.interface _) => none
  | some _ => some (.ifc t x)
  | none => none

def aMin : List AV → Option AV
  | [.int k x, .int _ y] => some (.int k (if y < x then y else x))
  | [.int k x, .int _ y, .int _ z] => some (.int k (if z < (if y < x then y else x) then z else (if y < x then y else x)))
  | _ => none
def aMax : List AV → Option AV
  | [.int k x, .int _ y] => some (.int k (if y > x then y else x))
  | [.int k x, .int _ y, .int _ z] => some (.int k (if z > (if y > x then y else x) then z else (if y > x then y else x)))
  | _ => none

def aLen (P : Program) (t : TypeId) (x : AV) : Option AV := match P.underlying t with
  | some .string => match x with
    | .str s => some (.int .i64 s.length)
    | _ => none
  | some (.array n _) => some (.int .i64 n)
  | some (.slice _) => match x with
    | .nilsl => some (.int .i64 0)
    | .esl => some (.int .i64 0)
    | .sl _ _ len _ => some (.int .i64 len)
    | .gsl _ len _ => some (.int .i64 len)
    | .isl _ len => some (.int .i64 len)
    | _ => none
  | _ => none

/-- Whole numbers to whole numbers, texts to texts. -/
def aConv (P : Program) (src dst : TypeId) (x : AV) : Option AV := match P.underlying src, P.underlying dst with
  | some _, some (.int k) => match x with
    | .int _ n => some (.int k (k.wrap n))
    | _ => none
  | some _, some .string => match x with
    | .str s => some (.str s)
    | _ => none
  | _, _ => none

/-! ### struct and array values -/
def setMany {α : Type} (cs : List α) (off : Nat) : List α → List α
  | [] => cs
  | v :: vs => setMany (cs.set off v) (off + 1) vs

def zeroCellsOf (P : Program) (t : TypeId) : Option (List AV) := ((P.info? t).bind (·.zero)).map fun z => z.cells.toList.map ofConst1

def aFill (place : Nat → Option (Nat × Nat)) (cells : List AV) : List (Nat × AV) → Option (List AV)
  | [] => some cells
  | (i, v) :: rest => match place i, acells v with
    | some (off, size), some vc => if vc.length = size ∧ off + vc.length ≤ cells.length then aFill place (setMany cells off vc) rest else none
    | _, _ => none

def fieldPlaces (P : Program) : List Field → Option (List (Nat × Nat))
  | [] => some []
  | f :: fs => match tsz P f.type, fieldPlaces P fs with
    | some n, some l => some ((f.offset, n) :: l)
    | _, _ => none

def aBuild (P : Program) (t : TypeId) (parts : List (Nat × AV)) : Option AV := match zeroCellsOf P t with
  | some z => match P.underlying t with
    | some (.struct fs) => match fieldPlaces P fs.toList with
      | some pl => (aFill (pl[·]?) z parts).map .agg
      | none => none
    | some (.array _ e) => match tsz P e with
      | some sz => (aFill (fun i => some (i * sz, sz)) z parts).map .agg
      | none => none
    | _ => none
  | none => none

section
variable {P : Program} {c : Ctx}

theorem run_aUn {op : UnOp} {x v : AV} {u : Value} (h : aUn op x = some v) (r : Rel c x u) (w : World) : ∃ v', (Op.unary op u).run P w = .ok v' w ∧ Rel c v v' := by
  cases op <;> cases x <;> simp only [aUn, reduceCtorEq, Option.some.injEq] at h <;> simp only [Rel] at r <;> subst r
  · have := run_intOp (P := P) (c := c) h 0 w; simpa [Op.unary, binOp] using this
  · have := run_intOp (P := P) (c := c) h 0 w; simpa [Op.unary, binOp] using this
  · subst h; exact ⟨_, rfl, rfl⟩

theorem run_eqGuard {op : BinOp} {t : TypeId} {a b : Operand} {x y : AV} {u v : Value} (h : aGuardEq P t (isLit a || isLit b) x y = true) (rx : Rel c x u) (ry : Rel c y v) (w : World) : (eqGuard op t a b u v).run P w = .ok () w := by
  have hu : u = .nilIface → x = .nili ∨ x = .unk := by
    rintro rfl
    cases x <;> simp [Rel] at rx <;> simp
  have hv : v = .nilIface → y = .nili ∨ y = .unk := by
    rintro rfl
    cases y <;> simp [Rel] at ry <;> simp
  have hu2 : ∀ cs, u = .agg cs → (∃ l, x = .agg l) ∨ x = .unk := by
    rintro cs rfl
    cases x <;> simp [Rel] at rx <;> simp
  have hv2 : ∀ cs, v = .agg cs → (∃ l, y = .agg l) ∨ y = .unk := by
    rintro cs rfl
    cases y <;> simp [Rel] at ry <;> simp
  clear rx ry
  cases op <;> try rfl
  all_goals
    simp only [eqGuard, Bool.not_true, Bool.false_eq_true, if_false]
    split
    · rcases hu rfl with rfl | rfl <;> rcases hv rfl with rfl | rfl <;> simp [aGuardEq] at h
      rw [if_pos]
      · rfl
      · cases a <;> cases b <;> simp_all [isLit]
    · rcases hu2 _ rfl with ⟨l, rfl⟩ | rfl <;> rcases hv2 _ rfl with ⟨l', rfl⟩ | rfl <;> simp [aGuardEq] at h
      simp [h]
    · rfl

theorem aNil_unk (x y : AV) (h : x = .unk ∨ y = .unk) : aNil x y = none := by
  rcases h with rfl | rfl
  · rfl
  · unfold aNil; cases nilOf x <;> rfl

theorem run_eql {t : TypeId} {x y : AV} {r : Bool} {u v : Value} (h : aEq P 30 t x y = some r) (hi : ∀ k a k' b, ¬ (x = .int k a ∧ y = .int k' b)) (hs : ∀ a b, ¬ (x = .str a ∧ y = .str b)) (nx : symb x = false) (ny : symb y = false) (rx : Rel c x u) (ry : Rel c y v) (w : World) :
    (binOp .eql t u v).run P w = .ok (.bool r) w ∧ (binOp .neq t u v).run P w = .ok (.bool !r) w := by
  have key : (Op.equal t u v).run P w = .ok r w := run_aEq w 30 t x y r h u v rx ry 9970
  have gen : ∀ (A B : Sem Value), A = (do pure (.bool (← Op.equal t u v))) → B = (do pure (.bool (!(← Op.equal t u v)))) → A.run P w = .ok (.bool r) w ∧ B.run P w = .ok (.bool !r) w := by
    rintro A B rfl rfl
    simp [key]
  have i1 : ∀ k n, u = .int k n → ∃ k n, x = .int k n := by rintro k n rfl; cases x <;> simp [Rel, symb] at rx nx ⊢
  have i2 : ∀ k n, v = .int k n → ∃ k n, y = .int k n := by rintro k n rfl; cases y <;> simp [Rel, symb] at ry ny ⊢
  have s1 : ∀ n, u = .string n → ∃ n, x = .str n := by rintro n rfl; cases x <;> simp [Rel, symb] at rx nx ⊢
  have s2 : ∀ n, v = .string n → ∃ n, y = .str n := by rintro n rfl; cases y <;> simp [Rel, symb] at ry ny ⊢
  have f1 : ∀ k n, u ≠ .float k n := by rintro k n rfl; cases x <;> simp [Rel, symb] at rx nx
  have c1 : ∀ k n m, u ≠ .complex k n m := by rintro k n m rfl; cases x <;> simp [Rel, symb] at rx nx
  cases u with
  | float k n => exact absurd rfl (f1 k n)
  | complex k n m => exact absurd rfl (c1 k n m)
  | int k n => cases v with
    | int k' n' =>
      obtain ⟨_, _, e1⟩ := i1 _ _ rfl
      obtain ⟨_, _, e2⟩ := i2 _ _ rfl
      exact absurd ⟨e1, e2⟩ (hi _ _ _ _)
    | _ => exact gen _ _ rfl rfl
  | string n => cases v with
    | string n' =>
      obtain ⟨_, e1⟩ := s1 _ rfl
      obtain ⟨_, e2⟩ := s2 _ rfl
      exact absurd ⟨e1, e2⟩ (hs _ _)
    | _ => exact gen _ _ rfl rfl
  | _ => exact gen _ _ rfl rfl

theorem run_aBin {op : BinOp} {t : TypeId} {a b : Operand} {x y z : AV} {u v : Value} (h : aBin P op t (isLit a || isLit b) x y = some z) (rx : Rel c x u) (ry : Rel c y v) (w : World) :
    ∃ z', (eqGuard op t a b u v >>= fun _ => binOp op t u v).run P w = .ok z' w ∧ Rel c z z' := by
  have fin : (∃ z', (binOp op t u v).run P w = .ok z' w ∧ Rel c z z') → aGuardEq P t (isLit a || isLit b) x y = true → ∃ z', (eqGuard op t a b u v >>= fun _ => binOp op t u v).run P w = .ok z' w ∧ Rel c z z' := by
    rintro ⟨z', h1, h2⟩ hg
    exact ⟨z', by rw [Sem.run_bind, run_eqGuard hg rx ry w]; exact h1, h2⟩
  unfold aBin at h
  split at h
  · simp only [Rel] at rx ry
    subst rx ry
    refine fin ?_ rfl
    split at h
    · exact run_shiftOp (.inl rfl) h t w
    · exact run_shiftOp (.inr rfl) h t w
    · split at h
      · rename_i hk; subst hk; exact run_intOp h t w
      · cases h
  · simp only [Rel] at rx ry
    subst rx ry
    exact fin (run_strOp h t w) rfl
  · rename_i hni hns
    split at h
    · rename_i hg
      obtain ⟨hg, nx, ny⟩ := hg
      refine fin ?_ hg
      split at h
      · rw [Option.map_eq_some_iff] at h
        obtain ⟨r, hr, rfl⟩ := h
        exact ⟨_, (run_eql hr (fun _ _ _ _ e => hni _ _ _ _ e.1 e.2) (fun _ _ e => hns _ _ e.1 e.2) nx ny rx ry w).1, rfl⟩
      · rw [Option.map_eq_some_iff] at h
        obtain ⟨r, hr, rfl⟩ := h
        exact ⟨_, (run_eql hr (fun _ _ _ _ e => hni _ _ _ _ e.1 e.2) (fun _ _ e => hns _ _ e.1 e.2) nx ny rx ry w).2, rfl⟩
      · cases h
    · cases h

/-- Optional operands. -/
def RelO (c : Ctx) : Option AV → Option Value → Prop
  | none, v => v = none
  | some x, v => ∃ y, v = some y ∧ Rel c x y

theorem run_bound {x : AV} {u : Value} {d top n : Nat} (h : bound (some x) d top = some n) (r : Rel c x u) {y : Nat} (hy : top ≤ y) (code : BoundsCode) (w : World) : (Instr.sliceBound u y code).run P w = .ok n w ∧ n ≤ top := by
  cases x <;> simp only [bound, reduceCtorEq] at h
  rename_i k i
  split at h <;> simp only [Option.some.injEq, reduceCtorEq] at h
  subst h
  simp only [Rel] at r
  subst r
  rename_i hi
  refine ⟨?_, by omega⟩
  have : 0 ≤ i ∧ i ≤ (y : Int) := by omega
  simp [Instr.sliceBound, asIntOf, this]

theorem run_bounds {isSl : Bool} {len top cap' : Nat} {lo hi mx : Option AV} {lo' hi' mx' : Option Value} {l h : Nat} {m : Option Nat} (hb : aBounds len top lo hi mx = some (l, h, m)) (hlt : len ≤ top) (ht : top ≤ cap')
    (rl : RelO c lo lo') (rh : RelO c hi hi') (rm : RelO c mx mx') (w : World) :
    (Instr.sliceBounds isSl len cap' lo' hi' mx').run P w = .ok (l, h, m.getD cap') w ∧ l ≤ h ∧ h ≤ top ∧ (∀ x, m = some x → h ≤ x ∧ x ≤ top) := by
  unfold aBounds at hb
  cases mx with
  | none =>
    cases rm
    simp only at hb
    cases hh : bound hi len top with
    | none => simp [hh] at hb
    | some h1 =>
      simp only [hh] at hb
      cases hl : bound lo 0 h1 with
      | none => simp [hl] at hb
      | some l1 =>
        simp only [hl, Option.some.injEq, Prod.mk.injEq] at hb
        obtain ⟨rfl, rfl, rfl⟩ := hb
        cases hi with
        | none =>
          cases rh
          simp only [bound, Option.some.injEq] at hh
          subst hh
          cases lo with
          | none => cases rl; simp only [bound, Option.some.injEq] at hl; subst hl; exact ⟨by simp [Instr.sliceBounds], Nat.zero_le _, hlt, by simp⟩
          | some x =>
            obtain ⟨y, rfl, ry⟩ := rl
            have e := fun code => run_bound (P := P) hl ry (Nat.le_refl _) code w
            exact ⟨by simp [Instr.sliceBounds, (e _).1], (e .index).2, hlt, by simp⟩
        | some z =>
          obtain ⟨z', rfl, rz⟩ := rh
          have e1 := fun code => run_bound (P := P) hh rz ht code w
          cases lo with
          | none => cases rl; simp only [bound, Option.some.injEq] at hl; subst hl; exact ⟨by simp [Instr.sliceBounds, (e1 _).1], Nat.zero_le _, (e1 .index).2, by simp⟩
          | some x =>
            obtain ⟨y, rfl, ry⟩ := rl
            have e := fun code => run_bound (P := P) hl ry (Nat.le_refl _) code w
            exact ⟨by simp [Instr.sliceBounds, (e _).1, (e1 _).1], (e .index).2, (e1 .index).2, by simp⟩
  | some x =>
    obtain ⟨y, rfl, ry⟩ := rm
    simp only at hb
    cases hm : bound (some x) 0 top with
    | none => simp [hm] at hb
    | some m1 =>
      simp only [hm] at hb
      cases hi with
      | none => simp at hb
      | some hv =>
        obtain ⟨hv', rfl, rhv⟩ := rh
        simp only at hb
        cases hh : bound (some hv) 0 m1 with
        | none => simp [hh] at hb
        | some h1 =>
          simp only [hh] at hb
          cases hl : bound lo 0 h1 with
          | none => simp [hl] at hb
          | some l1 =>
            simp only [hl, Option.some.injEq, Prod.mk.injEq] at hb
            obtain ⟨rfl, rfl, rfl⟩ := hb
            have e0 := fun code => run_bound (P := P) hm ry ht code w
            have e1 := fun code => run_bound (P := P) hh rhv (Nat.le_refl _) code w
            have fin : h1 ≤ m1 ∧ m1 ≤ top := ⟨(e1 .index).2, (e0 .index).2⟩
            cases lo with
            | none => cases rl; simp only [bound, Option.some.injEq] at hl; subst hl; exact ⟨by simp [Instr.sliceBounds, (e1 _).1, (e0 _).1], Nat.zero_le _, Nat.le_trans fin.1 fin.2, fun x hx => by simp at hx; subst hx; exact fin⟩
            | some x =>
              obtain ⟨y, rfl, ry⟩ := rl
              have e := fun code => run_bound (P := P) hl ry (Nat.le_refl _) code w
              exact ⟨by simp [Instr.sliceBounds, (e _).1, (e1 _).1, (e0 _).1], (e .index).2, Nat.le_trans fin.1 fin.2, fun x hx => by simp at hx; subst hx; exact fin⟩

end
end Go.AH
namespace Go.AH
open Go
section
variable {P : Program} {c : Ctx}

/-- Cut out of a slice value: as the model does. -/
def cutV (sz : Nat) (a : Option Addr) (l h m : Nat) : Value := .slice (if m = l then a else a.map (·.add (l * sz))) (h - l) (m - l)

theorem sliceOf_rel {sz : Nat} {x : AV} {u : Value} {lo hi mx : Option AV} {v : AV} (hs : sliceOf sz x lo hi mx = some v) (r : Rel c x u) {lo' hi' mx' : Option Value}
    (rl : RelO c lo lo') (rh : RelO c hi hi') (rm : RelO c mx mx') (w : World) :
    ∃ a len cap l h m, u = .slice a len cap ∧ (Instr.sliceBounds true len cap lo' hi' mx').run P w = .ok (l, h, m) w ∧ Rel c v (cutV sz a l h m) := by
  unfold sliceOf at hs
  split at hs
  · -- nilsl
    split at hs <;> simp only [Option.some.injEq, reduceCtorEq] at hs
    subst hs
    rename_i q hb
    obtain ⟨l, h, m⟩ := q
    obtain ⟨e1, e2, e3, e4⟩ := run_bounds (P := P) (isSl := true) hb (Nat.le_refl _) (Nat.le_refl 0) rl rh rm w
    simp only [Rel] at r
    refine ⟨_, _, _, _, _, _, r, e1, ?_⟩
    have hm : m.getD 0 = 0 := by cases m with | none => rfl | some x => have := e4 x rfl; simp; omega
    have hl : l = 0 := by omega
    have hh : h = 0 := by omega
    subst hl hh
    rw [hm]
    simp [cutV, Rel]
  · -- esl
    split at hs <;> simp only [Option.some.injEq, reduceCtorEq] at hs
    subst hs
    rename_i q hb
    obtain ⟨l, h, m⟩ := q
    obtain ⟨e1, e2, e3, e4⟩ := run_bounds (P := P) (isSl := true) hb (Nat.le_refl _) (Nat.le_refl 0) rl rh rm w
    obtain ⟨a, r⟩ := r
    refine ⟨_, _, _, _, _, _, r, e1, ?_⟩
    have hm : m.getD 0 = 0 := by cases m with | none => rfl | some x => have := e4 x rfl; simp; omega
    have hl : l = 0 := by omega
    have hh : h = 0 := by omega
    subst hl hh
    rw [hm]
    simp [cutV, Rel]
  · -- sl
    rename_i id off len cap
    split at hs <;> simp only [Option.some.injEq, reduceCtorEq] at hs
    subst hs
    rename_i l h m hb
    obtain ⟨hid, o, cap', e, ho, hle, hc⟩ := r
    have htop : cap.getD len ≤ cap' := by cases cap with | none => exact hle | some x => rw [hc x rfl]; exact Nat.le_refl _
    have hlt : len ≤ cap.getD len := by cases cap with | none => exact Nat.le_refl _ | some x => rw [← hc x rfl]; exact hle
    obtain ⟨e1, e2, e3, e4⟩ := run_bounds (P := P) (isSl := true) hb hlt htop rl rh rm w
    refine ⟨_, _, _, _, _, _, e, e1, ?_⟩
    have hmle : h ≤ m.getD cap' ∧ m.getD cap' ≤ cap' := by
      cases m with
      | none => exact ⟨Nat.le_trans e3 htop, Nat.le_refl _⟩
      | some x => have := e4 x rfl; exact ⟨this.1, Nat.le_trans this.2 htop⟩
    simp only [cutV]
    refine ⟨hid, ?_⟩
    by_cases hml : m.getD cap' = l
    · rw [if_pos hml]
      refine ⟨o, m.getD cap' - l, rfl, .inr (by omega), by omega, fun x hx => ?_⟩
      cases m with
      | none => cases cap with
        | none => simp at hx
        | some y => simp at hx; have := hc y rfl; simp; omega
      | some y => simpa using hx
    · rw [if_neg hml]
      have ho' : o = off := by rcases ho with q | q <;> omega
      subst ho'
      refine ⟨o + l * sz, m.getD cap' - l, ?_, .inl rfl, by omega, fun x hx => ?_⟩
      · simp [Addr.add_lit]
      · cases m with
        | none => cases cap with
          | none => simp at hx
          | some y => simp at hx; have := hc y rfl; simp; omega
        | some y => simpa using hx
  · -- gsl
    rename_i id len esz
    split at hs
    · rename_i hesz
      subst hesz
      obtain ⟨hid, cap', et, e, hle, hsh⟩ := r
      split at hs <;> try (cases hs; done)
      · rename_i l h m hb
        simp only [Option.some.injEq] at hs
        subst hs
        obtain ⟨e1, e2, e3, e4⟩ := run_bounds (P := P) (isSl := true) hb (Nat.le_refl _) hle rl rh rm w
        have hm := e4 m rfl
        refine ⟨_, _, _, _, _, _, e, e1, ?_⟩
        simp only [cutV, Option.getD_some]
        refine ⟨hid, ?_⟩
        by_cases hml : m = l
        · rw [if_pos hml]; exact ⟨0, m - l, rfl, .inr (by omega), by omega, fun x hx => by simpa using hx⟩
        · rw [if_neg hml]; exact ⟨l * esz, m - l, by simp [Addr.add_lit], .inl rfl, by omega, fun x hx => by simpa using hx⟩
      · rename_i l h hb
        obtain ⟨e1, e2, e3, e4⟩ := run_bounds (P := P) (isSl := true) hb (Nat.le_refl _) hle rl rh rm w
        refine ⟨_, _, _, _, _, _, e, e1, ?_⟩
        simp only [cutV, Option.getD_none]
        split at hs <;> simp only [Option.some.injEq] at hs <;> subst hs
        · rename_i hl
          subst hl
          refine ⟨hid, cap', et, ?_, by omega, hsh⟩
          split
          · rename_i h0; subst h0; rfl
          · simp [Addr.add_lit]
        · refine ⟨hid, ?_⟩
          by_cases hml : cap' = l
          · rw [if_pos hml]; exact ⟨0, cap' - l, rfl, .inr (by omega), by omega, fun x hx => by simp at hx⟩
          · rw [if_neg hml]; exact ⟨l * esz, cap' - l, by simp [Addr.add_lit], .inl rfl, by omega, fun x hx => by simp at hx⟩
    · cases hs
  · -- isl
    rename_i cs len
    obtain ⟨a, cap', e, hle, hr⟩ := r
    split at hs <;> try (cases hs; done)
    rename_i l h m hb
    obtain ⟨e1, e2, e3, e4⟩ := run_bounds (P := P) (isSl := true) hb (Nat.le_refl _) hle rl rh rm w
    refine ⟨_, _, _, _, _, _, e, e1, ?_⟩
    simp only [cutV]
    split at hs <;> simp only [Option.some.injEq] at hs <;> subst hs
    · rename_i hml
      subst hml
      have := e4 l rfl
      have hh : h = l := by omega
      subst hh
      simp [Rel]
    · have hmh : h ≤ m.getD cap' := by
        cases m with
        | none => simp; omega
        | some x => exact (e4 x rfl).1
      refine ⟨_, _, rfl, by omega, ?_⟩
      by_cases h0 : h - l = 0
      · exact .inl h0
      · right
        rcases hr with q | ⟨b, o, rfl, hbl, hN, hrow⟩
        · omega
        · rw [if_neg (by omega)]
          refine ⟨b, o + l * sz, by simp [Addr.add_lit], hbl, hN, ?_⟩
          exact (hrow.take (h * sz)).drop (l * sz)
  · cases hs

theorem run_aSlice {t : TypeId} {x v : AV} {u : Value} {lo hi mx : Option AV} (hs : aSlice P t x lo hi mx = some v) (r : Rel c x u) {lo' hi' mx' : Option Value}
    (rl : RelO c lo lo') (rh : RelO c hi hi') (rm : RelO c mx mx') (w : World) :
    ∃ v', (Instr.sliceAt t u lo' hi' mx').run P w = .ok v' w ∧ Rel c v v' := by
  unfold aSlice at hs
  split at hs
  · -- a text
    rename_i hu
    split at hs <;> try (cases hs; done)
    rename_i s
    split at hs <;> try (cases hs; done)
    rename_i hm
    split at hs <;> simp only [Option.some.injEq, reduceCtorEq] at hs
    rename_i l h m hb
    subst hs
    simp only [Rel] at r
    subst r
    cases mx with
    | some _ => simp at hm
    | none =>
      cases rm
      obtain ⟨e1, e2, e3, e4⟩ := run_bounds (P := P) (isSl := false) hb (Nat.le_refl _) (Nat.le_refl _) rl rh (show RelO c none none from rfl) w
      have hz : (ByteArray.mk s.toArray).size = s.length := by simp [ByteArray.size]
      refine ⟨.string ((ByteArray.mk s.toArray).extract l h), ?_, ?_⟩
      · simp [Instr.sliceAt, Instr.slice, run_underlying hu, hz, e1]
      · simp only [Rel]
        congr 1
        apply ByteArray.ext
        rw [ByteArray.data_extract]
        apply Array.ext'
        rw [Array.toList_extract, List.extract]
        simp [List.drop_take]
  · -- a slice
    rename_i e hu
    split at hs <;> try (cases hs; done)
    rename_i sz hsz
    obtain ⟨a, len, cap, l, h, m, rfl, e1, e2⟩ := sliceOf_rel (P := P) hs r rl rh rm w
    exact ⟨_, by simp [Instr.sliceAt, Instr.slice, run_underlying hu, e1, run_sizeOf' hsz]; rfl, e2⟩
  · -- an array's address
    rename_i n e hu
    split at hs <;> try (cases hs; done)
    rename_i sz hsz
    split at hs <;> try (cases hs; done)
    rename_i l h m hb
    obtain ⟨e1, e2, e3, e4⟩ := run_bounds (P := P) (isSl := false) hb (Nat.le_refl _) (Nat.le_refl _) rl rh rm w
    have hmh : h ≤ m.getD n := by
      cases m with
      | none => exact e3
      | some x => exact (e4 x rfl).1
    split at hs
    · simp only [Option.some.injEq] at hs
      subst hs
      rename_i id off
      obtain ⟨hid, rfl⟩ := r
      refine ⟨cutV sz (some ⟨c.β id, off, none⟩) l h (m.getD n), ?_, ?_⟩
      · simp [Instr.sliceAt, run_underlying hu, Instr.sureAddr, e1, run_sizeOf' hsz, cutV]
        split <;> rfl
      · simp only [cutV]
        refine ⟨hid, ?_⟩
        by_cases hml : m.getD n = l
        · rw [if_pos hml]; exact ⟨off, m.getD n - l, rfl, .inr (by omega), by omega, fun x hx => by simpa using hx⟩
        · rw [if_neg hml]; exact ⟨off + l * sz, m.getD n - l, by simp [Addr.add_lit], .inl rfl, by omega, fun x hx => by simpa using hx⟩
    · rename_i cs
      obtain ⟨b, o, rfl, hbl, hN, hrow⟩ := r
      refine ⟨cutV sz (some ⟨b, o, none⟩) l h (m.getD n), ?_, ?_⟩
      · simp [Instr.sliceAt, run_underlying hu, Instr.sureAddr, e1, run_sizeOf' hsz, cutV]
        split <;> rfl
      · simp only [cutV]
        split at hs <;> simp only [Option.some.injEq] at hs <;> subst hs
        · rename_i hml
          subst hml
          have := e4 l rfl
          have hh : h = l := by omega
          subst hh
          simp [Rel]
        · refine ⟨_, _, rfl, by omega, ?_⟩
          by_cases h0 : h - l = 0
          · exact .inl h0
          · right
            rw [if_neg (by omega)]
            exact ⟨b, o + l * sz, by simp [Addr.add_lit], hbl, hN, (hrow.take (h * sz)).drop (l * sz)⟩
    · cases hs
  · cases hs

theorem run_aIndexAddr {t : TypeId} {x i v : AV} {u j : Value} (hs : aIndexAddr P t x i = some v) (r : Rel c x u) (ri : Rel c i j) (w : World) :
    ∃ v', (Instr.indexAt t u j).run P w = .ok v' w ∧ Rel c v v' := by
  unfold aIndexAddr at hs
  split at hs <;> try (cases hs; done)
  rename_i k n
  simp only [Rel] at ri
  subst ri
  split at hs
  · rename_i len e hu
    split at hs <;> try (cases hs; done)
    rename_i sz hsz
    split at hs <;> try (cases hs; done)
    rename_i hn
    split at hs <;> simp only [Option.some.injEq, reduceCtorEq] at hs <;> subst hs
    · rename_i id off
      obtain ⟨hid, rfl⟩ := r
      exact ⟨_, by simp [Instr.indexAt, asIntOf, run_underlying hu, Instr.sureAddr, hn, run_sizeOf' hsz, Addr.add_lit], hid, rfl⟩
    · obtain ⟨b, o, rfl, hbl, hN, hrow⟩ := r
      exact ⟨_, by simp [Instr.indexAt, asIntOf, run_underlying hu, Instr.sureAddr, hn, run_sizeOf' hsz, Addr.add_lit], b, o + n.toNat * sz, rfl, hbl, hN, hrow.drop _⟩
  · rename_i e hu
    split at hs <;> try (cases hs; done)
    rename_i sz hsz
    split at hs <;> try (cases hs; done)
    · split at hs <;> simp only [Option.some.injEq, reduceCtorEq] at hs
      subst hs
      rename_i id off len cap hn
      obtain ⟨hid, o, cap', rfl, ho, hle, hc⟩ := r
      have ho' : o = off := by rcases ho with q | q <;> omega
      subst ho'
      exact ⟨_, by simp [Instr.indexAt, asIntOf, run_underlying hu, hn, run_sizeOf' hsz, Addr.add_lit], hid, rfl⟩
    · split at hs <;> simp only [Option.some.injEq, reduceCtorEq] at hs
      subst hs
      rename_i id len esz hn
      obtain ⟨hid, cap', et, rfl, hle, hsh⟩ := r
      exact ⟨_, by simp [Instr.indexAt, asIntOf, run_underlying hu, hn, run_sizeOf' hsz, Addr.add_lit], hid, rfl⟩
    · split at hs <;> simp only [Option.some.injEq, reduceCtorEq] at hs
      subst hs
      rename_i cs len hn
      obtain ⟨a, cap', rfl, hle, hr⟩ := r
      rcases hr with q | ⟨b, o, rfl, hbl, hN, hrow⟩
      · omega
      · exact ⟨_, by simp [Instr.indexAt, asIntOf, run_underlying hu, hn, run_sizeOf' hsz, Addr.add_lit], b, o + n.toNat * sz, rfl, hbl, hN, hrow.drop _⟩
  · cases hs

theorem run_aIndex {t : TypeId} {x i v : AV} {u j : Value} (hs : aIndex P t x i = some v) (r : Rel c x u) (ri : Rel c i j) (w : World) :
    ∃ v', (Instr.index t u j).run P w = .ok v' w ∧ Rel c v v' := by
  unfold aIndex at hs
  split at hs <;> try (cases hs; done)
  rename_i k n
  simp only [Rel] at ri
  subst ri
  split at hs
  · rename_i hu
    split at hs <;> try (cases hs; done)
    split at hs <;> simp only [Option.some.injEq, reduceCtorEq] at hs
    subst hs
    rename_i s hn
    simp only [Rel] at r
    subst r
    have hlt : n.toNat < s.length := by omega
    have e : (ByteArray.mk s.toArray)[n.toNat]? = some (s.getD n.toNat 0) := by
      rw [List.getD, List.getElem?_eq_getElem hlt]
      show (if h : _ then _ else _) = _
      rw [dif_pos (by simpa [ByteArray.size] using hlt)]
      rfl
    refine ⟨.int .u8 (s.getD n.toNat 0).toNat, ?_, rfl⟩
    simp [Instr.index, asIntOf, run_underlying hu, hn.1, e]
  · rename_i len e hu
    split at hs <;> try (cases hs; done)
    split at hs <;> try (cases hs; done)
    rename_i sz hsz
    split at hs <;> try (cases hs; done)
    rename_i hn
    obtain ⟨vs, rfl, r⟩ := r
    obtain ⟨v', h1, h2⟩ := run_part_rel (P := P) r hs w
    exact ⟨v', by simp [Instr.index, asIntOf, run_underlying hu, hn, run_sizeOf' hsz, h1], h2⟩
  · cases hs

theorem run_aFieldAddr {s : TypeId} {x v : AV} {u : Value} {f : Nat} (hs : aFieldAddr P s x f = some v) (r : Rel c x u) (w : World) :
    ∃ v', (Instr.fieldAt s u f).run P w = .ok v' w ∧ Rel c v v' := by
  unfold aFieldAddr fld at hs
  cases hu : P.underlying s with
  | none => simp [hu] at hs
  | some d =>
    cases d <;> simp [hu] at hs
    rename_i fs
    cases hf : fs[f]? with
    | none => simp [hf] at hs
    | some fd =>
      simp [hf] at hs
      split at hs <;> try (cases hs; done)
      rename_i n hsz
      have hz : (sizeOf fd.type).run P w = .ok (n + 1) w := run_sizeOf' hsz w
      split at hs <;> simp only [Option.some.injEq, reduceCtorEq] at hs <;> subst hs
      · obtain ⟨hid, rfl⟩ := r
        exact ⟨_, by simp [Instr.fieldAt, run_underlying hu, hf, Instr.sureAddr, fieldPlace, hz, Addr.add_lit], hid, rfl⟩
      · obtain ⟨b, o, rfl, hbl, hN, hrow⟩ := r
        exact ⟨_, by simp [Instr.fieldAt, run_underlying hu, hf, Instr.sureAddr, fieldPlace, hz, Addr.add_lit], b, o + fd.offset, rfl, hbl, hN, hrow.drop _⟩

theorem run_aField {s : TypeId} {x v : AV} {u : Value} {f : Nat} (hs : aField P s x f = some v) (r : Rel c x u) (w : World) :
    ∃ v', (Instr.field s u f).run P w = .ok v' w ∧ Rel c v v' := by
  unfold aField fld at hs
  cases hu : P.underlying s with
  | none => simp [hu] at hs
  | some d =>
    cases d <;> simp [hu] at hs
    rename_i fs
    cases hf : fs[f]? with
    | none => simp [hf] at hs
    | some fd =>
      simp [hf] at hs
      split at hs <;> try (cases hs; done)
      obtain ⟨vs, rfl, r⟩ := r
      obtain ⟨v', h1, h2⟩ := run_part_rel (P := P) r hs w
      exact ⟨v', by simp [Instr.field, run_underlying hu, hf, asAgg, h1], h2⟩

theorem run_aExtract {x v : AV} {u : Value} {i : Nat} (hs : aExtract x i = some v) (r : Rel c x u) (w : World) :
    ∃ v', (Instr.extract u i).run P w = .ok v' w ∧ Rel c v v' := by
  unfold aExtract at hs
  split at hs <;> try (cases hs; done)
  obtain ⟨vs, rfl, r⟩ := r
  obtain ⟨y, e, ry⟩ := r.get hs
  rw [Array.getElem?_toList] at e
  exact ⟨y, by simp [Instr.extract, e], ry⟩

theorem run_aLen {t ty : TypeId} {x v : AV} {u : Value} {ts : Array TypeId} {us : Array Value} (ht : ts[0]? = some t) (hus : us[0]? = some u) (hs : aLen P t x = some v) (r : Rel c x u) (w : World) :
    ∃ v', (Builtin.len_ ts ty us).run P w = .ok v' w ∧ Rel c v v' := by
  unfold aLen at hs
  cases hu : P.underlying t with
  | none => simp [hu] at hs
  | some d =>
    cases d <;> simp [hu] at hs
    · split at hs <;> simp only [Option.some.injEq, reduceCtorEq] at hs
      subst hs
      simp only [Rel] at r
      subst r
      exact ⟨_, by simp [Builtin.len_, ht, hus, run_underlying hu, goInt]; rfl, by simp [Rel, ByteArray.size]⟩
    · split at hs <;> simp only [Option.some.injEq, reduceCtorEq] at hs <;> subst hs
      · simp only [Rel] at r; subst r; exact ⟨_, by simp [Builtin.len_, ht, hus, run_underlying hu, goInt], rfl⟩
      · obtain ⟨a, rfl⟩ := r; exact ⟨_, by simp [Builtin.len_, ht, hus, run_underlying hu, goInt], rfl⟩
      · obtain ⟨_, o, cap', rfl, _⟩ := r; exact ⟨_, by simp [Builtin.len_, ht, hus, run_underlying hu, goInt], rfl⟩
      · obtain ⟨_, cap', et, rfl, _⟩ := r; exact ⟨_, by simp [Builtin.len_, ht, hus, run_underlying hu, goInt], rfl⟩
      · obtain ⟨a, cap', rfl, _⟩ := r; exact ⟨_, by simp [Builtin.len_, ht, hus, run_underlying hu, goInt], rfl⟩
    · subst hs
      exact ⟨_, by simp [Builtin.len_, ht, hus, run_underlying hu, goInt], rfl⟩

theorem run_aConv {src dst : TypeId} {x v : AV} {u : Value} (hs : aConv P src dst x = some v) (r : Rel c x u) (w : World) :
    ∃ v', (convert src dst u).run P w = .ok v' w ∧ Rel c v v' := by
  unfold aConv at hs
  split at hs
  · rename_i d k hu hv
    split at hs <;> simp only [Option.some.injEq, reduceCtorEq] at hs
    subst hs
    simp only [Rel] at r
    subst r
    exact ⟨_, by simp [convert, run_underlying hu, run_underlying hv, Conv.intToInt], rfl⟩
  · rename_i d hu hv
    split at hs <;> simp only [Option.some.injEq, reduceCtorEq] at hs
    subst hs
    simp only [Rel] at r
    subst r
    refine ⟨_, ?_, rfl⟩
    simp [convert, run_underlying hu, run_underlying hv]
  · cases hs

theorem run_aMakeIface {t : TypeId} {x v : AV} {u : Value} (hs : aMakeIface P t x = some v) (r : Rel c x u) (w : World) :
    ∃ v', (Instr.makeInterface t u).run P w = .ok v' w ∧ Rel c v v' := by
  unfold aMakeIface at hs
  cases hu : P.underlying t with
  | none => simp [hu] at hs
  | some d =>
    cases d <;> simp [hu] at hs <;> subst hs <;> exact ⟨_, by simp [Instr.makeInterface, run_underlying hu], u, rfl, r⟩

theorem run_aMin {xs : List AV} {v : AV} {us : List Value} (hs : aMin xs = some v) (r : RelL c xs us) (ts : Array TypeId) (ty : TypeId) (w : World) :
    ∃ v', (Builtin.min_ ts ty us.toArray).run P w = .ok v' w ∧ Rel c v v' := by
  unfold aMin at hs
  split at hs <;> simp only [Option.some.injEq, reduceCtorEq] at hs <;> subst hs <;> simp [RelL, Rel] at r <;> subst r <;> exact ⟨_, by simp [Builtin.min_, Builtin.min2], rfl⟩

theorem run_aMax {xs : List AV} {v : AV} {us : List Value} (hs : aMax xs = some v) (r : RelL c xs us) (ts : Array TypeId) (ty : TypeId) (w : World) :
    ∃ v', (Builtin.max_ ts ty us.toArray).run P w = .ok v' w ∧ Rel c v v' := by
  unfold aMax at hs
  split at hs <;> simp only [Option.some.injEq, reduceCtorEq] at hs <;> subst hs <;> simp [RelL, Rel] at r <;> subst r <;> exact ⟨_, by simp [Builtin.max_, Builtin.max2], rfl⟩

end
end Go.AH
namespace Go.AH
open Go

def tbytes (P : Program) (t : TypeId) : Option Nat := (P.info? t).map (·.bytes)

/-- A text's bytes as cells. -/
def bcells (s : List UInt8) : List AV := s.map fun b => .int .u8 b.toNat

section
variable {P : Program} {c : Ctx}

theorem zeroCells_rel {t : TypeId} {z : List AV} (h : zeroCellsOf P t = some z) : ∃ i zv, P.info? t = some i ∧ i.zero = some zv ∧ RelL c z zv.cells.toList := by
  unfold zeroCellsOf at h
  rw [Option.map_eq_some_iff] at h
  obtain ⟨zv, h1, rfl⟩ := h
  rw [Option.bind_eq_some_iff] at h1
  obtain ⟨i, hi, hz⟩ := h1
  exact ⟨i, zv, hi, hz, relL_ofConst1 c _⟩

theorem RelL.setMany : ∀ {vs : List AV} {us : List Value} {xs : List AV} {ys : List Value}, RelL c xs ys → RelL c vs us → ∀ off, RelL c (setMany xs off vs) (Go.AH.setMany ys off us)
  | [], _, _, _, r, rv, _ => by cases rv; exact r
  | _ :: _, _, _, _, r, ⟨y, ys, e, rv, rvs⟩, off => by cases e; exact RelL.setMany (r.set rv off) rvs (off + 1)

theorem setMany_length {α : Type} : ∀ (vs : List α) (xs : List α) (off : Nat), (setMany xs off vs).length = xs.length
  | [], _, _ => rfl
  | _ :: vs, xs, off => by rw [setMany, setMany_length vs]; simp

theorem fold_setMany (off : Nat) : ∀ (vs : List Value) (k : Nat) (cs : Array Value), ((vs.zipIdx k).foldl (fun cs x => cs.setIfInBounds (off + x.2) x.1) cs).toList = setMany cs.toList (off + k) vs
  | [], _, _ => rfl
  | v :: vs, k, cs => by
    rw [List.zipIdx_cons, List.foldl_cons, fold_setMany off vs (k + 1)]
    simp [setMany, Nat.add_assoc]

def RelP (c : Ctx) : List (Nat × AV) → List (Nat × Value) → Prop
  | [], l => l = []
  | (i, x) :: xs, l => ∃ y ys, l = (i, y) :: ys ∧ Rel c x y ∧ RelP c xs ys

theorem fill_rel {place : Nat → Option (Nat × Nat)} : ∀ {parts : List (Nat × AV)} {parts' : List (Nat × Value)} {cells out : List AV} {vs : Array Value}, aFill place cells parts = some out → RelP c parts parts' → RelL c cells vs.toList →
    ∃ out', Instr.fill place vs parts' = some out' ∧ RelL c out out'.toList
  | [], _, _, _, vs, h, rp, r => by cases rp; simp [aFill] at h; subst h; exact ⟨vs, rfl, r⟩
  | (i, x) :: rest, _, cells, out, vs, h, ⟨y, ys, e, ry, rp⟩, r => by
    subst e
    unfold aFill at h
    split at h <;> try (cases h; done)
    rename_i off size vc hp hc
    split at h <;> try (cases h; done)
    rename_i hsz
    have rc := acells_rel hc ry
    have hl := rc.length
    have hl2 := r.length
    obtain ⟨out', h1, h2⟩ := fill_rel (vs := y.cells.zipIdx.foldl (fun cs x => cs.setIfInBounds (off + x.2) x.1) vs) h rp (by
      have e := fold_setMany off y.cells.toList 0 vs
      rw [Nat.add_zero] at e
      rw [← Array.foldl_toList, Array.toList_zipIdx, e]
      exact r.setMany rc off)
    refine ⟨out', ?_, h2⟩
    simp only [Instr.fill, hp]
    rw [if_neg]
    · exact h1
    · simp at hl hl2 ⊢
      omega

theorem places_of : ∀ {fs : List Field} {pl : List (Nat × Nat)}, fieldPlaces P fs = some pl → fs.mapM (fun f => (P.info? f.type).map fun i => (f.offset, i.size)) = some pl
  | [], pl, h => by simp [fieldPlaces] at h; subst h; simp
  | f :: fs, pl, h => by
    unfold fieldPlaces at h
    split at h <;> simp only [Option.some.injEq, reduceCtorEq] at h
    rename_i n l hn hl
    subst h
    unfold tsz at hn
    rw [Option.map_eq_some_iff] at hn
    obtain ⟨i, hi, rfl⟩ := hn
    simp [List.mapM_cons, hi, places_of hl]

theorem run_aBuild {t : TypeId} {parts : List (Nat × AV)} {parts' : Array (Nat × Value)} {v : AV} (h : aBuild P t parts = some v) (rp : RelP c parts parts'.toList) (w : World) :
    ∃ v', (Instr.build t parts').run P w = .ok v' w ∧ Rel c v v' := by
  unfold aBuild at h
  split at h <;> try (cases h; done)
  rename_i z hz
  obtain ⟨i, zv, hi, hzv, rz⟩ := zeroCells_rel (c := c) hz
  split at h <;> try (cases h; done)
  · rename_i fs hu
    split at h <;> try (cases h; done)
    rename_i pl hpl
    rw [Option.map_eq_some_iff] at h
    obtain ⟨out, ho, rfl⟩ := h
    obtain ⟨out', h1, h2⟩ := fill_rel ho rp rz
    refine ⟨.agg out', run_build w t parts' out' ?_, out', rfl, h2⟩
    unfold Program.built
    simp only [hi, hu, hzv, places_of hpl]
    rw [← h1]
    congr 1
    funext j
    simp
  · rename_i n e hu
    split at h <;> try (cases h; done)
    rename_i sz hsz
    unfold tsz at hsz
    rw [Option.map_eq_some_iff] at hsz
    obtain ⟨ie, hie, rfl⟩ := hsz
    rw [Option.map_eq_some_iff] at h
    obtain ⟨out, ho, rfl⟩ := h
    obtain ⟨out', h1, h2⟩ := fill_rel ho rp rz
    refine ⟨.agg out', run_build w t parts' out' ?_, out', rfl, h2⟩
    unfold Program.built
    simp only [hi, hu, hzv, hie]
    exact h1

/-- Cells that are stored, none of them frozen. -/
theorem run_storeCells_unf (g o : Nat) (t : TypeId) (fz : Nat × Nat) : ∀ (vs : List Value) (i : Nat) (cur : Array Value) (w : World), w.heap[g]? = some (.cells cur t fz) → (∀ j, j < cur.size → ¬ (fz.1 ≤ j ∧ j < fz.2)) →
    o + i + vs.length ≤ cur.size → (∀ v ∈ vs, v.oneCell' = true) → (storeCells ⟨g, o, none⟩ vs i).run P w = .ok () (w.setRow g (setMany cur.toList (o + i) vs).toArray)
  | [], i, cur, w, hg, _, _, _ => by
    simp only [storeCells, setMany, Array.toArray_toList]
    rw [setRow_self w g cur t fz hg]
    rfl
  | v :: rest, i, cur, w, hg, hfz, hl, h1 => by
    have hi : o + i < cur.size := by simp at hl; omega
    have hcell : w.cell? ⟨g, o + i, none⟩ = some cur[o + i] := by simp [World.cell?, hg, hi]
    have hfro : w.frozen? ⟨g, o + i, none⟩ = false := by
      have := hfz (o + i) hi
      obtain ⟨lo, hi'⟩ := fz
      simp only [World.frozen?, hg, Bool.and_eq_false_iff, decide_eq_false_iff_not]
      simp only at this
      omega
    have hst : (store ((⟨g, o, none⟩ : Addr).add i) v).run P w = .ok () (w.setRow g (cur.setIfInBounds (o + i) v)) := by
      rw [Addr.add_lit, run_store P w _ v _ (h1 v (by simp)), hcell]
      simp [hfro, setCell_eq_setRow w g (o + i) cur t fz v hg]
    have ih := run_storeCells_unf g o t fz rest (i + 1) (cur.setIfInBounds (o + i) v) (w.setRow g (cur.setIfInBounds (o + i) v)) (setRow_heap w g cur _ t _ hg) (by simpa using hfz) (by simp at hl ⊢; omega) (fun x hx => h1 x (by simp [hx]))
    simp only [storeCells, Sem.run_bind, hst, Result.andThen_ok, ih, setRow_setRow]
    simp [setMany, Nat.add_assoc]

end
end Go.AH
namespace Go.AH
open Go

def rowAt (h : Heap) (id : Nat) : Option (List AV × TypeId × Bool) := match h[id]? with
  | some (some (.row cs e wh)) => some (cs, e, wh)
  | _ => none

def aLoad (P : Program) (h : Heap) (t : TypeId) (x : AV) : Option AV := match x with
  | .ptr id off => match rowAt h id with
    | some (cs, _, _) => pick P t cs off
    | none => none
  | .iptr cs => pick P t cs 0
  | _ => none

def aStore (P : Program) (h : Heap) (t : TypeId) (a x : AV) : Option Heap := match a with
  | .ptr id off => match rowAt h id, acells x with
    | some (cs, e, wh), some vc => if tsz P t = some vc.length ∧ off + vc.length ≤ cs.length ∧ vc.all oneC = true then some (h.set id (some (.row (setMany cs off vc) e wh))) else none
    | _, _ => none
  | _ => none

def lenOfA : AV → Option Nat
  | .nilsl => some 0
  | .esl => some 0
  | .str s => some s.length
  | .sym l => some l.length
  | .sl _ _ len _ => some len
  | .gsl _ len _ => some len
  | .isl _ len => some len
  | _ => none

/-- The cells of a slice's, or a text's, first n elements. -/
def readSl (h : Heap) (sz : Nat) (x : AV) (n : Nat) : Option (List AV) := match x with
  | .nilsl => if n = 0 then some [] else none
  | .esl => if n = 0 then some [] else none
  | .str s => some (bcells (s.take n))
  | .sym l => some (scells (l.take n))
  | .sl id off len _ => if n ≤ len then match rowAt h id with
    | some (cs, _, _) => cut cs off (n * sz)
    | none => none else none
  | .gsl id len _ => if n ≤ len then match rowAt h id with
    | some (cs, _, _) => cut cs 0 (n * sz)
    | none => none else none
  | .isl cs len => if n ≤ len then cut cs 0 (n * sz) else none
  | _ => none

def aBuildSlice (P : Program) (h : Heap) (t : TypeId) (len : Nat) (parts : List (Nat × AV)) : Option (AV × Heap) := match P.underlying t with
  | some (.slice e) => match tsz P e, zeroCellsOf P e with
    | some sz, some _ => if len * sz ≤ 16777216 then match aFill (fun i => some (i * sz, sz)) (List.replicate (len * sz) .unk) parts with
      | some cs => some (.sl h.length 0 len (some len), h ++ [some (.row cs e true)])
      | none => none else none
    | _, _ => none
  | _ => none

def isSeq : TypeDesc → Bool
  | .slice _ => true
  | .string => true
  | _ => false
def strOk (sz : Nat) : AV → Bool
  | .str _ => sz == 1
  | .sym _ => sz == 1
  | _ => true

/-- append -/
def aAppend (P : Program) (h : Heap) (t t' : TypeId) (x y : AV) : Option (AV × Heap) := match P.underlying t with
  | some (.slice e) => match P.underlying t', tsz P e, tbytes P e, zeroCellsOf P e, lenOfA y with
    | some d', some sz, some by_, some z, some m => match readSl h sz y m with
      | some new => if isSeq d' = true ∧ 0 < sz ∧ z.length = sz ∧ strOk sz y = true then match x with
        | .nilsl => if m = 0 then some (.nilsl, h) else if m ≤ 9223372036854775807 ∧ m * by_ ≤ 140737488355328 then some (.gsl h.length m sz, h ++ [some (.row new e false)]) else none
        | .esl => if m = 0 then some (.esl, h) else if m ≤ 9223372036854775807 ∧ m * by_ ≤ 140737488355328 then some (.gsl h.length m sz, h ++ [some (.row new e false)]) else none
        | .gsl id len esz => match rowAt h id with
          | some (cs, e', _) => if m = 0 then some (.gsl id len esz, h) else if esz = sz ∧ e' = e ∧ len * sz ≤ cs.length ∧ new.all oneC = true ∧ len + m ≤ 9223372036854775807 ∧ (len + m) * by_ ≤ 140737488355328 then
              some (.gsl h.length (len + m) sz, h.set id none ++ [some (.row (cs.take (len * sz) ++ new) e false)]) else none
          | none => none
        | .sl id off len (some cap) => match rowAt h id with
          | some (cs, e', wh) =>
            if len + m ≤ cap then
              if off + (len + m) * sz ≤ cs.length ∧ new.all oneC = true then some (.sl id off (len + m) (some cap), h.set id (some (.row (setMany cs (off + len * sz) new) e' wh))) else none
            else if len + m ≤ 9223372036854775807 ∧ (len + m) * by_ ≤ 140737488355328 then match cut cs off (len * sz) with
              | some old => some (.gsl h.length (len + m) sz, h ++ [some (.row (old ++ new) e false)])
              | none => none else none
          | none => none
        | _ => none else none
      | none => none
    | _, _, _, _, _ => none
  | _ => none

def zeroRow (z : List AV) : Nat → List AV
  | 0 => []
  | n + 1 => z ++ zeroRow z n

def aClear (P : Program) (h : Heap) (t : TypeId) (x : AV) : Option Heap := match P.underlying t with
  | some (.slice e) => match tsz P e, zeroCellsOf P e with
    | some sz, some z => if z.length = sz ∧ z.all oneC = true then match x with
      | .nilsl => some h
      | .esl => some h
      | .sl id off len _ => match rowAt h id with
        | some (cs, e', wh) => if off + len * sz ≤ cs.length then some (h.set id (some (.row (setMany cs off (zeroRow z len)) e' wh))) else none
        | none => none
      | .gsl id len _ => match rowAt h id with
        | some (cs, e', wh) => if len * sz ≤ cs.length then some (h.set id (some (.row (setMany cs 0 (zeroRow z len)) e' wh))) else none
        | none => none
      | _ => none else none
    | _, _ => none
  | _ => none

def aCopy (P : Program) (h : Heap) (t : TypeId) (x y : AV) : Option (AV × Heap) := match P.underlying t with
  | some (.slice e) => match tsz P e, lenOfA x, lenOfA y with
    | some sz, some lx, some ly => match readSl h sz y (min ly lx) with
      | some new => if new.all oneC = true ∧ strOk sz y = true then match x with
        | .nilsl => some (.int .i64 0, h)
        | .esl => some (.int .i64 0, h)
        | .sl id off _ _ => match rowAt h id with
          | some (cs, e', wh) => if off + new.length ≤ cs.length then some (.int .i64 ((min ly lx : Nat) : Int), h.set id (some (.row (setMany cs off new) e' wh))) else none
          | none => none
        | .gsl id _ _ => match rowAt h id with
          | some (cs, e', wh) => if new.length ≤ cs.length then some (.int .i64 ((min ly lx : Nat) : Int), h.set id (some (.row (setMany cs 0 new) e' wh))) else none
          | none => none
        | _ => none else none
      | none => none
    | _, _, _ => none
  | _ => none

def toBytes : List AV → Option (List UInt8)
  | [] => some []
  | .int .u8 n :: xs => (toBytes xs).map (UInt8.ofNat n.toNat :: ·)
  | _ => none

/-- Conversions: those of aConv, texts to bytes, bytes to texts. -/
def aConvert (P : Program) (h : Heap) (src dst : TypeId) (x : AV) : Option (AV × Heap) := match P.underlying src, P.underlying dst with
  | some .string, some (.slice e) => match P.underlying e, x with
    | some (.int .u8), .str s => if s.length ≤ 9223372036854775807 then some (.gsl h.length s.length 1, h ++ [some (.row (bcells s) e false)]) else none
    | _, _ => none
  | some (.slice e), some .string => match P.underlying e, lenOfA x with
    | some (.int .u8), some n => match readSl h 1 x n with
      | some cs => match x with
        | .str _ => none
        | .sym _ => none
        | _ => (toBytes cs).map fun s => (.str s, h)
      | none => none
    | _, _ => none
  | _, _ => (aConv P src dst x).map (·, h)

def aBuiltin (P : Program) (h : Heap) (b : Builtin) (ts : Array TypeId) (xs : List AV) : Option (AV × Heap) := match b with
  | .len => match ts[0]?, xs with
    | some t, x :: _ => (aLen P t x).map (·, h)
    | _, _ => none
  | .min => (aMin xs).map (·, h)
  | .max => (aMax xs).map (·, h)
  | .append => match ts[0]?, ts[1]?, xs with
    | some t, some t', [x, y] => aAppend P h t t' x y
    | _, _, _ => none
  | .clear => match ts[0]?, xs with
    | some t, [x] => (aClear P h t x).map (.tup [], ·)
    | _, _ => none
  | .copy => match ts[0]?, xs with
    | some t, [x, y] => aCopy P h t x y
    | _, _ => none
  | _ => none

def ev0 (P : Program) (ρ : Operand → AV) (op : Op) (h : Heap) : Option (AV × Heap) := match op with
  | .move x => some (ρ x, h)
  | .assign x => some (ρ x, h)
  | .pick c a b => match ρ c with
    | .bool t => some (if t = true then ρ a else ρ b, h)
    | _ => none
  | .alloc t => (zeroCellsOf P t).map fun z => (.ptr h.length 0, h ++ [some (.row z t true)])
  | .box t x => (acells (ρ x)).map fun cs => (.ptr h.length 0, h ++ [some (.row cs t true)])
  | .build t parts => (aBuild P t (parts.toList.map fun p => (p.1, ρ p.2))).map (·, h)
  | .buildSlice t len parts => aBuildSlice P h t len (parts.toList.map fun p => (p.1, ρ p.2))
  | .load t x => (aLoad P h t (ρ x)).map (·, h)
  | .store t a x => (aStore P h t (ρ a) (ρ x)).map (.tup [], ·)
  | .nilCheck x => (aNilCheck (ρ x)).map (·, h)
  | .binOp op t x y _ => (aBin P op t (isLit x || isLit y) (ρ x) (ρ y)).map (·, h)
  | .unOp op _ x => (aUn op (ρ x)).map (·, h)
  | .convert src dst x => aConvert P h src dst (ρ x)
  | .makeInterface t x => (aMakeIface P t (ρ x)).map (·, h)
  | .makeFunc fn first caps => if first.toList = [] then some (.fn fn (caps.toList.map ρ), h) else none
  | .slice t x lo hi mx => (aSlice P t (ρ x) (lo.map ρ) (hi.map ρ) (mx.map ρ)).map (·, h)
  | .fieldAddr s x f => (aFieldAddr P s (ρ x) f).map (·, h)
  | .field s x f => (aField P s (ρ x) f).map (·, h)
  | .indexAddr t x i => (aIndexAddr P t (ρ x) (ρ i)).map (·, h)
  | .index t x i => (aIndex P t (ρ x) (ρ i)).map (·, h)
  | .extract x i => (aExtract (ρ x) i).map (·, h)
  | .call c => match c.callee with
    | .builtin b => aBuiltin P h b c.argTypes (c.args.toList.map ρ)
    | _ => none
  | _ => none

section
variable {P : Program} {F : Fr} {β : Nat → Nat} {w : World} {h : Heap}

/-- A live row. -/
theorem St.rowOf (s : St F β w h) {id : Nat} {cs : List AV} {e : TypeId} {wh : Bool} (hr : rowAt h id = some (cs, e, wh)) :
    h[id]? = some (some (.row cs e wh)) ∧ id < h.length ∧ ∃ vs fz, w.heap[β id]? = some (.cells vs e fz) ∧ (∃ ys zs, vs.toList = ys ++ zs ∧ RelL (ctx F β w h) cs ys ∧ (wh = true → zs = [])) ∧ (∀ i, i < vs.size → ¬ (fz.1 ≤ i ∧ i < fz.2)) ∧ cs.length ≤ vs.size := by
  have hb : h[id]? = some (some (.row cs e wh)) := by
    unfold rowAt at hr
    split at hr
    · rename_i h1; simp at hr; obtain ⟨rfl, rfl, rfl⟩ := hr; exact h1
    · cases hr
  have hid : id < h.length := by
    rcases Nat.lt_or_ge id h.length with q | q
    · exact q
    · rw [List.getElem?_eq_none q] at hb; simp at hb
  obtain ⟨o, ho, vs, fz, rfl, ⟨ys, zs, e1, e2, e3⟩, e4⟩ := s.live id _ hb
  refine ⟨hb, hid, vs, fz, ho, ⟨ys, zs, e1, e2, e3⟩, e4, ?_⟩
  have := congrArg List.length e1
  simp at this
  have := e2.length
  omega

theorem St.row (s : St F β w h) {id : Nat} {cs : List AV} {e : TypeId} {wh : Bool} (hr : rowAt h id = some (cs, e, wh)) : Row (ctx F β w h) cs (β id) 0 := by
  obtain ⟨_, _, vs, fz, ho, ⟨ys, zs, e1, e2, _⟩, _, _⟩ := s.rowOf hr
  refine row_of_get fun i x hx => ?_
  obtain ⟨y, ey, ry⟩ := e2.get hx
  refine ⟨y, ?_, ry⟩
  have hi : i < ys.length := (List.getElem?_eq_some_iff.1 ey).1
  rw [Nat.zero_add, cell_of_row w (β id) i vs e fz ho, ← Array.getElem?_toList, e1, List.getElem?_append_left hi]
  exact ey

/-- An operation's outcome. -/
def EvOk (F : Fr) (β : Nat → Nat) (w : World) (h : Heap) (r : Result Next) (v : AV) (h' : Heap) : Prop :=
  ∃ n v' w' β', r = .ok n w' ∧ (n = .value v' ∨ (n = .skip ∧ v' = undef)) ∧ Goes F β w h β' w' h' ∧ Rel (ctx F β' w' h') v v'

/-- A value's outcome. -/
def VOk (F : Fr) (β : Nat → Nat) (w : World) (h : Heap) (r : Result Value) (v : AV) (h' : Heap) : Prop :=
  ∃ v' w' β', r = .ok v' w' ∧ Goes F β w h β' w' h' ∧ Rel (ctx F β' w' h') v v'

theorem VOk.same (s : St F β w h) {m : Sem Value} {v : AV} (hm : ∃ v', m.run P w = .ok v' w ∧ Rel (ctx F β w h) v v') : VOk F β w h (m.run P w) v h := by
  obtain ⟨v', h1, h2⟩ := hm
  exact ⟨v', w, β, h1, Goes.refl s, h2⟩

theorem VOk.ev {m : Sem Value} {v : AV} {h' : Heap} (hm : VOk F β w h (m.run P w) v h') : EvOk F β w h (Sem.run P (do pure (Next.value (← m))) w) v h' := by
  obtain ⟨v', w', β', h1, h2, h3⟩ := hm
  exact ⟨.value v', v', w', β', by simp [h1], .inl rfl, h2, h3⟩

theorem run_aLoad (s : St F β w h) {t : TypeId} {x v : AV} {u : Value} (hl : aLoad P h t x = some v) (r : Rel (ctx F β w h) x u) : ∃ v', (Instr.loadAt t u).run P w = .ok v' w ∧ Rel (ctx F β w h) v v' := by
  unfold aLoad at hl
  split at hl
  · split at hl <;> try (cases hl; done)
    rename_i hrow
    obtain ⟨hid, rfl⟩ := r
    obtain ⟨v', h1, h2⟩ := run_loadVar_row' (P := P) (s.row hrow) hl
    refine ⟨v', ?_, h2⟩
    simp only [Nat.zero_add] at h1
    simpa [Instr.loadAt, Instr.sureAddr] using h1
  · obtain ⟨b, o, rfl, hb, hN, hrow⟩ := r
    obtain ⟨v', h1, h2⟩ := run_loadVar_row' (P := P) hrow hl
    exact ⟨v', by simpa [Instr.loadAt, Instr.sureAddr] using h1, h2⟩
  · cases hl

theorem setMany_append {α : Type} : ∀ (vs : List α) (xs zs : List α) (off : Nat), off + vs.length ≤ xs.length → setMany (xs ++ zs) off vs = setMany xs off vs ++ zs
  | [], _, _, _, _ => rfl
  | v :: vs, xs, zs, off, hl => by
    simp only [List.length_cons] at hl
    rw [setMany, setMany, List.set_append_left _ _ (by omega), setMany_append vs _ _ _ (by simp; omega)]

/-- Cells of a live row that are written. -/
theorem St.write (s : St F β w h) {id : Nat} {cs : List AV} {e : TypeId} {wh : Bool} (hr : rowAt h id = some (cs, e, wh)) {off : Nat} {vc : List AV} {us : List Value} (hle : off + vc.length ≤ cs.length) (hv : RelL (ctx F β w h) vc us) (h1 : vc.all oneC = true) :
    ∃ w', (storeCells ⟨β id, off, none⟩ us).run P w = .ok () w' ∧ Goes F β w h β w' (h.set id (some (.row (setMany cs off vc) e wh))) := by
  obtain ⟨hb, hid, vs, fz, ho, ⟨ys, zs, e1, e2, e3⟩, e4, e5⟩ := s.rowOf hr
  have hlen := hv.length
  have hst := run_storeCells_unf (P := P) (β id) off e fz us 0 vs w ho e4 (by omega) (oneC_all h1 hv)
  refine ⟨_, hst, ?_⟩
  have hsz : (setMany vs.toList off us).toArray.size = vs.size := by simp [setMany_length]
  refine s.put id (.row cs e wh) _ hb _ (.cells (setMany vs.toList off us).toArray e fz) rfl rfl rfl (by simp [World.setRow]) (setRow_heap w _ vs _ e fz ho) (fun b hb => setRow_other w _ b _ hb) ?_ ?_
  · simp [World.shape?, setRow_heap w _ vs _ e fz ho, ho, setMany_length]
  · have hyl := e2.length
    refine ⟨_, fz, rfl, ⟨setMany ys off us, zs, ?_, e2.setMany hv off, e3⟩, by simpa [setMany_length] using e4⟩
    show setMany vs.toList off us = _
    rw [e1, setMany_append us ys zs off (by omega)]

theorem run_aStore (s : St F β w h) {t : TypeId} {a x : AV} {u v : Value} {h' : Heap} (hl : aStore P h t a x = some h') (ra : Rel (ctx F β w h) a u) (rx : Rel (ctx F β w h) x v) :
    ∃ w', (Instr.storeAt t u v).run P w = .ok () w' ∧ Goes F β w h β w' h' := by
  unfold aStore at hl
  split at hl <;> try (cases hl; done)
  rename_i id off
  split at hl <;> try (cases hl; done)
  rename_i cs e wh vc hrow hvc
  split at hl <;> simp only [Option.some.injEq, reduceCtorEq] at hl
  rename_i hc
  subst hl
  obtain ⟨hid, rfl⟩ := ra
  have rv := acells_rel hvc rx
  have hlen := rv.length
  obtain ⟨w', h1, h2⟩ := s.write (P := P) hrow hc.2.1 rv hc.2.2
  refine ⟨w', ?_, h2⟩
  have hz := run_sizeOf' hc.1 w
  have hcs : v.cells.size = vc.length := by simpa using hlen.symm
  simp [Instr.storeAt, Instr.sureAddr, storeVar, hz, hcs, h1]

end
end Go.AH
namespace Go.AH
open Go
section
variable {P : Program} {F : Fr} {β : Nat → Nat} {w : World} {h : Heap}

theorem rel_bcells (c : Ctx) : ∀ (s : List UInt8), RelL c (bcells s) (s.map fun b => Value.int .u8 b.toNat)
  | [] => rfl
  | _ :: s => ⟨_, _, rfl, rfl, rel_bcells c s⟩

theorem run_readSl (s : St F β w h) {sz n : Nat} {x : AV} {u : Value} {cs : List AV} (hr : readSl h sz x n = some cs) (hs : strOk sz x = true) (hn : ∀ l, lenOfA x = some l → n ≤ l) (r : Rel (ctx F β w h) x u) :
    ∃ vs, (Builtin.firstCells sz n u).run P w = .ok vs w ∧ RelL (ctx F β w h) cs vs.toList ∧ cs.length = n * sz := by
  unfold readSl at hr
  split at hr
  · split at hr <;> simp only [Option.some.injEq, reduceCtorEq] at hr
    rename_i h0
    subst hr h0
    simp only [Rel] at r
    subst r
    exact ⟨#[], by simp [Builtin.firstCells], rfl, by simp⟩
  · split at hr <;> simp only [Option.some.injEq, reduceCtorEq] at hr
    rename_i h0
    subst hr h0
    obtain ⟨a, rfl⟩ := r
    cases a with
    | none => exact ⟨#[], by simp [Builtin.firstCells], rfl, by simp⟩
    | some a => exact ⟨#[], by simp [Builtin.firstCells, loadCells, loadCellsFrom], rfl, by simp⟩
  · simp only [Option.some.injEq] at hr
    subst hr
    rename_i l
    simp only [Rel] at r
    subst r
    simp [strOk] at hs
    subst hs
    have := hn _ rfl
    refine ⟨((ByteArray.mk l.toArray).extract 0 n).data.map fun b => .int .u8 b.toNat, by simp [Builtin.firstCells], ?_, by simp [bcells]; omega⟩
    have e : (((ByteArray.mk l.toArray).extract 0 n).data.map fun b => Value.int .u8 b.toNat).toList = (l.take n).map fun b => Value.int .u8 b.toNat := by
      rw [Array.toList_map, ByteArray.data_extract, Array.toList_extract, List.extract]
      simp
    rw [e]
    exact rel_bcells _ _
  · simp only [Option.some.injEq] at hr
    subst hr
    rename_i l
    obtain ⟨sx, rfl, hx⟩ := r
    have hlen : sx.length = l.length := by simpa using congrArg List.length hx
    simp [strOk] at hs
    subst hs
    have := hn _ rfl
    refine ⟨((ByteArray.mk sx.toArray).extract 0 n).data.map fun b => .int .u8 b.toNat, by simp [Builtin.firstCells], ?_, by simp [scells]; omega⟩
    have e : (((ByteArray.mk sx.toArray).extract 0 n).data.map fun b => Value.int .u8 b.toNat).toList = (sx.take n).map fun b => Value.int .u8 b.toNat := by
      rw [Array.toList_map, ByteArray.data_extract, Array.toList_extract, List.extract]
      simp
    rw [e]
    refine rel_scells _ ?_
    rw [List.map_take, hx, List.map_take]
  · split at hr <;> try (cases hr; done)
    split at hr <;> try (cases hr; done)
    rename_i id off len cap hle _ cs0 e wh hrow
    obtain ⟨hid, o, cap', rfl, ho, hlc, hc⟩ := r
    by_cases h0 : n = 0
    · subst h0
      obtain ⟨hl, _, _⟩ := cut_len hr
      have : cs = [] := List.eq_nil_of_length_eq_zero (by omega)
      subst this
      exact ⟨#[], by simp [Builtin.firstCells, loadCells, loadCellsFrom], rfl, by simp⟩
    · have ho' : o = off := by rcases ho with q | q <;> omega
      subst ho'
      obtain ⟨vs, h1, h2⟩ := run_loadCells_row (P := P) (s.row hrow) hr
      simp only [Nat.zero_add] at h1
      exact ⟨vs, by simpa [Builtin.firstCells] using h1, h2, (cut_len hr).1⟩
  · split at hr <;> try (cases hr; done)
    split at hr <;> try (cases hr; done)
    rename_i id len esz hle _ cs0 e wh hrow
    obtain ⟨hid, cap', et, rfl, hlc, hsh⟩ := r
    obtain ⟨vs, h1, h2⟩ := run_loadCells_row (P := P) (s.row hrow) hr
    simp only [Nat.zero_add] at h1
    exact ⟨vs, by simpa [Builtin.firstCells] using h1, h2, (cut_len hr).1⟩
  · split at hr <;> try (cases hr; done)
    rename_i cs0 len hle
    obtain ⟨a, cap', rfl, hlc, hq⟩ := r
    by_cases h0 : n = 0
    · subst h0
      obtain ⟨hl, _, _⟩ := cut_len hr
      have : cs = [] := List.eq_nil_of_length_eq_zero (by omega)
      subst this
      cases a with
      | none => exact ⟨#[], by simp [Builtin.firstCells], rfl, by simp⟩
      | some a => exact ⟨#[], by simp [Builtin.firstCells, loadCells, loadCellsFrom], rfl, by simp⟩
    · rcases hq with q | ⟨b, o, rfl, hb, hN, hrow⟩
      · omega
      · obtain ⟨vs, h1, h2⟩ := run_loadCells_row (P := P) hrow hr
        exact ⟨vs, by simpa [Builtin.firstCells] using h1, h2, (cut_len hr).1⟩
  · cases hr

theorem run_lenOfA {c : Ctx} {x : AV} {u : Value} {n : Nat} (hl : lenOfA x = some n) (r : Rel c x u) (w : World) : (Builtin.lenOf u).run P w = .ok n w := by
  cases x <;> simp only [lenOfA, Option.some.injEq, reduceCtorEq] at hl <;> subst hl <;> simp only [Rel] at r
  · obtain ⟨sx, rfl, hx⟩ := r
    have hlen := congrArg List.length hx
    simp only [List.length_map] at hlen
    simp [Builtin.lenOf, ByteArray.size, hlen]
  · subst r; simp [Builtin.lenOf, ByteArray.size]
  · subst r; rfl
  · obtain ⟨a, rfl⟩ := r; rfl
  · obtain ⟨_, o, cap', rfl, _⟩ := r; rfl
  · obtain ⟨_, cap', et, rfl, _⟩ := r; rfl
  · obtain ⟨a, cap', rfl, _⟩ := r; rfl

theorem setMany_eq {α : Type} : ∀ (us xs : List α) (off : Nat), off + us.length ≤ xs.length → setMany xs off us = xs.take off ++ us ++ xs.drop (off + us.length)
  | [], xs, off, _ => by simp [setMany]
  | u :: us, xs, off, hl => by
    simp only [List.length_cons] at hl
    rw [setMany, setMany_eq us _ _ (by simp; omega), List.take_set, List.drop_set, if_pos (by omega)]
    have h1 : (xs.take (off + 1)).set off u = xs.take off ++ [u] := by
      rw [List.take_add_one, List.set_append_right _ _ (by simp; omega)]
      have : off - (xs.take off).length = 0 := by simp; omega
      rw [this, List.getElem?_eq_getElem (by omega)]
      simp
    rw [h1]
    simp only [List.append_assoc, List.singleton_append, List.length_cons]
    rw [show off + 1 + us.length = off + (us.length + 1) by omega]

/-- A block under a new name. -/
theorem St.rename (s : St F β w h) (i : Nat) (blk : Blk) (hi : h[i]? = some (some blk)) : Goes F β w h (fun id => if id = h.length then β i else β id) w (h.set i none ++ [some blk]) := by
  have hil : i < h.length := by
    rcases Nat.lt_or_ge i h.length with q | q
    · exact q
    · rw [List.getElem?_eq_none q] at hi; simp at hi
  have key : ∀ (id : Nat) (b : Blk), (h.set i none ++ [some blk])[id]? = some (some b) → (id = h.length ∧ b = blk) ∨ (id < h.length ∧ id ≠ i ∧ h[id]? = some (some b)) := by
    intro id b hb
    rw [List.getElem?_append] at hb
    split at hb
    · rename_i hlt
      rw [List.getElem?_set] at hb
      split at hb
      · simp at hb
      · exact .inr ⟨by simpa using hlt, by omega, hb⟩
    · rename_i hge
      left
      simp at hge hb
      rcases Nat.lt_or_ge (id - h.length) 1 with q | q
      · have : id = h.length := by omega
        subst this
        simp at hb
        exact ⟨rfl, hb.symm⟩
      · rw [List.getElem?_eq_none (by simpa using q)] at hb; simp at hb
  have own : ∀ b, Own (fun id => if id = h.length then β i else β id) (h.set i none ++ [some blk]) b → Own β h b := by
    rintro b ⟨id, bk, hb, e⟩
    rcases key id bk hb with ⟨rfl, rfl⟩ | ⟨h1, h2, h3⟩
    · simp at e; exact ⟨i, _, hi, e⟩
    · simp only [if_neg (show id ≠ h.length by omega)] at e; exact ⟨id, bk, h3, e⟩
  have st : Step (Own β h) w w (Own (fun id => if id = h.length then β i else β id) (h.set i none ++ [some blk])) :=
    ⟨rfl, rfl, rfl, Nat.le_refl _, fun _ _ _ => rfl, fun _ _ => rfl, fun b q => .inl (own b q)⟩
  have le := s.leOf (β' := fun id => if id = h.length then β i else β id) (h' := h.set i none ++ [some blk]) st (by simp) (fun id hid => if_neg (by omega))
  refine ⟨⟨fun id b hb => ?_, fun a b ba bb ha hb e => ?_, fun b hF q => s.sep b hF (own b q), s.flt, fun id hid => ?_, s.gl.step st⟩, st, by simp, fun id hid => if_neg (by omega)⟩
  · rcases key id b hb with ⟨rfl, rfl⟩ | ⟨h1, h2, h3⟩
    · obtain ⟨o, ho, hr⟩ := s.live i _ hi
      exact ⟨o, by simpa using ho, BlkRel.le le hr⟩
    · obtain ⟨o, ho, hr⟩ := s.live id _ h3
      exact ⟨o, by simp only [if_neg (show id ≠ h.length by omega)]; exact ho, BlkRel.le le hr⟩
  · rcases key a ba ha with ⟨rfl, rfl⟩ | ⟨h1, h2, h3⟩ <;> rcases key b bb hb with ⟨rfl, rfl⟩ | ⟨k1, k2, k3⟩
    · rfl
    · simp only [if_pos, if_neg (show b ≠ h.length by omega)] at e; exact absurd (s.inj _ _ _ _ hi k3 e).symm k2
    · simp only [if_pos, if_neg (show a ≠ h.length by omega)] at e; exact absurd (s.inj _ _ _ _ h3 hi e) h2
    · simp only [if_neg (show b ≠ h.length by omega), if_neg (show a ≠ h.length by omega)] at e; exact s.inj _ _ _ _ h3 k3 e
  · simp at hid
    split
    · exact s.lt i hil
    · exact s.lt id (by omega)

theorem relL_append_zero {c : Ctx} {z : List AV} {zv : Array Value} (r : RelL c z zv.toList) : ∀ n, RelL c (zeroRow z n) (Builtin.zeroCells zv n).toList := by
  have hl := r.length
  simp at hl
  intro n
  have key : ∀ (n k : Nat), (List.range' (k * zv.size) (n * zv.size)).map (fun i => zv[i % zv.size]!) = (List.replicate n zv.toList).flatten := by
    intro n
    induction n with
    | zero => intro k; simp
    | succ n ih =>
      intro k
      rw [Nat.succ_mul, Nat.add_comm, ← List.range'_append_1, List.map_append, List.replicate_succ, List.flatten_cons]
      congr 1
      · apply List.ext_getElem
        · simp
        · intro i h1 h2
          simp at h1
          simp [h1, Nat.mod_eq_of_lt, Nat.mul_comm k]
      · have := ih (k + 1)
        rwa [Nat.succ_mul] at this
  have e : (Builtin.zeroCells zv n).toList = (List.replicate n zv.toList).flatten := by
    have := key n 0
    rw [← this]
    simp [Builtin.zeroCells, List.range_eq_range']
  rw [e]
  clear e key
  induction n with
  | zero => rfl
  | succ n ih => rw [List.replicate_succ, List.flatten_cons]; exact r.append ih

end
end Go.AH
namespace Go.AH
open Go
section
variable {P : Program} {F : Fr} {β : Nat → Nat} {w : World} {h : Heap}

/-- append, concretely: it grows. -/
theorem run_append_grows (t t' ty e : TypeId) (d' : TypeDesc) (i : TypeInfo) (z : Value) (ht : P.underlying t = some (.slice e)) (ht' : P.underlying t' = some d') (hd : isSeq d' = true) (hi : P.info? e = some i) (hz : i.zero = some z)
    (base : Option Addr) (sLen sCap n : Nat) (x : Value) (olds news : Array Value) (hn : (Builtin.lenOf x).run P w = .ok n w)
    (ho : (Builtin.firstCells i.size sLen (.slice base sLen sCap)).run P w.drew = .ok olds w.drew) (hx : (Builtin.firstCells i.size n x).run P w.drew = .ok news w.drew)
    (hg : sCap < sLen + n) (h63 : sLen + n ≤ 9223372036854775807) (hfit : (sLen + n) * i.bytes ≤ 140737488355328) :
    (Builtin.append_ #[t, t'] ty #[.slice base sLen sCap, x]).run P w =
      .ok (.slice (some ⟨w.heap.size, 0, none⟩) (sLen + n) (grownCap w (sLen + n) sCap e)) (w.drew.alloc (.cells (olds ++ news ++ Builtin.zeroCells z.cells (grownCap w (sLen + n) sCap e - (sLen + n))) e)) := by
  have h1 : ¬ (sLen + n ≤ sCap) := by omega
  have h2 : ¬ (9223372036854775807 < ((sLen : Int) + (n : Int))) := by omega
  have h3 := growslice_fits hg hfit
  have h4 : ¬ (281474976710656 < Builtin.nextslicecap (sLen + n) sCap * i.bytes) := by omega
  cases d' <;> simp [isSeq] at hd
  all_goals
    simp [Builtin.append_, run_underlying ht, run_underlying ht', sizeOf, typeInfo, zeroValue, hi, hz, Question.forced, newRow, grownCap]
    simp only [hn, Result.andThen_ok]
    simp [h1, h2, h4, ho, hx]

/-- append, concretely: there is room. -/
theorem run_append_fits (t t' ty e : TypeId) (d' : TypeDesc) (i : TypeInfo) (ht : P.underlying t = some (.slice e)) (ht' : P.underlying t' = some d') (hd : isSeq d' = true) (hi : P.info? e = some i)
    (b : Addr) (sLen sCap n : Nat) (x : Value) (news : Array Value) (hn : (Builtin.lenOf x).run P w = .ok n w) (hx : (Builtin.firstCells i.size n x).run P w = .ok news w)
    (hg : sLen + n ≤ sCap) {w' : World} (hst : (storeCells (b.add (sLen * i.size)) news.toList).run P w = .ok () w') :
    (Builtin.append_ #[t, t'] ty #[.slice (some b) sLen sCap, x]).run P w = .ok (.slice (some b) (sLen + n) sCap) w' := by
  cases d' <;> simp [isSeq] at hd
  all_goals
    simp [Builtin.append_, run_underlying ht, run_underlying ht', sizeOf, typeInfo, hi]
    simp only [hn, Result.andThen_ok]
    simp [hg, hx, hst]

theorem run_append_none (t t' ty e : TypeId) (d' : TypeDesc) (i : TypeInfo) (ht : P.underlying t = some (.slice e)) (ht' : P.underlying t' = some d') (hd : isSeq d' = true) (hi : P.info? e = some i)
    (base : Option Addr) (x : Value) (news : Array Value) (hn : (Builtin.lenOf x).run P w = .ok 0 w) (hx : (Builtin.firstCells i.size 0 x).run P w = .ok news w) (h0 : news.toList = []) :
    (Builtin.append_ #[t, t'] ty #[.slice base 0 0, x]).run P w = .ok (.slice base 0 0) w := by
  cases d' <;> simp [isSeq] at hd
  all_goals
    simp [Builtin.append_, run_underlying ht, run_underlying ht', sizeOf, typeInfo, hi]
    simp only [hn, Result.andThen_ok]
    cases base <;> simp [hx, h0, storeCells]

/-- A draw, then a block: what append, and a text's bytes, leave. -/
theorem St.made (s : St F β w h) (o : Obj) (blk : Blk) (hr : BlkRel (ctx F β w.drew h) blk o) :
    Goes F β w h (fun id => if id = h.length then w.heap.size else β id) (w.drew.alloc o) (h ++ [some blk]) :=
  (s.drew w.drew rfl rfl rfl rfl).trans ((s.drew w.drew rfl rfl rfl rfl).st.alloc o blk hr)

theorem size_grown {olds news : Array Value} {zc : Array Value} {len m sz cap : Nat} (h1 : olds.size = len * sz) (h2 : news.size = m * sz) (h3 : zc.size = sz) (hc : len + m ≤ cap) :
    (olds ++ news ++ Builtin.zeroCells zc (cap - (len + m))).size = cap * sz := by
  simp only [Array.size_append, size_zeroCells, h1, h2, h3, ← Nat.add_mul]
  congr 1
  omega

theorem run_aAppend (s : St F β w h) {t t' ty : TypeId} {x y v : AV} {u q : Value} {h' : Heap} (ha : aAppend P h t t' x y = some (v, h')) (rx : Rel (ctx F β w h) x u) (ry : Rel (ctx F β w h) y q) :
    VOk F β w h ((Builtin.append_ #[t, t'] ty #[u, q]).run P w) v h' := by
  unfold aAppend at ha
  split at ha <;> try (cases ha; done)
  rename_i e hu
  split at ha <;> try (cases ha; done)
  rename_i d' sz by_ z m hu' hsz hby hz hm
  split at ha <;> try (cases ha; done)
  rename_i new hnew
  split at ha <;> try (cases ha; done)
  rename_i hc
  obtain ⟨hd, hpos, hzl, hso⟩ := hc
  obtain ⟨i, zv, hi, hzv, rz⟩ := zeroCells_rel (c := ctx F β w h) hz
  have hsz' : i.size = sz := by unfold tsz at hsz; simpa [hi] using hsz
  have hby' : i.bytes = by_ := by unfold tbytes at hby; simpa [hi] using hby
  have hzs : zv.cells.size = sz := by have := rz.length; simpa [hzl] using this.symm
  have hlen := run_lenOfA (P := P) hm ry w
  have hml : ∀ l, lenOfA y = some l → m ≤ l := fun l hl => by rw [hm] at hl; simp at hl; omega
  obtain ⟨news, hfc, rnew, hnl⟩ := run_readSl (P := P) s hnew hso hml ry
  -- the same reading behind a draw
  let g0 := s.drew w.drew rfl rfl rfl rfl
  have le0 := g0.le s
  obtain ⟨news2, hfc2, rnew2, hnl2⟩ := run_readSl (P := P) g0.st hnew hso hml (Rel.le le0 _ _ ry)
  have hns2 : news2.size = m * sz := by have := rnew2.length; simpa [hnl2] using this.symm
  have grow0 : ∀ (base : Option Addr), m ≠ 0 → m ≤ 9223372036854775807 ∧ m * by_ ≤ 140737488355328 → VOk F β w h ((Builtin.append_ #[t, t'] ty #[.slice base 0 0, q]).run P w) (.gsl h.length m sz) (h ++ [some (.row new e false)]) := by
    intro base h0 hb
    have ho : (Builtin.firstCells i.size 0 (.slice base 0 0)).run P w.drew = .ok #[] w.drew := by
      cases base <;> simp [Builtin.firstCells, loadCells, loadCellsFrom]
    have hr := run_append_grows (P := P) t t' ty e d' i zv hu hu' hd hi hzv base 0 0 m q #[] news2 hlen ho (by rw [hsz']; exact hfc2) (by omega) (by omega) (by rw [hby', Nat.zero_add]; exact hb.2)
    have hcap := grownCap_ge w (0 + m) 0 e
    refine ⟨_, _, _, hr, s.made _ (.row new e false) ?_, ?_⟩
    · refine ⟨_, (0, 0), rfl, ⟨news2.toList, (Builtin.zeroCells zv.cells (grownCap w (0 + m) 0 e - (0 + m))).toList, by simp [Array.toList_append], rnew2, by simp⟩, by simp⟩
    · refine ⟨by simp, grownCap w (0 + m) 0 e, e, by simp, by simpa using hcap, ?_⟩
      simp only [if_pos, World.shape?, show (w.drew.alloc _).heap[w.heap.size]? = some _ from heap_alloc_new w.drew _]
      rw [size_grown (len := 0) (m := m) (sz := sz) (by simp) hns2 hzs hcap]
  split at ha
  · -- nil
    simp only [Rel] at rx
    subst rx
    split at ha
    · rename_i h0
      simp only [Option.some.injEq, Prod.mk.injEq] at ha
      obtain ⟨rfl, rfl⟩ := ha
      subst h0
      have hnil : news.toList = [] := List.eq_nil_of_length_eq_zero (by have := rnew.length; rw [← this, hnl]; simp)
      exact VOk.same s ⟨_, run_append_none (P := P) t t' ty e d' i hu hu' hd hi none q news hlen (by rw [hsz']; exact hfc) hnil, rfl⟩
    · rename_i h0
      split at ha <;> simp only [Option.some.injEq, Prod.mk.injEq, reduceCtorEq] at ha
      obtain ⟨rfl, rfl⟩ := ha
      exact grow0 none h0 ‹_›
  · -- no room
    obtain ⟨a, rfl⟩ := rx
    split at ha
    · rename_i h0
      simp only [Option.some.injEq, Prod.mk.injEq] at ha
      obtain ⟨rfl, rfl⟩ := ha
      subst h0
      have hnil : news.toList = [] := List.eq_nil_of_length_eq_zero (by have := rnew.length; rw [← this, hnl]; simp)
      exact VOk.same s ⟨_, run_append_none (P := P) t t' ty e d' i hu hu' hd hi a q news hlen (by rw [hsz']; exact hfc) hnil, a, rfl⟩
    · rename_i h0
      split at ha <;> simp only [Option.some.injEq, Prod.mk.injEq, reduceCtorEq] at ha
      obtain ⟨rfl, rfl⟩ := ha
      exact grow0 a h0 ‹_›
  · -- a slice that may have room
    rename_i id len esz
    split at ha <;> try (cases ha; done)
    rename_i cs e' wh hrow
    split at ha
    · rename_i hm0
      simp only [Option.some.injEq, Prod.mk.injEq] at ha
      obtain ⟨rfl, rfl⟩ := ha
      subst hm0
      obtain ⟨hid, cap', et, rfl, hlc, hsh⟩ := rx
      have hnil : new = [] := List.eq_nil_of_length_eq_zero (by rw [hnl]; simp)
      subst hnil
      have hnil2 : news.toList = [] := rnew
      have hr := run_append_fits (P := P) t t' ty e d' i hu hu' hd hi ⟨β id, 0, none⟩ len cap' 0 q news hlen (by rw [hsz']; exact hfc) (by omega) (w' := w) (by rw [hnil2]; rfl)
      exact VOk.same s ⟨_, hr, hid, cap', et, rfl, hlc, hsh⟩
    split at ha <;> simp only [Option.some.injEq, Prod.mk.injEq, reduceCtorEq] at ha
    rename_i hcc
    obtain ⟨rfl, rfl⟩ := ha
    obtain ⟨rfl, rfl, hle, h1c, h63, hfit⟩ := hcc
    obtain ⟨hid, cap', et, rfl, hlc, hsh⟩ := rx
    obtain ⟨hb, _, vs, fz, ho, ⟨ys, zs, e1, e2, e3⟩, e4, e5⟩ := s.rowOf hrow
    have hshape : vs.size = cap' * esz ∧ et = e' := by
      simp only [World.shape?, ho] at hsh
      simp at hsh
      exact ⟨hsh.2, hsh.1.symm⟩
    by_cases hroom : len + m ≤ cap'
    · have hfitv : len * esz + news.size ≤ vs.size := by
        have hns : news.size = m * esz := by have := rnew.length; simpa [hnl] using this.symm
        rw [hns, hshape.1, ← Nat.add_mul]
        exact Nat.mul_le_mul_right _ hroom
      have hst := run_storeCells_unf (P := P) (β id) (len * esz) e' fz news.toList 0 vs w ho e4 (by simpa using hfitv) (oneC_all h1c rnew)
      have hr := run_append_fits (P := P) t t' ty e' d' i hu hu' hd hi ⟨β id, 0, none⟩ len cap' m q news hlen (by rw [hsz']; exact hfc) hroom (by rw [hsz', Addr.add_lit, Nat.zero_add]; exact hst)
      simp only [Nat.add_zero] at hr
      -- the write, then the new name
      have hyl := e2.length
      have gput : Goes F β w h β (w.setRow (β id) (setMany vs.toList (len * esz) news.toList).toArray) (h.set id (some (.row (cs.take (len * esz) ++ new) e' false))) := by
        refine s.put id (.row cs e' wh) _ hb _ (.cells (setMany vs.toList (len * esz) news.toList).toArray e' fz) rfl rfl rfl (by simp [World.setRow]) (setRow_heap w _ vs _ e' fz ho) (fun b hb => setRow_other w _ b _ hb) ?_ ?_
        · simp [World.shape?, setRow_heap w _ vs _ e' fz ho, ho, setMany_length]
        · refine ⟨_, fz, rfl, ⟨ys.take (len * esz) ++ news.toList, vs.toList.drop (len * esz + news.toList.length), ?_, (e2.take _).append rnew, by simp⟩, by simpa [setMany_length] using e4⟩
          show setMany vs.toList (len * esz) news.toList = _
          rw [setMany_eq _ _ _ (by simpa using hfitv), e1, List.take_append_of_le_length (by omega)]
      have hlk : (h.set id (some (Blk.row (cs.take (len * esz) ++ new) e' false)))[id]? = some (some (.row (cs.take (len * esz) ++ new) e' false)) := by
        rw [List.getElem?_set_self hid]
      have gren := gput.st.rename id _ hlk
      have g := gput.trans gren
      simp only [List.length_set, List.set_set] at g
      refine ⟨_, _, _, hr, g, ?_⟩
      refine ⟨by simp, cap', e', by simp, hroom, ?_⟩
      simp only [if_pos]
      simp [World.shape?, setRow_heap w _ vs _ e' fz ho, setMany_length, hshape.1]
    · have hcut : cut cs 0 (len * esz) = some (cs.take (len * esz)) := by unfold cut; rw [if_pos (by omega)]; simp
      obtain ⟨olds, hol, rold⟩ := run_loadCells_row (P := P) (g0.st.row hrow) hcut
      simp only [Nat.zero_add] at hol
      have hr := run_append_grows (P := P) t t' ty e' d' i zv hu hu' hd hi hzv (some ⟨β id, 0, none⟩) len cap' m q olds news2 hlen (by rw [hsz']; simpa [Builtin.firstCells] using hol) (by rw [hsz']; exact hfc2) (by omega) h63 (by rw [hby']; exact hfit)
      have hcap := grownCap_ge w (len + m) cap' e'
      have hos : olds.size = len * esz := by have := rold.length; simp at this; omega
      have gm := s.made (.cells (olds ++ news2 ++ Builtin.zeroCells zv.cells (grownCap w (len + m) cap' e' - (len + m))) e') (.row (cs.take (len * esz) ++ new) e' false)
        ⟨_, (0, 0), rfl, ⟨olds.toList ++ news2.toList, (Builtin.zeroCells zv.cells (grownCap w (len + m) cap' e' - (len + m))).toList, by simp [Array.toList_append], rold.append rnew2, by simp⟩, by simp⟩
      have g := gm.trans (gm.st.kill id)
      rw [List.set_append_left _ _ hid] at g
      refine ⟨_, _, _, hr, g, ?_⟩
      refine ⟨by simp, grownCap w (len + m) cap' e', e', by simp, hcap, ?_⟩
      simp only [if_pos, World.shape?, show (w.drew.alloc _).heap[w.heap.size]? = some _ from heap_alloc_new w.drew _]
      rw [size_grown (len := len) (m := m) (sz := esz) hos hns2 hzs hcap]
  · -- a slice whose room is known
    rename_i id off len cap
    split at ha <;> try (cases ha; done)
    rename_i cs e' wh hrow
    obtain ⟨hid, o, cap', rfl, hoff, hlc, hcx⟩ := rx
    obtain rfl := hcx cap rfl
    split at ha
    · rename_i hroom
      split at ha <;> simp only [Option.some.injEq, Prod.mk.injEq, reduceCtorEq] at ha
      rename_i hcc
      obtain ⟨rfl, rfl⟩ := ha
      have ho : o = off ∨ m = 0 := by rcases hoff with q | q; exact .inl q; exact .inr (by omega)
      by_cases hm0 : m = 0
      · subst hm0
        have hnil : new = [] := List.eq_nil_of_length_eq_zero (by rw [hnl]; simp)
        subst hnil
        have hnil2 : news.toList = [] := rnew
        have hr := run_append_fits (P := P) t t' ty e d' i hu hu' hd hi ⟨β id, o, none⟩ len cap' 0 q news hlen (by rw [hsz']; exact hfc) hroom (w' := w) (by rw [hnil2]; rfl)
        obtain ⟨hb, _⟩ := s.rowOf hrow
        have : h.set id (some (.row (setMany cs (off + len * sz) []) e' wh)) = h := by
          rw [setMany]
          refine List.ext_getElem? fun j => ?_
          rw [List.getElem?_set]
          split
          · rename_i hj; subst hj; rw [hb]
          · rfl
        rw [this]
        exact VOk.same s ⟨_, hr, hid, o, cap', rfl, hoff, by omega, fun x hx => by simpa using hx⟩
      · have ho' : o = off := by rcases ho with q | q; exact q; exact absurd q hm0
        subst ho'
        have hle : o + len * sz + new.length ≤ cs.length := by rw [hnl]; have := hcc.1; rw [Nat.add_mul] at this; omega
        obtain ⟨w', hst, g⟩ := s.write (P := P) hrow hle rnew hcc.2
        have hr := run_append_fits (P := P) t t' ty e d' i hu hu' hd hi ⟨β id, o, none⟩ len cap' m q news hlen (by rw [hsz']; exact hfc) hroom (w' := w') (by rw [hsz', Addr.add_lit]; exact hst)
        exact ⟨_, _, _, hr, g, by simpa using hid, o, cap', rfl, .inl rfl, hroom, fun x hx => by simpa using hx⟩
    · rename_i hroom
      split at ha <;> try (cases ha; done)
      rename_i hcc
      split at ha <;> simp only [Option.some.injEq, Prod.mk.injEq, reduceCtorEq] at ha
      rename_i old hold
      obtain ⟨rfl, rfl⟩ := ha
      have hol : ∃ olds, (Builtin.firstCells sz len (.slice (some ⟨β id, o, none⟩) len cap')).run P w.drew = .ok olds w.drew ∧ RelL (ctx F β w.drew h) old olds.toList := by
        by_cases h0 : len = 0
        · subst h0
          obtain ⟨hl, _, _⟩ := cut_len hold
          have : old = [] := List.eq_nil_of_length_eq_zero (by omega)
          subst this
          exact ⟨#[], by simp [Builtin.firstCells, loadCells, loadCellsFrom], rfl⟩
        · have ho' : o = off := by rcases hoff with q | q <;> omega
          subst ho'
          obtain ⟨olds, h1, h2⟩ := run_loadCells_row (P := P) (g0.st.row hrow) hold
          simp only [Nat.zero_add] at h1
          exact ⟨olds, by simpa [Builtin.firstCells] using h1, h2⟩
      obtain ⟨olds, hol, rold⟩ := hol
      have hos : olds.size = len * sz := by have := rold.length; have := (cut_len hold).1; simp at *; omega
      have hr := run_append_grows (P := P) t t' ty e d' i zv hu hu' hd hi hzv (some ⟨β id, o, none⟩) len cap' m q olds news2 hlen (by rw [hsz']; exact hol) (by rw [hsz']; exact hfc2) (by omega) hcc.1 (by rw [hby']; exact hcc.2)
      have hcap := grownCap_ge w (len + m) cap' e
      refine ⟨_, _, _, hr, s.made _ (.row (old ++ new) e false) ⟨_, (0, 0), rfl, ⟨olds.toList ++ news2.toList, (Builtin.zeroCells zv.cells (grownCap w (len + m) cap' e - (len + m))).toList, by simp [Array.toList_append], rold.append rnew2, by simp⟩, by simp⟩, ?_⟩
      refine ⟨by simp, grownCap w (len + m) cap' e, e, by simp, hcap, ?_⟩
      simp only [if_pos, World.shape?, show (w.drew.alloc _).heap[w.heap.size]? = some _ from heap_alloc_new w.drew _]
      rw [size_grown (len := len) (m := m) (sz := sz) hos hns2 hzs hcap]
  · cases ha

end
end Go.AH
namespace Go.AH
open Go
section
variable {P : Program} {F : Fr} {β : Nat → Nat} {w : World} {h : Heap}

/-- A new row that the call owns whole. -/
theorem St.newRow (s : St F β w h) {cs : List AV} {vs : Array Value} (r : RelL (ctx F β w h) cs vs.toList) (e : TypeId) :
    Goes F β w h (fun id => if id = h.length then w.heap.size else β id) (w.alloc (.cells vs e)) (h ++ [some (.row cs e true)]) :=
  s.alloc _ _ ⟨vs, (0, 0), rfl, ⟨vs.toList, [], by simp, r, fun _ => rfl⟩, by simp⟩

theorem run_newVar (s : St F β w h) {t : TypeId} {v : Value} {cs : List AV} (r : RelL (ctx F β w h) cs v.cells.toList) :
    VOk F β w h (Sem.run P (do return .pointer (some (← newVar t v))) w) (.ptr h.length 0) (h ++ [some (.row cs t true)]) :=
  ⟨.pointer (some ⟨w.heap.size, 0, none⟩), w.alloc (.cells v.cells t), _, by simp [newVar, Go.newRow], s.newRow r t, by simp, by simp⟩

theorem run_aAlloc (s : St F β w h) {t : TypeId} {z : List AV} (hz : zeroCellsOf P t = some z) : VOk F β w h ((Instr.alloc t true (.tuple #[])).run P w) (.ptr h.length 0) (h ++ [some (.row z t true)]) := by
  obtain ⟨i, zv, hi, hzv, rz⟩ := zeroCells_rel (c := ctx F β w h) hz
  exact ⟨.pointer (some ⟨w.heap.size, 0, none⟩), w.alloc (.cells zv.cells t), _, by simp [Instr.alloc, zeroValue, typeInfo, hi, hzv, newVar, Go.newRow], s.newRow rz t, by simp, by simp⟩

theorem run_aBox (s : St F β w h) {t : TypeId} {x : AV} {u : Value} {cs : List AV} (hc : acells x = some cs) (r : Rel (ctx F β w h) x u) : VOk F β w h ((Instr.box t u).run P w) (.ptr h.length 0) (h ++ [some (.row cs t true)]) := by
  exact ⟨.pointer (some ⟨w.heap.size, 0, none⟩), w.alloc (.cells u.cells t), _, by simp [Instr.box, newVar, Go.newRow], s.newRow (acells_rel hc r) t, by simp, by simp⟩

theorem run_aBuildSlice (s : St F β w h) {t : TypeId} {len : Nat} {parts : List (Nat × AV)} {parts' : Array (Nat × Value)} {v : AV} {h' : Heap} (hb : aBuildSlice P h t len parts = some (v, h')) (rp : RelP (ctx F β w h) parts parts'.toList) :
    VOk F β w h ((Instr.buildSlice t len parts').run P w) v h' := by
  unfold aBuildSlice at hb
  split at hb <;> try (cases hb; done)
  rename_i e hu
  split at hb <;> try (cases hb; done)
  rename_i sz z hsz hz
  split at hb <;> try (cases hb; done)
  rename_i hle
  split at hb <;> simp only [Option.some.injEq, Prod.mk.injEq, reduceCtorEq] at hb
  rename_i cs hf
  obtain ⟨rfl, rfl⟩ := hb
  obtain ⟨i, zv, hi, hzv, rz⟩ := zeroCells_rel (c := ctx F β w h) hz
  have hn : ¬ (16777216 < len * sz) := by omega
  let zz : Array Value := if len * sz = 0 then #[] else zv.cells
  have rr : RelL (ctx F β w h) (List.replicate (len * sz) .unk) ((Array.range (len * sz)).map (zz[· % zz.size]!)).toList := by
    have := relL_unk (c := ctx F β w h) ((Array.range (len * sz)).map (zz[· % zz.size]!)).toList
    simpa using this
  obtain ⟨out, h1, h2⟩ := fill_rel hf rp rr
  refine ⟨_, _, _, ?_, s.newRow h2 e, by simp, 0, len, rfl, .inl rfl, Nat.le_refl _, fun x hx => by simpa using hx⟩
  by_cases h0 : len * sz = 0
  · have hzz : zz = #[] := if_pos h0
    rw [hzz] at h1
    simp [Instr.buildSlice, run_underlying hu, run_sizeOf' hsz, h0, Go.newRow]
    simp [h0] at h1
    simp [h1]
  · have hzz : zz = zv.cells := if_neg h0
    rw [hzz] at h1
    simp [Instr.buildSlice, run_underlying hu, run_sizeOf' hsz, hn, h0, zeroValue, typeInfo, hi, hzv, Go.newRow, h1]

theorem zeroRow_oneC {z : List AV} (h1 : z.all oneC = true) : ∀ n, (zeroRow z n).all oneC = true
  | 0 => rfl
  | n + 1 => by rw [zeroRow, List.all_append, h1, zeroRow_oneC h1 n]; rfl
theorem zeroRow_length (z : List AV) : ∀ n, (zeroRow z n).length = n * z.length
  | 0 => by simp [zeroRow]
  | n + 1 => by rw [zeroRow, List.length_append, zeroRow_length z n, Nat.succ_mul, Nat.add_comm]

theorem run_aClear (s : St F β w h) {t ty : TypeId} {ts : Array TypeId} (hts : ts[0]? = some t) {x : AV} {u : Value} {h' : Heap} (ha : aClear P h t x = some h') (r : Rel (ctx F β w h) x u) :
    VOk F β w h ((Builtin.clear_ ts ty #[u]).run P w) (.tup []) h' := by
  unfold aClear at ha
  split at ha <;> try (cases ha; done)
  rename_i e hu
  split at ha <;> try (cases ha; done)
  rename_i sz z hsz hz
  split at ha <;> try (cases ha; done)
  rename_i hzc
  obtain ⟨i, zv, hi, hzv, rz⟩ := zeroCells_rel (c := ctx F β w h) hz
  have fin : ∀ (b o len cap : Nat) (w' : World), (storeCells ⟨b, o, none⟩ (Builtin.zeroCells zv.cells len).toList).run P w = .ok () w' → (Builtin.clear_ ts ty #[.slice (some ⟨b, o, none⟩) len cap]).run P w = .ok (.tuple #[]) w' := by
    intro b o len cap w' hst
    cases len with
    | zero => simp [Builtin.zeroCells, storeCells] at hst; subst hst; simp [Builtin.clear_, hts, run_underlying hu]
    | succ n => simp [Builtin.clear_, hts, run_underlying hu, zeroValue, typeInfo, hi, hzv, hst]
  split at ha
  · simp only [Option.some.injEq] at ha
    subst ha
    simp only [Rel] at r
    subst r
    exact VOk.same s ⟨_, by simp [Builtin.clear_, hts, run_underlying hu], ⟨#[], rfl, rfl⟩⟩
  · simp only [Option.some.injEq] at ha
    subst ha
    obtain ⟨a, rfl⟩ := r
    refine VOk.same s ⟨.tuple #[], ?_, ⟨#[], rfl, rfl⟩⟩
    cases a <;> simp [Builtin.clear_, hts, run_underlying hu]
  · rename_i id off len cap
    split at ha <;> try (cases ha; done)
    rename_i cs e' wh hrow
    split at ha <;> simp only [Option.some.injEq, reduceCtorEq] at ha
    rename_i hle
    subst ha
    obtain ⟨hid, o, cap', rfl, ho, hlc, hc⟩ := r
    by_cases h0 : len = 0
    · subst h0
      have : h.set id (some (.row (setMany cs off (zeroRow z 0)) e' wh)) = h := by
        obtain ⟨hb, _⟩ := s.rowOf hrow
        rw [zeroRow, setMany]
        refine List.ext_getElem? fun j => ?_
        rw [List.getElem?_set]
        split
        · rename_i hj; subst hj; rw [hb]
        · rfl
      rw [this]
      exact VOk.same s ⟨_, fin _ _ _ _ w (by simp [Builtin.zeroCells, storeCells]), ⟨#[], rfl, rfl⟩⟩
    · have ho' : o = off := by rcases ho with q | q <;> omega
      subst ho'
      obtain ⟨w', hst, g⟩ := s.write (P := P) hrow (off := o) (vc := zeroRow z len) (by rw [zeroRow_length, hzc.1]; exact hle) (relL_append_zero rz len) (zeroRow_oneC hzc.2 len)
      exact ⟨_, _, _, fin _ _ _ _ _ hst, g, ⟨#[], rfl, rfl⟩⟩
  · rename_i id len esz
    split at ha <;> try (cases ha; done)
    rename_i cs e' wh hrow
    split at ha <;> simp only [Option.some.injEq, reduceCtorEq] at ha
    rename_i hle
    subst ha
    obtain ⟨hid, cap', et, rfl, hlc, hsh⟩ := r
    obtain ⟨w', hst, g⟩ := s.write (P := P) hrow (off := 0) (vc := zeroRow z len) (by rw [zeroRow_length, hzc.1]; omega) (relL_append_zero rz len) (zeroRow_oneC hzc.2 len)
    exact ⟨_, _, _, fin _ _ _ _ _ hst, g, ⟨#[], rfl, rfl⟩⟩
  · cases ha

theorem run_aCopy (s : St F β w h) {t ty : TypeId} {ts : Array TypeId} (hts : ts[0]? = some t) {x y v : AV} {u q : Value} {h' : Heap} (ha : aCopy P h t x y = some (v, h')) (rx : Rel (ctx F β w h) x u) (ry : Rel (ctx F β w h) y q) :
    VOk F β w h ((Builtin.copy_ ts ty #[u, q]).run P w) v h' := by
  unfold aCopy at ha
  split at ha <;> try (cases ha; done)
  rename_i e hu
  split at ha <;> try (cases ha; done)
  rename_i sz lx ly hsz hlx hly
  split at ha <;> try (cases ha; done)
  rename_i new hnew
  split at ha <;> try (cases ha; done)
  rename_i hc
  have hlen := run_lenOfA (P := P) hly ry w
  obtain ⟨news, hfc, rnew, hnl⟩ := run_readSl (P := P) s hnew hc.2 (fun l hl => by rw [hly] at hl; simp at hl; omega) ry
  have hmin : Nat.min ly lx = min ly lx := rfl
  split at ha
  · simp only [Option.some.injEq, Prod.mk.injEq] at ha
    obtain ⟨rfl, rfl⟩ := ha
    simp only [Rel] at rx
    subst rx
    simp [lenOfA] at hlx
    subst hlx
    refine VOk.same s ⟨_, ?_, rfl⟩
    rw [Nat.min_zero] at hfc
    simp [Builtin.copy_, hts, run_underlying hu, hlen, run_sizeOf' hsz, hfc, goInt]
  · simp only [Option.some.injEq, Prod.mk.injEq] at ha
    obtain ⟨rfl, rfl⟩ := ha
    obtain ⟨a, rfl⟩ := rx
    simp [lenOfA] at hlx
    subst hlx
    rw [Nat.min_zero] at hfc hnl
    have hnil : news.toList = [] := List.eq_nil_of_length_eq_zero (by have := rnew.length; rw [← this, hnl]; simp)
    refine VOk.same s ⟨.int .i64 0, ?_, rfl⟩
    cases a <;> simp [Builtin.copy_, hts, run_underlying hu, hlen, run_sizeOf' hsz, hfc, goInt, hnil, storeCells]
  · rename_i id off len cap
    split at ha <;> try (cases ha; done)
    rename_i cs e' wh hrow
    split at ha <;> simp only [Option.some.injEq, Prod.mk.injEq, reduceCtorEq] at ha
    rename_i hle
    obtain ⟨rfl, rfl⟩ := ha
    obtain ⟨hid, o, cap', rfl, ho, hlc, hcx⟩ := rx
    simp [lenOfA] at hlx
    subst hlx
    by_cases h0 : min ly len = 0
    · have hnil : new = [] := List.eq_nil_of_length_eq_zero (by rw [hnl, h0]; simp)
      subst hnil
      have hnil2 : news.toList = [] := rnew
      have : h.set id (some (.row (setMany cs off []) e' wh)) = h := by
        obtain ⟨hb, _⟩ := s.rowOf hrow
        rw [setMany]
        refine List.ext_getElem? fun j => ?_
        rw [List.getElem?_set]
        split
        · rename_i hj; subst hj; rw [hb]
        · rfl
      rw [this]
      refine VOk.same s ⟨.int .i64 ((min ly len : Nat) : Int), ?_, by simp only [Rel]⟩
      simp [Builtin.copy_, hts, run_underlying hu, hlen, run_sizeOf' hsz, hmin, hfc, goInt, hnil2, storeCells]
    · have ho' : o = off := by rcases ho with q | q <;> omega
      subst ho'
      obtain ⟨w', hst, g⟩ := s.write (P := P) hrow hle rnew hc.1
      refine ⟨.int .i64 ((min ly len : Nat) : Int), _, _, ?_, g, by simp only [Rel]⟩
      simp [Builtin.copy_, hts, run_underlying hu, hlen, run_sizeOf' hsz, hmin, hfc, goInt, hst]
  · rename_i id len esz
    split at ha <;> try (cases ha; done)
    rename_i cs e' wh hrow
    split at ha <;> simp only [Option.some.injEq, Prod.mk.injEq, reduceCtorEq] at ha
    rename_i hle
    obtain ⟨rfl, rfl⟩ := ha
    obtain ⟨hid, cap', et, rfl, hlc, hsh⟩ := rx
    simp [lenOfA] at hlx
    subst hlx
    obtain ⟨w', hst, g⟩ := s.write (P := P) hrow (off := 0) (by omega) rnew hc.1
    refine ⟨.int .i64 ((min ly len : Nat) : Int), _, _, ?_, g, by simp only [Rel]⟩
    simp [Builtin.copy_, hts, run_underlying hu, hlen, run_sizeOf' hsz, hmin, hfc, goInt, hst]
  · cases ha

theorem toBytes_rel {c : Ctx} : ∀ {xs : List AV} {vs : List Value} {s : List UInt8}, toBytes xs = some s → RelL c xs vs → ∃ ns : List Int, vs = ns.map (Value.int .u8) ∧ s = ns.map fun n => UInt8.ofNat n.toNat
  | [], _, s, h, r => by cases r; simp [toBytes] at h; subst h; exact ⟨[], rfl, rfl⟩
  | x :: xs, _, s, h, ⟨y, ys, e, r, rs⟩ => by
    subst e
    unfold toBytes at h
    split at h <;> try (cases h; done)
    · rename_i heq; simp at heq
    · rename_i n xs' heq
      simp only [List.cons.injEq] at heq
      obtain ⟨rfl, rfl⟩ := heq
      rw [Option.map_eq_some_iff] at h
      obtain ⟨s', hs', rfl⟩ := h
      simp only [Rel] at r
      subst r
      obtain ⟨ns, rfl, rfl⟩ := toBytes_rel hs' rs
      exact ⟨n :: ns, rfl, rfl⟩

theorem fold_push : ∀ (ns : List Int) (acc : ByteArray), ns.foldl (fun r n => r.push (UInt8.ofNat n.toNat)) acc = ⟨acc.data ++ (ns.map fun n => UInt8.ofNat n.toNat).toArray⟩
  | [], acc => by simp
  | n :: ns, acc => by
    rw [List.foldl_cons, fold_push ns]
    congr 1
    apply Array.ext'
    simp

theorem alloc_freeze (w : World) (cs : Array Value) (e : TypeId) : (w.alloc (.cells cs e)).freeze { block := w.heap.size, off := cs.size } 1 = w.alloc (.cells cs e (cs.size, cs.size + 1)) := by
  simp only [World.freeze, World.alloc, Nat.one_ne_zero, if_false]
  congr 1
  apply Array.ext
  · simp
  · intro i h1 h2
    simp at h1
    rw [Array.getElem_modify]
    by_cases hi : i = w.heap.size
    · subst hi; simp
    · simp [Array.getElem_push, show i < w.heap.size by omega, show w.heap.size ≠ i by omega]

theorem run_toBytes' (s : St F β w h) {e : TypeId} (l : List UInt8) (cells : List AV) (hcells : ∀ c : Ctx, c.V = F.V → RelL c cells (l.map fun b => Value.int .u8 b.toNat)) :
    VOk F β w h ((Conv.stringToBytes e ⟨l.toArray⟩).run P w) (.gsl h.length l.length 1) (h ++ [some (.row cells e false)]) := by
  have hsz : (ByteArray.mk l.toArray).size = l.length := by simp [ByteArray.size]
  have hcap := grownCap_ge w l.length 0 e
  let cs : Array Value := (l.toArray.map fun b => Value.int .u8 b.toNat) ++ Array.replicate (grownCap w l.length 0 e - l.length) (.int .u8 0)
  have hcs : cs.size = grownCap w l.length 0 e := by simp [cs]; omega
  have hsh : (w.drew.alloc (.cells cs e)).shape? w.heap.size = some (e, cs.size) := by
    simp only [World.shape?, show (w.drew.alloc (.cells cs e)).heap[w.heap.size]? = some _ from heap_alloc_new w.drew _]
  refine ⟨.slice (some ⟨w.heap.size, 0, none⟩) l.length (grownCap w l.length 0 e), _, _, ?_, s.made (.cells cs e (cs.size, cs.size + 1)) (.row cells e false) ?_, ?_⟩
  · have hf := alloc_freeze w.drew cs e
    have hsh' : ({ w.drew with heap := w.drew.heap.push (.cells cs e) } : World).shape? w.heap.size = some (e, cs.size) := hsh
    have e1 : (Conv.stringToBytes e ⟨l.toArray⟩).run P w = ((do
        let a ← Go.newRow e cs
        markStringish a
        pure (.slice (some a) l.length (grownCap w l.length 0 e)) : Sem Value)).run P w.drew := by
      simp only [Conv.stringToBytes, hsz, Sem.run_bind, run_choose, Question.forced, Bool.false_eq_true, if_false, Result.andThen_ok]
      rfl
    rw [e1]
    simp only [Go.newRow, markStringish, Sem.run_bind, run_newObj, Sem.run_pure, Result.andThen_ok, run_shape]
    have e2 : w.drew.heap.size = w.heap.size := rfl
    rw [e2, hsh']
    simp only [run_freeze, Result.andThen_ok]
    rw [e2] at hf
    exact congrArg (Result.ok _) hf
  · refine ⟨cs, (cs.size, cs.size + 1), rfl, ⟨l.map (fun b => Value.int .u8 b.toNat), List.replicate (grownCap w l.length 0 e - l.length) (.int .u8 0), by simp [cs], hcells _ rfl, by simp⟩, fun i hi => by simp; omega⟩
  · refine ⟨by simp, grownCap w l.length 0 e, e, by simp, hcap, ?_⟩
    simp only [if_pos, World.shape?, show (w.drew.alloc _).heap[w.heap.size]? = some _ from heap_alloc_new w.drew _, hcs, Nat.mul_one]

theorem run_toBytes (s : St F β w h) {e : TypeId} (l : List UInt8) : VOk F β w h ((Conv.stringToBytes e ⟨l.toArray⟩).run P w) (.gsl h.length l.length 1) (h ++ [some (.row (bcells l) e false)]) :=
  run_toBytes' s l _ (fun _ _ => rel_bcells _ l)

theorem run_aConvert (s : St F β w h) {src dst : TypeId} {x v : AV} {u : Value} {h' : Heap} (ha : aConvert P h src dst x = some (v, h')) (r : Rel (ctx F β w h) x u) : VOk F β w h ((convert src dst u).run P w) v h' := by
  unfold aConvert at ha
  split at ha
  · rename_i e hu hv
    split at ha <;> try (cases ha; done)
    rename_i l he
    split at ha <;> simp only [Option.some.injEq, Prod.mk.injEq, reduceCtorEq] at ha
    rename_i hl
    obtain ⟨rfl, rfl⟩ := ha
    simp only [Rel] at r
    subst r
    have : (convert src dst (.string ⟨l.toArray⟩)).run P w = (Conv.stringToBytes e ⟨l.toArray⟩).run P w := by
      simp [convert, run_underlying hu, run_underlying hv, run_underlying he]
    rw [this]
    exact run_toBytes s l
  · rename_i e hu hv
    split at ha <;> try (cases ha; done)
    rename_i n he hn
    split at ha <;> try (cases ha; done)
    rename_i cs hcs
    have key : (∀ l, x ≠ .str l) → (∀ l, x ≠ .sym l) → ∀ l, toBytes cs = some l → VOk F β w h ((convert src dst u).run P w) (.str l) h := by
      intro hx hx2 l hl
      obtain ⟨vs, hfc, rv, _⟩ := run_readSl (P := P) s hcs (by cases x <;> simp [strOk]) (fun l hl => by rw [hn] at hl; simp at hl; omega) r
      obtain ⟨ns, e1, e2⟩ := toBytes_rel hl rv
      have hvs : vs = (ns.map (Value.int .u8)).toArray := by apply Array.ext'; simpa using e1
      refine VOk.same s ⟨.string ⟨l.toArray⟩, ?_, rfl⟩
      have hlen := run_lenOfA (P := P) hn r w
      have hu2 : ∃ a len cap, u = .slice a len cap := by
        cases x <;> simp only [lenOfA, reduceCtorEq] at hn <;> simp only [Rel] at r
        · exact absurd rfl (hx2 _)
        · exact absurd rfl (hx _)
        · exact ⟨_, _, _, r⟩
        · obtain ⟨a, r⟩ := r; exact ⟨_, _, _, r⟩
        · obtain ⟨_, o, cap', r, _⟩ := r; exact ⟨_, _, _, r⟩
        · obtain ⟨_, cap', et, r, _⟩ := r; exact ⟨_, _, _, r⟩
        · obtain ⟨a, cap', r, _⟩ := r; exact ⟨_, _, _, r⟩
      obtain ⟨a, len, cap, rfl⟩ := hu2
      simp [Builtin.lenOf] at hlen
      subst hlen
      rw [run_convert_bytes_string w src dst e a len cap hu he hv]
      cases a with
      | none =>
        simp [Builtin.firstCells] at hfc
        have hv0 : vs = #[] := hfc
        rw [hv0] at hvs
        have : ns = [] := by
          have := congrArg Array.toList hvs
          simpa using this.symm
        subst this
        subst e2
        rfl
      | some a =>
        simp only [Builtin.firstCells, Nat.mul_one] at hfc
        rw [run_bytesToString w a len cap ns (by rw [hfc, hvs]), fold_push, ← e2]
        congr 3
        apply Array.ext'
        simp [ByteArray.empty, ByteArray.emptyWithCapacity]
        rfl
    split at ha
    · cases ha
    · cases ha
    · rename_i hx hx2
      rw [Option.map_eq_some_iff] at ha
      obtain ⟨l, hl, he2⟩ := ha
      simp only [Prod.mk.injEq] at he2
      obtain ⟨rfl, rfl⟩ := he2
      exact key hx hx2 l hl
  · rw [Option.map_eq_some_iff] at ha
    obtain ⟨l, hl, he2⟩ := ha
    simp only [Prod.mk.injEq] at he2
    obtain ⟨rfl, rfl⟩ := he2
    exact VOk.same s (run_aConv hl r w)

end
end Go.AH
namespace Go.AH
open Go
section
variable {P : Program} {F : Fr} {β : Nat → Nat} {w : World} {h : Heap}

theorem relL_map {c : Ctx} {ρ : Operand → AV} {ρ' : Operand → Value} (hρ : ∀ x, Rel c (ρ x) (ρ' x)) : ∀ (l : List Operand), RelL c (l.map ρ) (l.map ρ')
  | [] => rfl
  | x :: l => ⟨_, _, rfl, hρ x, relL_map hρ l⟩

theorem relP_map {c : Ctx} {ρ : Operand → AV} {ρ' : Operand → Value} (hρ : ∀ x, Rel c (ρ x) (ρ' x)) : ∀ (l : List (Nat × Operand)), RelP c (l.map fun p => (p.1, ρ p.2)) (l.map fun p => (p.1, ρ' p.2))
  | [] => rfl
  | (_, x) :: l => ⟨_, _, rfl, hρ x, relP_map hρ l⟩

theorem relO_map {c : Ctx} {ρ : Operand → AV} {ρ' : Operand → Value} (hρ : ∀ x, Rel c (ρ x) (ρ' x)) : ∀ (x : Option Operand), RelO c (x.map ρ) (x.map ρ')
  | none => rfl
  | some x => ⟨_, rfl, hρ x⟩

theorem EvOk.of {r : Result Next} {v : AV} {h' : Heap} {m : Sem Value} (hm : VOk F β w h (m.run P w) v h') (hr : r = (m.run P w).andThen fun v' w' => .ok (.value v') w') : EvOk F β w h r v h' := by
  obtain ⟨v', w', β', h1, h2, h3⟩ := hm
  exact ⟨.value v', v', w', β', by rw [hr, h1]; rfl, .inl rfl, h2, h3⟩

theorem builtin_sound (s : St F β w h) {b : Builtin} {ts : Array TypeId} {ty : TypeId} {cs : Array Bool} {xs : List AV} {us : Array Value} {v : AV} {h' : Heap} (he : aBuiltin P h b ts xs = some (v, h')) (r : RelL (ctx F β w h) xs us.toList) :
    EvOk F β w h ((builtin b ts ty cs us).run P w) v h' := by
  have us_of : ∀ l, us.toList = l → us = l.toArray := fun l hl => by apply Array.ext'; simpa using hl
  cases b <;> simp only [aBuiltin, reduceCtorEq] at he
  case len =>
    split at he <;> try (cases he; done)
    rename_i t x xs' ht
    rw [Option.map_eq_some_iff] at he
    obtain ⟨v', hv, e⟩ := he
    simp only [Prod.mk.injEq] at e
    obtain ⟨rfl, rfl⟩ := e
    obtain ⟨y, ys, e1, ry, _⟩ := r
    have hus : us[0]? = some y := by rw [us_of _ e1]; rfl
    exact EvOk.of (m := Builtin.len_ ts ty us) (VOk.same s (run_aLen ht hus hv ry w)) (by simp [builtin])
  case min =>
    rw [Option.map_eq_some_iff] at he
    obtain ⟨v', hv, e⟩ := he
    simp only [Prod.mk.injEq] at e
    obtain ⟨rfl, rfl⟩ := e
    have := run_aMin (P := P) hv r ts ty w
    rw [← us_of _ rfl] at this
    exact EvOk.of (m := Builtin.min_ ts ty us) (VOk.same s this) (by simp [builtin])
  case max =>
    rw [Option.map_eq_some_iff] at he
    obtain ⟨v', hv, e⟩ := he
    simp only [Prod.mk.injEq] at e
    obtain ⟨rfl, rfl⟩ := e
    have := run_aMax (P := P) hv r ts ty w
    rw [← us_of _ rfl] at this
    exact EvOk.of (m := Builtin.max_ ts ty us) (VOk.same s this) (by simp [builtin])
  case append =>
    split at he <;> try (cases he; done)
    rename_i t t' x y ht ht'
    obtain ⟨u, us1, e1, ru, q, us2, e2, rq, e3⟩ := r
    subst e2
    have e3' : us2 = [] := e3
    subst e3'
    rw [us_of _ e1]
    have hts : ∃ rest, ts = #[t, t'] ++ rest := by
      obtain ⟨l⟩ := ts
      cases l with
      | nil => simp at ht
      | cons a l => cases l with
        | nil => simp at ht'
        | cons b l => simp at ht ht'; subst ht ht'; exact ⟨l.toArray, by apply Array.ext'; simp⟩
    have hA : Builtin.append_ ts ty [u, q].toArray = Builtin.append_ #[t, t'] ty #[u, q] := by
      simp only [Builtin.append_, ht, ht']
      rfl
    exact EvOk.of (m := Builtin.append_ ts ty [u, q].toArray) (by rw [hA]; exact run_aAppend s he ru rq) (by simp [builtin])
  case clear =>
    split at he <;> try (cases he; done)
    rename_i t x ht
    rw [Option.map_eq_some_iff] at he
    obtain ⟨h2, hh, e⟩ := he
    simp only [Prod.mk.injEq] at e
    obtain ⟨rfl, rfl⟩ := e
    obtain ⟨u, us1, e1, ru, e3⟩ := r
    have e3' : us1 = [] := e3
    subst e3'
    rw [us_of _ e1]
    exact EvOk.of (m := Builtin.clear_ ts ty [u].toArray) (run_aClear s ht hh ru) (by simp [builtin])
  case copy =>
    split at he <;> try (cases he; done)
    rename_i t x y ht
    obtain ⟨u, us1, e1, ru, q, us2, e2, rq, e3⟩ := r
    subst e2
    have e3' : us2 = [] := e3
    subst e3'
    rw [us_of _ e1]
    exact EvOk.of (m := Builtin.copy_ ts ty [u, q].toArray) (run_aCopy s ht he ru rq) (by simp [builtin])

theorem ev0_sound (s : St F β w h) {ρ : Operand → AV} {ρ' : Operand → Value} (hρ : ∀ x, Rel (ctx F β w h) (ρ x) (ρ' x)) {o : Oper} {v : AV} {h' : Heap} (he : ev0 P ρ o.op h = some (v, h')) :
    EvOk F β w h ((execOp ρ' o).run P w) v h' := by
  have pureOk : ∀ (m : Sem Value), (execOp ρ' o).run P w = (m.run P w).andThen (fun v' w' => .ok (.value v') w') → h = h' → (∃ v', m.run P w = .ok v' w ∧ Rel (ctx F β w h) v v') → EvOk F β w h ((execOp ρ' o).run P w) v h' := by
    rintro m hr rfl hm
    exact EvOk.of (VOk.same s hm) hr
  have mp : ∀ {x : Option AV}, x.map (·, h) = some (v, h') → x = some v ∧ h = h' := by
    intro x hx
    rw [Option.map_eq_some_iff] at hx
    obtain ⟨y, hy, e⟩ := hx
    simp only [Prod.mk.injEq] at e
    exact ⟨by rw [hy, e.1], e.2⟩
  cases hop : o.op <;> rw [hop] at he <;> simp only [ev0, reduceCtorEq] at he
  case move x =>
    simp only [Option.some.injEq, Prod.mk.injEq] at he
    exact pureOk (pure (ρ' x)) (by simp [execOp, hop]) he.2 ⟨_, rfl, he.1 ▸ hρ x⟩
  case assign x =>
    simp only [Option.some.injEq, Prod.mk.injEq] at he
    exact pureOk (pure (ρ' x)) (by simp [execOp, hop]) he.2 ⟨_, rfl, he.1 ▸ hρ x⟩
  case pick cc a b =>
    split at he <;> simp only [Option.some.injEq, Prod.mk.injEq, reduceCtorEq] at he
    rename_i t ht
    have hc := hρ cc
    rw [ht] at hc
    simp only [Rel] at hc
    refine pureOk (pure (if t then ρ' a else ρ' b)) (by simp [execOp, hop, hc, asBool]) he.2 ⟨_, rfl, ?_⟩
    rw [← he.1]
    cases t
    · exact hρ b
    · exact hρ a
  case alloc t =>
    rw [Option.map_eq_some_iff] at he
    obtain ⟨z, hz, e⟩ := he
    simp only [Prod.mk.injEq] at e
    obtain ⟨rfl, rfl⟩ := e
    exact EvOk.of (run_aAlloc s hz) (by simp [execOp, hop])
  case box t x =>
    rw [Option.map_eq_some_iff] at he
    obtain ⟨z, hz, e⟩ := he
    simp only [Prod.mk.injEq] at e
    obtain ⟨rfl, rfl⟩ := e
    exact EvOk.of (run_aBox (P := P) s hz (hρ x)) (by simp [execOp, hop])
  case build t parts =>
    obtain ⟨h1, h2⟩ := mp he
    exact pureOk (Instr.build t (parts.map fun (i, x) => (i, ρ' x))) (by simp [execOp, hop]) h2 (run_aBuild h1 (by simpa using relP_map hρ parts.toList) w)
  case buildSlice t len parts =>
    exact EvOk.of (m := Instr.buildSlice t len (parts.map fun (i, x) => (i, ρ' x))) (run_aBuildSlice s he (by simpa using relP_map hρ parts.toList)) (by simp [execOp, hop])
  case load t x =>
    obtain ⟨h1, h2⟩ := mp he
    exact pureOk (Instr.loadAt t (ρ' x)) (by simp [execOp, hop]) h2 (run_aLoad s h1 (hρ x))
  case store t a x =>
    rw [Option.map_eq_some_iff] at he
    obtain ⟨h2, hh, e⟩ := he
    simp only [Prod.mk.injEq] at e
    obtain ⟨rfl, rfl⟩ := e
    obtain ⟨w', h1, h3⟩ := run_aStore s hh (hρ a) (hρ x)
    exact ⟨.skip, undef, w', β, by simp [execOp, hop, h1], .inr ⟨rfl, rfl⟩, h3, ⟨#[], rfl, rfl⟩⟩
  case nilCheck x =>
    obtain ⟨h1, h2⟩ := mp he
    have hx := hρ x
    refine pureOk (pure (ρ' x)) ?_ h2 ⟨_, rfl, ?_⟩
    · cases hv : ρ x <;> rw [hv] at h1 hx <;> simp only [aNilCheck, reduceCtorEq] at h1 <;> simp only [Rel] at hx
      · simp [execOp, hop, hx.2]
      · obtain ⟨b, o', e, _⟩ := hx; simp [execOp, hop, e]
      · rename_i f caps
        obtain ⟨vs, e, _⟩ := hx
        cases f <;> simp at h1
        simp [execOp, hop, e]
    · cases hv : ρ x <;> rw [hv] at h1 hx <;> simp only [aNilCheck, reduceCtorEq, Option.some.injEq] at h1
      · subst h1; exact hx
      · subst h1; exact hx
      · rename_i f caps; cases f <;> simp at h1; subst h1; exact hx
  case binOp op t x y ty =>
    obtain ⟨h1, h2⟩ := mp he
    have hb := run_aBin (a := x) (b := y) h1 (hρ x) (hρ y) w
    obtain ⟨z', hz, rz⟩ := hb
    refine pureOk (eqGuard op t x y (ρ' x) (ρ' y) >>= fun _ => binOp op t (ρ' x) (ρ' y)) ?_ h2 ⟨z', hz, rz⟩
    have e : execOp ρ' o = (do pure (.value (← (eqGuard op t x y (ρ' x) (ρ' y) >>= fun _ => binOp op t (ρ' x) (ρ' y))))) := by simp [execOp, hop]
    rw [e, Sem.run_bind]
    rfl
  case unOp op t x =>
    obtain ⟨h1, h2⟩ := mp he
    exact pureOk (Op.unary op (ρ' x)) (by simp [execOp, hop]) h2 (run_aUn h1 (hρ x) w)
  case convert src dst x => exact EvOk.of (run_aConvert s he (hρ x)) (by simp [execOp, hop])
  case makeInterface t x =>
    obtain ⟨h1, h2⟩ := mp he
    exact pureOk (Instr.makeInterface t (ρ' x)) (by simp [execOp, hop]) h2 (run_aMakeIface h1 (hρ x) w)
  case makeFunc fn first caps =>
    split at he <;> simp only [Option.some.injEq, Prod.mk.injEq, reduceCtorEq] at he
    rename_i hf
    have hf' : first = #[] := by apply Array.ext'; simpa using hf
    refine pureOk (pure (.func fn #[] (caps.map ρ'))) (by simp [execOp, hop, Instr.makeFunc, hf']) he.2 ⟨_, rfl, ?_⟩
    rw [← he.1]
    exact ⟨_, rfl, by simpa using relL_map hρ caps.toList⟩
  case slice t x lo hi mx =>
    obtain ⟨h1, h2⟩ := mp he
    exact pureOk (Instr.sliceAt t (ρ' x) (lo.map ρ') (hi.map ρ') (mx.map ρ')) (by simp [execOp, hop]) h2 (run_aSlice h1 (hρ x) (relO_map hρ lo) (relO_map hρ hi) (relO_map hρ mx) w)
  case fieldAddr t x f =>
    obtain ⟨h1, h2⟩ := mp he
    exact pureOk (Instr.fieldAt t (ρ' x) f) (by simp [execOp, hop]) h2 (run_aFieldAddr h1 (hρ x) w)
  case field t x f =>
    obtain ⟨h1, h2⟩ := mp he
    exact pureOk (Instr.field t (ρ' x) f) (by simp [execOp, hop]) h2 (run_aField h1 (hρ x) w)
  case indexAddr t x i =>
    obtain ⟨h1, h2⟩ := mp he
    exact pureOk (Instr.indexAt t (ρ' x) (ρ' i)) (by simp [execOp, hop]) h2 (run_aIndexAddr h1 (hρ x) (hρ i) w)
  case index t x i =>
    obtain ⟨h1, h2⟩ := mp he
    exact pureOk (Instr.index t (ρ' x) (ρ' i)) (by simp [execOp, hop]) h2 (run_aIndex h1 (hρ x) (hρ i) w)
  case extract x i =>
    obtain ⟨h1, h2⟩ := mp he
    exact pureOk (Instr.extract (ρ' x) i) (by simp [execOp, hop]) h2 (run_aExtract h1 (hρ x) w)
  case call cc =>
    split at he <;> try (cases he; done)
    rename_i b hb
    have e : ∀ (cs : Array Bool), resolve ρ' cc o.type = (pure { target := .builtin b cc.argTypes o.type cs, args := cc.args.map ρ' } : Sem Deferred) → (execOp ρ' o).run P w = (builtin b cc.argTypes o.type cs (cc.args.map ρ')).run P w := by
      intro cs hcs
      simp only [execOp, hop, hcs, Sem.run_bind, Sem.run_pure, Result.andThen_ok, invoke]
    rw [e _ (by unfold resolve; rw [hb])]
    exact builtin_sound s he (by simpa using relL_map hρ cc.args.toList)

end
end Go.AH
