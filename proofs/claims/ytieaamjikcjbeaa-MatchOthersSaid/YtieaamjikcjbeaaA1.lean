/- Abstract values and what they say of values. No condition. -/
import Derived.Deep.LoopGhost
import Derived.Orders
import Derived.Below
namespace Go.AH
set_option linter.unusedSimpArgs false
set_option linter.unusedVariables false
open Go

/-- Abstract values. -/
inductive AV where
  | unk
  | bool (b : Bool)
  | int (k : IntKind) (n : Int)
  | str (s : List UInt8)
  | nilp
  | ptr (id off : Nat)
  | iptr (cs : List AV)
  | nilsl
  | esl
  | sl (id off len : Nat) (cap : Option Nat)
  | gsl (id len esz : Nat)
  | isl (cs : List AV) (len : Nat)
  | nilm
  | map (id : Nat)
  | nilf
  | fn (f : Fn) (caps : List AV)
  | nili
  | ifc (t : TypeId) (v : AV)
  | agg (cs : List AV)
  | tup (vs : List AV)
  deriving Inhabited

/-- How ids are read: the world, which block an id names, how many ids there are, which blocks may yet be written. -/
structure Ctx where
  w : World
  β : Nat → Nat
  n : Nat
  N : Nat → Prop

mutual
def Rel (c : Ctx) : AV → Value → Prop
  | .unk, _ => True
  | .bool b, v => v = .bool b
  | .int k n, v => v = .int k n
  | .str s, v => v = .string ⟨s.toArray⟩
  | .nilp, v => v = .pointer none
  | .ptr id off, v => id < c.n ∧ v = .pointer (some ⟨c.β id, off, none⟩)
  | .iptr cs, v => ∃ b o, v = .pointer (some ⟨b, o, none⟩) ∧ b < c.w.heap.size ∧ ¬ c.N b ∧ Row c cs b o
  | .nilsl, v => v = .slice none 0 0
  | .esl, v => ∃ a, v = .slice a 0 0
  | .sl id off len cap, v => id < c.n ∧ ∃ o cap', v = .slice (some ⟨c.β id, o, none⟩) len cap' ∧ (o = off ∨ cap' = 0) ∧ len ≤ cap' ∧ (∀ x, cap = some x → cap' = x)
  | .gsl id len esz, v => id < c.n ∧ ∃ cap' e, v = .slice (some ⟨c.β id, 0, none⟩) len cap' ∧ len ≤ cap' ∧ c.w.shape? (c.β id) = some (e, cap' * esz)
  | .isl cs len, v => ∃ a cap', v = .slice a len cap' ∧ len ≤ cap' ∧ (len = 0 ∨ ∃ b o, a = some ⟨b, o, none⟩ ∧ b < c.w.heap.size ∧ ¬ c.N b ∧ Row c cs b o)
  | .nilm, v => v = .map none
  | .map id, v => id < c.n ∧ v = .map (some (c.β id))
  | .nilf, v => v = .nilFunc
  | .fn f caps, v => ∃ vs, v = .func f #[] vs ∧ RelL c caps vs.toList
  | .nili, v => v = .nilIface
  | .ifc t x, v => ∃ y, v = .iface t y ∧ Rel c x y
  | .agg cs, v => ∃ vs, v = .agg vs ∧ RelL c cs vs.toList
  | .tup cs, v => ∃ vs, v = .tuple vs ∧ RelL c cs vs.toList
def RelL (c : Ctx) : List AV → List Value → Prop
  | [], vs => vs = []
  | x :: xs, vs => ∃ y ys, vs = y :: ys ∧ Rel c x y ∧ RelL c xs ys
def Row (c : Ctx) : List AV → Nat → Nat → Prop
  | [], _, _ => True
  | x :: xs, b, o => (∃ y, c.w.cell? ⟨b, o, none⟩ = some y ∧ Rel c x y) ∧ Row c xs b (o + 1)
end

/-- The readings of c hold in c'. -/
structure Ctx.le (c c' : Ctx) : Prop where
  n : c.n ≤ c'.n
  β : ∀ id, id < c.n → c'.β id = c.β id
  lt : ∀ id, id < c.n → c.β id < c.w.heap.size
  size : c.w.heap.size ≤ c'.w.heap.size
  keep : ∀ b o y, b < c.w.heap.size → ¬ c.N b → c.w.cell? ⟨b, o, none⟩ = some y → c'.w.cell? ⟨b, o, none⟩ = some y
  shape : ∀ b, b < c.w.heap.size → c'.w.shape? b = c.w.shape? b
  N : ∀ b, c'.N b → c.N b ∨ c.w.heap.size ≤ b

theorem cell_of_block {w w' : World} {b o : Nat} (h : w'.heap[b]? = w.heap[b]?) : w'.cell? ⟨b, o, none⟩ = w.cell? ⟨b, o, none⟩ :=
  World.cell?_of_block (w := w) h

mutual
theorem Rel.le {c c' : Ctx} (h : c.le c') : ∀ (x : AV) (v : Value), Rel c x v → Rel c' x v
  | .unk, _, _ => trivial
  | .bool _, _, r => r
  | .int _ _, _, r => r
  | .str _, _, r => r
  | .nilp, _, r => r
  | .ptr id off, _, r => ⟨Nat.lt_of_lt_of_le r.1 h.n, by rw [h.β id r.1]; exact r.2⟩
  | .iptr cs, _, ⟨b, o, e, hb, hN, hr⟩ => ⟨b, o, e, Nat.lt_of_lt_of_le hb h.size, fun k => (h.N b k).elim hN (fun q => by omega), Row.le h cs b o hb hN hr⟩
  | .nilsl, _, r => r
  | .esl, _, r => r
  | .sl id off len cap, _, r => ⟨Nat.lt_of_lt_of_le r.1 h.n, by rw [h.β id r.1]; exact r.2⟩
  | .gsl id len esz, _, ⟨r, cap', e, h1, h2, h3⟩ => ⟨Nat.lt_of_lt_of_le r h.n, cap', e, by rw [h.β id r]; exact ⟨h1, h2, by rw [h.shape _ (h.lt id r)]; exact h3⟩⟩
  | .isl cs len, _, ⟨a, cap', e, hl, hr⟩ => ⟨a, cap', e, hl, hr.imp id fun ⟨b, o, ha, hb, hN, hr⟩ => ⟨b, o, ha, Nat.lt_of_lt_of_le hb h.size, fun k => (h.N b k).elim hN (fun q => by omega), Row.le h cs b o hb hN hr⟩⟩
  | .nilm, _, r => r
  | .map id, _, r => ⟨Nat.lt_of_lt_of_le r.1 h.n, by rw [h.β id r.1]; exact r.2⟩
  | .nilf, _, r => r
  | .fn _ caps, _, ⟨vs, e, r⟩ => ⟨vs, e, RelL.le h caps _ r⟩
  | .nili, _, r => r
  | .ifc _ x, _, ⟨y, e, r⟩ => ⟨y, e, Rel.le h x y r⟩
  | .agg cs, _, ⟨vs, e, r⟩ => ⟨vs, e, RelL.le h cs _ r⟩
  | .tup cs, _, ⟨vs, e, r⟩ => ⟨vs, e, RelL.le h cs _ r⟩
theorem RelL.le {c c' : Ctx} (h : c.le c') : ∀ (xs : List AV) (vs : List Value), RelL c xs vs → RelL c' xs vs
  | [], _, r => r
  | x :: xs, _, ⟨y, ys, e, r, rs⟩ => ⟨y, ys, e, Rel.le h x y r, RelL.le h xs ys rs⟩
theorem Row.le {c c' : Ctx} (h : c.le c') : ∀ (xs : List AV) (b o : Nat), b < c.w.heap.size → ¬ c.N b → Row c xs b o → Row c' xs b o
  | [], _, _, _, _, _ => trivial
  | x :: xs, b, o, hb, hN, ⟨⟨y, e, r⟩, rs⟩ => ⟨⟨y, h.keep b o y hb hN e, Rel.le h x y r⟩, Row.le h xs b (o + 1) hb hN rs⟩
end

/-! ### Rows of values -/
theorem RelL.length {c : Ctx} : ∀ {xs : List AV} {vs : List Value}, RelL c xs vs → xs.length = vs.length
  | [], _, r => by cases r; rfl
  | _ :: _, _, ⟨_, _, e, _, rs⟩ => by cases e; simp [RelL.length rs]

theorem RelL.get {c : Ctx} : ∀ {xs : List AV} {vs : List Value}, RelL c xs vs → ∀ {i : Nat} {x : AV}, xs[i]? = some x → ∃ y, vs[i]? = some y ∧ Rel c x y
  | [], _, _, _, _, h => by simp at h
  | _ :: _, _, ⟨y, ys, e, r, rs⟩, 0, x, h => by cases e; simp at h; exact ⟨y, rfl, h ▸ r⟩
  | _ :: _, _, ⟨y, ys, e, r, rs⟩, i + 1, x, h => by cases e; simp at h; simpa using RelL.get rs h

theorem RelL.getR {c : Ctx} : ∀ {xs : List AV} {vs : List Value}, RelL c xs vs → ∀ {i : Nat} {y : Value}, vs[i]? = some y → ∃ x, xs[i]? = some x ∧ Rel c x y
  | [], _, r, _, _, h => by cases r; simp at h
  | _ :: _, _, ⟨y, ys, e, r, rs⟩, 0, x, h => by cases e; simp at h; exact ⟨_, rfl, h ▸ r⟩
  | _ :: _, _, ⟨y, ys, e, r, rs⟩, i + 1, x, h => by cases e; simp at h; simpa using RelL.getR rs h

theorem RelL.set {c : Ctx} {x : AV} {y : Value} (h : Rel c x y) : ∀ {xs : List AV} {vs : List Value}, RelL c xs vs → ∀ (i : Nat), RelL c (xs.set i x) (vs.set i y)
  | [], _, r, _ => by cases r; exact rfl
  | _ :: _, _, ⟨_, ys, e, _, rs⟩, 0 => by cases e; exact ⟨_, _, rfl, h, rs⟩
  | _ :: _, _, ⟨_, ys, e, r, rs⟩, i + 1 => by cases e; exact ⟨_, _, rfl, r, RelL.set h rs i⟩

theorem RelL.append {c : Ctx} : ∀ {xs xs' : List AV} {vs vs' : List Value}, RelL c xs vs → RelL c xs' vs' → RelL c (xs ++ xs') (vs ++ vs')
  | [], _, _, _, r, r' => by cases r; exact r'
  | _ :: _, _, _, _, ⟨_, ys, e, r, rs⟩, r' => by cases e; exact ⟨_, _, rfl, r, RelL.append rs r'⟩

theorem RelL.take {c : Ctx} : ∀ {xs : List AV} {vs : List Value}, RelL c xs vs → ∀ n, RelL c (xs.take n) (vs.take n)
  | [], _, r, n => by cases r; simp [RelL]
  | _ :: _, _, ⟨_, _, e, _, _⟩, 0 => by cases e; exact rfl
  | _ :: _, _, ⟨_, ys, e, r, rs⟩, n + 1 => by cases e; exact ⟨_, _, rfl, r, RelL.take rs n⟩

theorem RelL.drop {c : Ctx} : ∀ {xs : List AV} {vs : List Value}, RelL c xs vs → ∀ n, RelL c (xs.drop n) (vs.drop n)
  | [], _, r, n => by cases r; simp [RelL]
  | _ :: _, _, ⟨_, _, e, r, rs⟩, 0 => by cases e; exact ⟨_, _, rfl, r, rs⟩
  | _ :: _, _, ⟨_, ys, e, r, rs⟩, n + 1 => by cases e; exact RelL.drop rs n

theorem RelL.replicate {c : Ctx} {x : AV} {y : Value} (h : Rel c x y) : ∀ n, RelL c (List.replicate n x) (List.replicate n y)
  | 0 => rfl
  | n + 1 => ⟨_, _, rfl, h, RelL.replicate h n⟩

theorem relL_unk {c : Ctx} : ∀ (vs : List Value), RelL c (List.replicate vs.length .unk) vs
  | [] => rfl
  | _ :: vs => ⟨_, _, rfl, trivial, relL_unk vs⟩

theorem relL_of_get {c : Ctx} : ∀ {xs : List AV} {vs : List Value}, xs.length = vs.length → (∀ (i : Nat) (x : AV) (y : Value), xs[i]? = some x → vs[i]? = some y → Rel c x y) → RelL c xs vs
  | [], [], _, _ => rfl
  | [], _ :: _, h, _ => by simp at h
  | _ :: _, [], h, _ => by simp at h
  | x :: xs, v :: vs, h, hr => ⟨_, _, rfl, hr 0 x v rfl rfl, relL_of_get (by simpa using h) fun i a b ha hb => hr (i + 1) a b (by simpa using ha) (by simpa using hb)⟩

theorem Row.get {c : Ctx} : ∀ {xs : List AV} {b o : Nat}, Row c xs b o → ∀ {i : Nat} {x : AV}, xs[i]? = some x → ∃ y, c.w.cell? ⟨b, o + i, none⟩ = some y ∧ Rel c x y
  | [], _, _, _, _, _, h => by simp at h
  | _ :: _, _, _, ⟨⟨y, e, r⟩, rs⟩, 0, x, h => by simp at h; exact ⟨y, e, h ▸ r⟩
  | _ :: _, b, o, ⟨_, rs⟩, i + 1, x, h => by
    simp at h
    have := Row.get rs h
    rwa [show o + 1 + i = o + (i + 1) by omega] at this

theorem row_of_get {c : Ctx} : ∀ {xs : List AV} {b o : Nat}, (∀ (i : Nat) (x : AV), xs[i]? = some x → ∃ y, c.w.cell? ⟨b, o + i, none⟩ = some y ∧ Rel c x y) → Row c xs b o
  | [], _, _, _ => trivial
  | x :: xs, b, o, h => ⟨h 0 x rfl, row_of_get fun i a ha => by
    have := h (i + 1) a (by simpa using ha)
    rwa [show o + (i + 1) = o + 1 + i by omega] at this⟩

theorem Row.drop {c : Ctx} {xs : List AV} {b o : Nat} (h : Row c xs b o) (n : Nat) : Row c (xs.drop n) b (o + n) :=
  row_of_get fun i x hx => by
    rw [List.getElem?_drop] at hx
    have := h.get hx
    rwa [show o + n + i = o + (n + i) by omega]

theorem Row.take {c : Ctx} {xs : List AV} {b o : Nat} (h : Row c xs b o) (n : Nat) : Row c (xs.take n) b o :=
  row_of_get fun i x hx => by
    rw [List.getElem?_take] at hx
    split at hx
    · exact h.get hx
    · simp at hx

theorem row_sub {c : Ctx} {xs ys : List AV} {b o : Nat} (h : Row c ys b o) (hs : ∀ (i : Nat) x, xs[i]? = some x → ys[i]? = some x ∨ x = .unk ∧ i < ys.length) : Row c xs b o :=
  row_of_get fun i x hx => by
    rcases hs i x hx with h1 | ⟨rfl, h2⟩
    · exact h.get h1
    · obtain ⟨y, e, _⟩ := h.get (List.getElem?_eq_getElem h2)
      exact ⟨y, e, trivial⟩

end Go.AH
