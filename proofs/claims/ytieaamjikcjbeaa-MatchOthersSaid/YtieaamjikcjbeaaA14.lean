/- Renaming of block numbers. No condition. -/
import Derived.Test.YtieaamjikcjbeaaA13
namespace Go.AH
set_option linter.unusedSimpArgs false
set_option linter.unusedVariables false
open Go

mutual
def ren (m : Nat → Nat) : AV → AV
  | .ptr id off => .ptr (m id) off
  | .iptr cs => .iptr (renL m cs)
  | .sl id off len cap => .sl (m id) off len cap
  | .gsl id len esz => .gsl (m id) len esz
  | .isl cs len => .isl (renL m cs) len
  | .map id => .map (m id)
  | .fn f caps => .fn f (renL m caps)
  | .ifc t v => .ifc t (ren m v)
  | .agg cs => .agg (renL m cs)
  | .tup vs => .tup (renL m vs)
  | .unk => .unk
  | .bool b => .bool b
  | .int k n => .int k n
  | .str s => .str s
  | .nilp => .nilp
  | .nilsl => .nilsl
  | .esl => .esl
  | .nilm => .nilm
  | .nilf => .nilf
  | .nili => .nili
def renL (m : Nat → Nat) : List AV → List AV
  | [] => []
  | x :: xs => ren m x :: renL m xs
end

theorem renL_eq (m : Nat → Nat) : ∀ (xs : List AV), renL m xs = xs.map (ren m)
  | [] => rfl
  | x :: xs => by rw [renL, renL_eq m xs]; rfl

/-- No slice, and no pointer, that leans on cells which stay. -/
def noIsl : AV → Bool
  | .iptr _ => false
  | .isl _ _ => false
  | .fn _ [] => true
  | .fn _ _ => false
  | .ifc _ _ => false
  | .agg cs => cs.all fun
    | .iptr _ | .isl _ _ | .fn _ _ | .ifc _ _ | .agg _ | .tup _ => false
    | _ => true
  | .tup cs => cs.all fun
    | .iptr _ | .isl _ _ | .fn _ _ | .ifc _ _ | .agg _ | .tup _ => false
    | _ => true
  | _ => true

def renB (m : Nat → Nat) : Blk → Blk
  | .row cs e wh => .row (renL m cs) e wh
  | .mp es clock => .mp (es.map fun x => (ren m x.1, ren m x.2.1, x.2.2)) clock
  | .siter s pos => .siter s pos

def noIslB : Blk → Bool
  | .row cs _ _ => cs.all noIsl
  | .mp es _ => es.all fun x => noIsl x.1 && noIsl x.2.1
  | .siter _ _ => true

/-- c0's ids are read by way of m in c: same world; what c0 may write c may. -/
structure Via (m : Nat → Nat) (c0 c : Ctx) : Prop where
  w : c0.w = c.w
  β : ∀ id, id < c0.n → c0.β id = c.β (m id)
  n : ∀ id, m id < c.n → id < c0.n
  N : ∀ b, c0.N b → c.N b

mutual
theorem Rel.via {m : Nat → Nat} {c0 c : Ctx} (h : Via m c0 c) : ∀ (x : AV) (v : Value), Rel c (ren m x) v → Rel c0 x v
  | .unk, _, _ => trivial
  | .bool _, _, r => r
  | .int _ _, _, r => r
  | .str _, _, r => r
  | .nilp, _, r => r
  | .ptr id off, _, r => ⟨h.n id r.1, by rw [h.β id (h.n id r.1)]; exact r.2⟩
  | .iptr cs, _, ⟨b, o, e, hb, hN, hr⟩ => ⟨b, o, e, by rw [h.w]; exact hb, fun k => hN (h.N b k), Row.via h cs b o hr⟩
  | .nilsl, _, r => r
  | .esl, _, r => r
  | .sl id off len cap, _, r => ⟨h.n id r.1, by rw [h.β id (h.n id r.1)]; exact r.2⟩
  | .gsl id len esz, _, ⟨r, cap', e, h1, h2, h3⟩ => ⟨h.n id r, cap', e, by rw [h.β id (h.n id r), h.w]; exact ⟨h1, h2, h3⟩⟩
  | .isl cs len, _, ⟨a, cap', e, hl, hr⟩ => ⟨a, cap', e, hl, hr.imp id fun ⟨b, o, ha, hb, hN, hr⟩ => ⟨b, o, ha, by rw [h.w]; exact hb, fun k => hN (h.N b k), Row.via h cs b o hr⟩⟩
  | .nilm, _, r => r
  | .map id, _, r => ⟨h.n id r.1, by rw [h.β id (h.n id r.1)]; exact r.2⟩
  | .nilf, _, r => r
  | .fn _ caps, _, ⟨vs, e, r⟩ => ⟨vs, e, RelL.via h caps _ r⟩
  | .nili, _, r => r
  | .ifc _ x, _, ⟨y, e, r⟩ => ⟨y, e, Rel.via h x y r⟩
  | .agg cs, _, ⟨vs, e, r⟩ => ⟨vs, e, RelL.via h cs _ r⟩
  | .tup cs, _, ⟨vs, e, r⟩ => ⟨vs, e, RelL.via h cs _ r⟩
theorem RelL.via {m : Nat → Nat} {c0 c : Ctx} (h : Via m c0 c) : ∀ (xs : List AV) (vs : List Value), RelL c (renL m xs) vs → RelL c0 xs vs
  | [], _, r => r
  | x :: xs, _, ⟨y, ys, e, r, rs⟩ => ⟨y, ys, e, Rel.via h x y r, RelL.via h xs ys rs⟩
theorem Row.via {m : Nat → Nat} {c0 c : Ctx} (h : Via m c0 c) : ∀ (xs : List AV) (b o : Nat), Row c (renL m xs) b o → Row c0 xs b o
  | [], _, _, _ => trivial
  | x :: xs, b, o, ⟨⟨y, e, r⟩, rs⟩ => ⟨⟨y, by rw [h.w]; exact e, Rel.via h x y r⟩, Row.via h xs b (o + 1) rs⟩
end

theorem RelE.via {m : Nat → Nat} {c0 c : Ctx} (h : Via m c0 c) : ∀ {es : List (AV × AV × Nat)} {l : List MapEntry}, RelE c (es.map fun x => (ren m x.1, ren m x.2.1, x.2.2)) l → RelE c0 es l
  | [], _, r => r
  | (_, _, _) :: _, _, ⟨e, r, h1, h2, h3, h4, h5⟩ => ⟨e, r, h1, Rel.via h _ _ h2, Rel.via h _ _ h3, h4, RelE.via h h5⟩

theorem BlkRel.via {m : Nat → Nat} {c0 c : Ctx} (h : Via m c0 c) : ∀ {b : Blk} {o : Obj}, BlkRel c (renB m b) o → BlkRel c0 b o
  | .row _ _ _, _, ⟨vs, fz, e, ⟨ys, zs, e2, r, w⟩, f⟩ => ⟨vs, fz, e, ⟨ys, zs, e2, RelL.via h _ _ r, w⟩, f⟩
  | .mp _ _, _, ⟨l, e, r⟩ => ⟨l, e, RelE.via h r⟩
  | .siter _ _, _, r => r

/-- The other way about: what is known of c0 is known of c. -/
structure Out (m : Nat → Nat) (c0 c : Ctx) : Prop where
  w : c0.w = c.w
  β : ∀ id, id < c0.n → c.β (m id) = c0.β id
  n : ∀ id, id < c0.n → m id < c.n
  N : ∀ b, c.N b → c0.N b

mutual
theorem Rel.out {m : Nat → Nat} {c0 c : Ctx} (h : Out m c0 c) : ∀ (x : AV) (v : Value), Rel c0 x v → Rel c (ren m x) v
  | .unk, _, _ => trivial
  | .bool _, _, r => r
  | .int _ _, _, r => r
  | .str _, _, r => r
  | .nilp, _, r => r
  | .ptr id off, _, r => ⟨h.n id r.1, by rw [h.β id r.1]; exact r.2⟩
  | .iptr cs, _, ⟨b, o, e, hb, hN, hr⟩ => ⟨b, o, e, by rw [← h.w]; exact hb, fun k => hN (h.N b k), Row.out h cs b o hr⟩
  | .nilsl, _, r => r
  | .esl, _, r => r
  | .sl id off len cap, _, r => ⟨h.n id r.1, by rw [h.β id r.1]; exact r.2⟩
  | .gsl id len esz, _, ⟨r, cap', e, h1, h2, h3⟩ => ⟨h.n id r, cap', e, by rw [h.β id r, ← h.w]; exact ⟨h1, h2, h3⟩⟩
  | .isl cs len, _, ⟨a, cap', e, hl, hr⟩ => ⟨a, cap', e, hl, hr.imp id fun ⟨b, o, ha, hb, hN, hr⟩ => ⟨b, o, ha, by rw [← h.w]; exact hb, fun k => hN (h.N b k), Row.out h cs b o hr⟩⟩
  | .nilm, _, r => r
  | .map id, _, r => ⟨h.n id r.1, by rw [h.β id r.1]; exact r.2⟩
  | .nilf, _, r => r
  | .fn _ caps, _, ⟨vs, e, r⟩ => ⟨vs, e, RelL.out h caps _ r⟩
  | .nili, _, r => r
  | .ifc _ x, _, ⟨y, e, r⟩ => ⟨y, e, Rel.out h x y r⟩
  | .agg cs, _, ⟨vs, e, r⟩ => ⟨vs, e, RelL.out h cs _ r⟩
  | .tup cs, _, ⟨vs, e, r⟩ => ⟨vs, e, RelL.out h cs _ r⟩
theorem RelL.out {m : Nat → Nat} {c0 c : Ctx} (h : Out m c0 c) : ∀ (xs : List AV) (vs : List Value), RelL c0 xs vs → RelL c (renL m xs) vs
  | [], _, r => r
  | x :: xs, _, ⟨y, ys, e, r, rs⟩ => ⟨y, ys, e, Rel.out h x y r, RelL.out h xs ys rs⟩
theorem Row.out {m : Nat → Nat} {c0 c : Ctx} (h : Out m c0 c) : ∀ (xs : List AV) (b o : Nat), Row c0 xs b o → Row c (renL m xs) b o
  | [], _, _, _ => trivial
  | x :: xs, b, o, ⟨⟨y, e, r⟩, rs⟩ => ⟨⟨y, by rw [← h.w]; exact e, Rel.out h x y r⟩, Row.out h xs b (o + 1) rs⟩
end

theorem RelE.out {m : Nat → Nat} {c0 c : Ctx} (h : Out m c0 c) : ∀ {es : List (AV × AV × Nat)} {l : List MapEntry}, RelE c0 es l → RelE c (es.map fun x => (ren m x.1, ren m x.2.1, x.2.2)) l
  | [], _, r => r
  | (_, _, _) :: _, _, ⟨e, r, h1, h2, h3, h4, h5⟩ => ⟨e, r, h1, Rel.out h _ _ h2, Rel.out h _ _ h3, h4, RelE.out h h5⟩

theorem BlkRel.out {m : Nat → Nat} {c0 c : Ctx} (h : Out m c0 c) : ∀ {b : Blk} {o : Obj}, BlkRel c0 b o → BlkRel c (renB m b) o
  | .row _ _ _, _, ⟨vs, fz, e, ⟨ys, zs, e2, r, w⟩, f⟩ => ⟨vs, fz, e, ⟨ys, zs, e2, RelL.out h _ _ r, w⟩, f⟩
  | .mp _ _, _, ⟨l, e, r⟩ => ⟨l, e, RelE.out h r⟩
  | .siter _ _, _, r => r

/-- Values that lean on no such cells don't ask which blocks may be written. -/
theorem Rel.noIsl1 {c c' : Ctx} (hw : c.w = c'.w) (hβ : c.β = c'.β) (hn : c.n = c'.n) {x : AV} {v : Value} (h : (match x with | .iptr _ | .isl _ _ | .fn _ _ | .ifc _ _ | .agg _ | .tup _ => false | _ => true) = true) (r : Rel c x v) : Rel c' x v := by
  cases x <;> simp at h <;> simp only [Rel] at r ⊢ <;> first | exact r | (rw [← hβ, ← hn]; exact r) | (rw [← hβ, ← hn, ← hw]; exact r) | skip

theorem RelL.noIsl1 {c c' : Ctx} (hw : c.w = c'.w) (hβ : c.β = c'.β) (hn : c.n = c'.n) : ∀ {xs : List AV} {vs : List Value}, (xs.all fun | .iptr _ | .isl _ _ | .fn _ _ | .ifc _ _ | .agg _ | .tup _ => false | _ => true) = true → RelL c xs vs → RelL c' xs vs
  | [], _, _, r => r
  | x :: xs, _, h, ⟨y, ys, e, r, rs⟩ => by
    rw [List.all_cons, Bool.and_eq_true] at h
    exact ⟨y, ys, e, Rel.noIsl1 hw hβ hn h.1 r, RelL.noIsl1 hw hβ hn h.2 rs⟩

theorem Rel.noIsl {c c' : Ctx} (hw : c.w = c'.w) (hβ : c.β = c'.β) (hn : c.n = c'.n) {x : AV} {v : Value} (h : AH.noIsl x = true) (r : Rel c x v) : Rel c' x v := by
  cases x
  case agg cs => obtain ⟨vs, e, r⟩ := r; exact ⟨vs, e, RelL.noIsl1 hw hβ hn h r⟩
  case tup cs => obtain ⟨vs, e, r⟩ := r; exact ⟨vs, e, RelL.noIsl1 hw hβ hn h r⟩
  case fn f caps =>
    cases caps with
    | nil => obtain ⟨vs, e, r⟩ := r; exact ⟨vs, e, r⟩
    | cons _ _ => simp [AH.noIsl] at h
  case iptr => simp [AH.noIsl] at h
  case isl => simp [AH.noIsl] at h
  case ifc => simp [AH.noIsl] at h
  all_goals exact Rel.noIsl1 hw hβ hn rfl r

theorem RelL.noIsl {c c' : Ctx} (hw : c.w = c'.w) (hβ : c.β = c'.β) (hn : c.n = c'.n) : ∀ {xs : List AV} {vs : List Value}, xs.all AH.noIsl = true → RelL c xs vs → RelL c' xs vs
  | [], _, _, r => r
  | x :: xs, _, h, ⟨y, ys, e, r, rs⟩ => by
    rw [List.all_cons, Bool.and_eq_true] at h
    exact ⟨y, ys, e, Rel.noIsl hw hβ hn h.1 r, RelL.noIsl hw hβ hn h.2 rs⟩

theorem RelE.noIsl {c c' : Ctx} (hw : c.w = c'.w) (hβ : c.β = c'.β) (hn : c.n = c'.n) : ∀ {es : List (AV × AV × Nat)} {l : List MapEntry}, (es.all fun x => AH.noIsl x.1 && AH.noIsl x.2.1) = true → RelE c es l → RelE c' es l
  | [], _, _, r => r
  | (_, _, _) :: _, _, h, ⟨e, r, h1, h2, h3, h4, h5⟩ => by
    rw [List.all_cons, Bool.and_eq_true, Bool.and_eq_true] at h
    exact ⟨e, r, h1, Rel.noIsl hw hβ hn h.1.1 h2, Rel.noIsl hw hβ hn h.1.2 h3, h4, RelE.noIsl hw hβ hn h.2 h5⟩

theorem BlkRel.noIsl {c c' : Ctx} (hw : c.w = c'.w) (hβ : c.β = c'.β) (hn : c.n = c'.n) : ∀ {b : Blk} {o : Obj}, noIslB b = true → BlkRel c b o → BlkRel c' b o
  | .row _ _ _, _, h, ⟨vs, fz, e, ⟨ys, zs, e2, r, w⟩, f⟩ => ⟨vs, fz, e, ⟨ys, zs, e2, RelL.noIsl hw hβ hn h r, w⟩, f⟩
  | .mp _ _, _, h, ⟨l, e, r⟩ => ⟨l, e, RelE.noIsl hw hβ hn h r⟩
  | .siter _ _, _, _, r => r

end Go.AH
