/- A block that is written no more is a value. No condition. -/
import Derived.Test.YtieaamjikcjbeaaA22
namespace Go.AH
set_option linter.unusedSimpArgs false
set_option linter.unusedVariables false
open Go

mutual
/-- A block that is written no more: what names it holds its cells instead. -/
def frz (id : Nat) (cs : List AV) : AV → AV
  | .gsl i len esz => if i = id then .isl cs len else .gsl i len esz
  | .sl i off len cap => if i = id then (if cap = some 0 then .sl i off len cap else .isl (cs.drop off) len) else .sl i off len cap
  | .ptr i off => if i = id then .iptr (cs.drop off) else .ptr i off
  | .iptr l => .iptr (frzL id cs l)
  | .isl l len => .isl (frzL id cs l) len
  | .fn f caps => .fn f (frzL id cs caps)
  | .ifc t v => .ifc t (frz id cs v)
  | .agg l => .agg (frzL id cs l)
  | .tup l => .tup (frzL id cs l)
  | x => x
def frzL (id : Nat) (cs : List AV) : List AV → List AV
  | [] => []
  | x :: xs => frz id cs x :: frzL id cs xs
end

def frzB (id : Nat) (cs : List AV) : Blk → Blk
  | .row l e wh => .row (frzL id cs l) e wh
  | .mp es clock => .mp (es.map fun x => (frz id cs x.1, frz id cs x.2.1, x.2.2)) clock
  | .siter s pos => .siter s pos

/-- Frozen in the slots and in the blocks; the block itself is forgotten. -/
def frzH (id : Nat) (cs : List AV) : Heap → Heap
  | [] => []
  | none :: h => none :: frzH id cs h
  | some b :: h => some (frzB id cs b) :: frzH id cs h

/-- What is known when the block is given up. -/
structure FrzOk (id : Nat) (cs : List AV) (c c' : Ctx) : Prop where
  le : c.le c'
  lt : c.β id < c.w.heap.size
  own : ¬ c'.N (c.β id)
  row : Row c cs (c.β id) 0
  same : c'.w = c.w

theorem Row.same {c c' : Ctx} (h : c.le c') (e : c'.w = c.w) : ∀ (l : List AV) (b o : Nat), Row c l b o → Row c' l b o
  | [], _, _, _ => trivial
  | x :: xs, b, o, ⟨⟨y, ey, r⟩, rs⟩ => ⟨⟨y, by rw [e]; exact ey, Rel.le h x y r⟩, Row.same h e xs b (o + 1) rs⟩

theorem FrzOk.old {id : Nat} {cs : List AV} {c c' : Ctx} (k : FrzOk id cs c c') (o : Nat) : Row c' (cs.drop o) (c.β id) o := by
  have := k.row.drop o
  rw [Nat.zero_add] at this
  exact Row.same k.le k.same _ _ _ this

mutual
theorem Rel.frz {id : Nat} {cs : List AV} {c c' : Ctx} (k : FrzOk id cs c c') : ∀ (x : AV) (v : Value), Rel c x v → Rel c' (frz id cs x) v
  | .gsl i len esz, v, r => by
    rw [Go.AH.frz]
    split
    · rename_i e; subst e
      obtain ⟨hid, cap', e, rfl, hl, hs⟩ := r
      refine ⟨_, cap', rfl, hl, .inr ⟨c.β i, 0, rfl, Nat.lt_of_lt_of_le k.lt k.le.size, k.own, k.old 0⟩⟩
    · exact Rel.le k.le _ _ r
  | .sl i off len cap, v, r => by
    rw [Go.AH.frz]
    split
    · split
      · exact Rel.le k.le _ _ r
      · rename_i e hc; subst e
        obtain ⟨hid, o, cap', rfl, ho, hl, hx⟩ := r
        refine ⟨_, cap', rfl, hl, ?_⟩
        rcases ho with rfl | rfl
        · refine .inr ⟨c.β i, o, rfl, Nat.lt_of_lt_of_le k.lt k.le.size, k.own, k.old o⟩
        · exact .inl (by omega)
    · exact Rel.le k.le _ _ r
  | .ptr i off, v, r => by
    rw [Go.AH.frz]
    split
    · rename_i e; subst e
      obtain ⟨hid, rfl⟩ := r
      refine ⟨c.β i, off, rfl, Nat.lt_of_lt_of_le k.lt k.le.size, k.own, k.old off⟩
    · exact Rel.le k.le _ _ r
  | .iptr l, v, ⟨b, o, e, hb, hN, hr⟩ => ⟨b, o, e, Nat.lt_of_lt_of_le hb k.le.size, fun q => (k.le.N b q).elim hN (fun q => by omega), Row.frz k l b o hb hN hr⟩
  | .isl l len, v, ⟨a, cap', e, hl, hr⟩ => ⟨a, cap', e, hl, hr.imp _root_.id fun ⟨b, o, ha, hb, hN, hr⟩ => ⟨b, o, ha, Nat.lt_of_lt_of_le hb k.le.size, fun q => (k.le.N b q).elim hN (fun q => by omega), Row.frz k l b o hb hN hr⟩⟩
  | .fn f caps, v, ⟨vs, e, r⟩ => ⟨vs, e, RelL.frz k caps _ r⟩
  | .ifc t x, v, ⟨y, e, r⟩ => ⟨y, e, Rel.frz k x y r⟩
  | .agg l, v, ⟨vs, e, r⟩ => ⟨vs, e, RelL.frz k l _ r⟩
  | .tup l, v, ⟨vs, e, r⟩ => ⟨vs, e, RelL.frz k l _ r⟩
  | .unk, _, r => r
  | .bool _, _, r => r
  | .int _ _, _, r => r
  | .str _, _, r => r
  | .nilp, _, r => r
  | .nilsl, _, r => r
  | .esl, _, r => r
  | .nilm, _, r => r
  | .map i, v, r => Rel.le k.le (.map i) v r
  | .nilf, _, r => r
  | .nili, _, r => r
theorem RelL.frz {id : Nat} {cs : List AV} {c c' : Ctx} (k : FrzOk id cs c c') : ∀ (xs : List AV) (vs : List Value), RelL c xs vs → RelL c' (frzL id cs xs) vs
  | [], _, r => r
  | x :: xs, _, ⟨y, ys, e, r, rs⟩ => ⟨y, ys, e, Rel.frz k x y r, RelL.frz k xs ys rs⟩
theorem Row.frz {id : Nat} {cs : List AV} {c c' : Ctx} (k : FrzOk id cs c c') : ∀ (xs : List AV) (b o : Nat), b < c.w.heap.size → ¬ c.N b → Row c xs b o → Row c' (frzL id cs xs) b o
  | [], _, _, _, _, _ => trivial
  | x :: xs, b, o, hb, hN, ⟨⟨y, e, r⟩, rs⟩ => ⟨⟨y, k.le.keep b o y hb hN e, Rel.frz k x y r⟩, Row.frz k xs b (o + 1) hb hN rs⟩
end

theorem RelE.frz {id : Nat} {cs : List AV} {c c' : Ctx} (k : FrzOk id cs c c') : ∀ {es : List (AV × AV × Nat)} {l : List MapEntry}, RelE c es l → RelE c' (es.map fun x => (Go.AH.frz id cs x.1, Go.AH.frz id cs x.2.1, x.2.2)) l
  | [], _, r => r
  | (_, _, _) :: _, _, ⟨e, r, h1, h2, h3, h4, h5⟩ => ⟨e, r, h1, Rel.frz k _ _ h2, Rel.frz k _ _ h3, h4, RelE.frz k h5⟩

theorem BlkRel.frz {id : Nat} {cs : List AV} {c c' : Ctx} (k : FrzOk id cs c c') : ∀ {b : Blk} {o : Obj}, BlkRel c b o → BlkRel c' (frzB id cs b) o
  | .row _ _ _, _, ⟨vs, fz, e, ⟨ys, zs, e2, r, w⟩, f⟩ => ⟨vs, fz, e, ⟨ys, zs, e2, RelL.frz k _ _ r, w⟩, f⟩
  | .mp _ _, _, ⟨l, e, r⟩ => ⟨l, e, RelE.frz k r⟩
  | .siter _ _, _, r => r

theorem frzH_get (id : Nat) (cs : List AV) : ∀ (h : Heap) (i : Nat) (b : Blk), (frzH id cs h)[i]? = some (some b) → ∃ b0, h[i]? = some (some b0) ∧ b = frzB id cs b0
  | [], i, b, hb => by simp [frzH] at hb
  | none :: h, 0, b, hb => by simp [frzH] at hb
  | some x :: h, 0, b, hb => by simp [frzH] at hb; exact ⟨x, rfl, hb.symm⟩
  | none :: h, i + 1, b, hb => by simpa using frzH_get id cs h i b (by simpa [frzH] using hb)
  | some x :: h, i + 1, b, hb => by simpa using frzH_get id cs h i b (by simpa [frzH] using hb)
theorem frzH_length (id : Nat) (cs : List AV) : ∀ (h : Heap), (frzH id cs h).length = h.length
  | [] => rfl
  | none :: h => by simp [frzH, frzH_length id cs h]
  | some _ :: h => by simp [frzH, frzH_length id cs h]

section
variable {P : Program} {n0 : Nat} {T : List AV} {h : Heap}

theorem set_none_get {h : Heap} {id i : Nat} {b : Blk} (hb : (h.set id none)[i]? = some (some b)) : i ≠ id ∧ h[i]? = some (some b) := by
  rw [List.getElem?_set] at hb
  split at hb
  · split at hb <;> simp at hb
  · exact ⟨fun e => by subst e; contradiction, hb⟩

theorem St.freeze {F : Nat → Prop} {β : Nat → Nat} {w : World} (s : St F β w h) {id : Nat} {cs : List AV} {e : TypeId} {wh : Bool} (hr : rowAt h id = some (cs, e, wh)) :
    FrzOk id cs (ctx F β w h) (ctx F β w (frzH id cs (h.set id none))) ∧ Goes F β w h β w (frzH id cs (h.set id none)) := by
  obtain ⟨hb, hid, _⟩ := s.rowOf hr
  have sub : ∀ b, Own β (frzH id cs (h.set id none)) b → Own β h b ∧ b ≠ β id := by
    rintro b ⟨i, blk, hi, rfl⟩
    obtain ⟨b0, h1, _⟩ := frzH_get id cs _ i blk hi
    obtain ⟨h2, h3⟩ := set_none_get h1
    exact ⟨⟨i, b0, h3, rfl⟩, fun q => h2 (s.inj _ _ _ _ h3 hb q)⟩
  have st : Step (Own β h) w w (Own β (frzH id cs (h.set id none))) := ⟨rfl, rfl, rfl, Nat.le_refl _, fun _ _ _ => rfl, fun _ _ => rfl, fun b q => .inl (sub b q).1⟩
  have hlen : (frzH id cs (h.set id none)).length = h.length := by rw [frzH_length, List.length_set]
  have le := s.leOf (β' := β) (h' := frzH id cs (h.set id none)) st (by rw [hlen]; exact Nat.le_refl _) (fun _ _ => rfl)
  have k : FrzOk id cs (ctx F β w h) (ctx F β w (frzH id cs (h.set id none))) := ⟨le, s.lt id hid, fun q => q.elim (fun q => (sub _ q).2 rfl) (fun q => s.sep _ q ⟨id, _, hb, rfl⟩), s.row hr, rfl⟩
  refine ⟨k, ⟨fun i blk hi => ?_, fun i j bi bj hi hj q => ?_, fun b hF q => s.sep b hF (sub b q).1, s.flt, fun i hi => s.lt i (by rw [hlen] at hi; exact hi)⟩, st, by rw [hlen]; exact Nat.le_refl _, fun _ _ => rfl⟩
  · obtain ⟨b0, h1, rfl⟩ := frzH_get id cs _ i blk hi
    obtain ⟨h2, h3⟩ := set_none_get h1
    obtain ⟨o, ho, hrel⟩ := s.live i b0 h3
    exact ⟨o, ho, BlkRel.frz k hrel⟩
  · obtain ⟨b0, h1, rfl⟩ := frzH_get id cs _ i bi hi
    obtain ⟨c0, k1, rfl⟩ := frzH_get id cs _ j bj hj
    exact s.inj _ _ _ _ (set_none_get h1).2 (set_none_get k1).2 q

/-- The walk goes on with a block that is written no more. -/
theorem aW_freeze {c : Code} {K : AExit → List AV → Heap → Prop} (id : Nat) {cs : List AV} {e : TypeId} {wh : Bool} (hr : rowAt h id = some (cs, e, wh)) (a : aW P n0 c (frzL id cs T) (frzH id cs (h.set id none)) K) : aW P n0 c T h K := by
  intro F β w act D hn s r hd
  obtain ⟨k, g⟩ := s.freeze hr
  refine wp_mono (a F _ w act D (Nat.le_trans hn g.len) g.st (RelL.frz k _ _ r) hd) ?_
  rintro e a' w' ⟨x, β', T', h', hk, hg, he, hr, hd'⟩
  exact ⟨x, β', T', h', hk, (g.gets hn).trans hg, he, hr, hd'⟩
end
attribute [go_sem] frz frzL frzH frzB
end Go.AH
