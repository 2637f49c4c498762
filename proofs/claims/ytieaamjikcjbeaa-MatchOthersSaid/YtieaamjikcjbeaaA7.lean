/- Filling and storing cells is sound. No condition. -/
import Derived.Test.YtieaamjikcjbeaaA6
import Derived.Laws.Tables
namespace Go.AH
set_option linter.unusedSimpArgs false
set_option linter.unusedVariables false
open Go

def tbytes (P : Program) (t : TypeId) : Option Nat := (P.info? t).map (·.bytes)

/-- A text's bytes as cells. -/
def bcells (s : List UInt8) : List AV := s.map fun b => .int .u8 b.toNat

section
variable {P : Program} {c : Ctx}

theorem zeroCells_rel {t : TypeId} {z : List AV} (h : zeroCellsOf P t = some z) : ∃ i zv, P.info? t = some i ∧ i.zero = some zv ∧ RelL c z zv.cells.toList := by
  unfold zeroCellsOf at h
  rw [Option.map_eq_some_iff] at h
  obtain ⟨zv, h1, rfl⟩ := h
  rw [Option.bind_eq_some_iff] at h1
  obtain ⟨i, hi, hz⟩ := h1
  exact ⟨i, zv, hi, hz, relL_ofConst1 c _⟩

theorem RelL.setMany : ∀ {vs : List AV} {us : List Value} {xs : List AV} {ys : List Value}, RelL c xs ys → RelL c vs us → ∀ off, RelL c (setMany xs off vs) (Go.AH.setMany ys off us)
  | [], _, _, _, r, rv, _ => by cases rv; exact r
  | _ :: _, _, _, _, r, ⟨y, ys, e, rv, rvs⟩, off => by cases e; exact RelL.setMany (r.set rv off) rvs (off + 1)

theorem setMany_length {α : Type} : ∀ (vs : List α) (xs : List α) (off : Nat), (setMany xs off vs).length = xs.length
  | [], _, _ => rfl
  | _ :: vs, xs, off => by rw [setMany, setMany_length vs]; simp

theorem fold_setMany (off : Nat) : ∀ (vs : List Value) (k : Nat) (cs : Array Value), ((vs.zipIdx k).foldl (fun cs x => cs.setIfInBounds (off + x.2) x.1) cs).toList = setMany cs.toList (off + k) vs
  | [], _, _ => rfl
  | v :: vs, k, cs => by
    rw [List.zipIdx_cons, List.foldl_cons, fold_setMany off vs (k + 1)]
    simp [setMany, Nat.add_assoc]

def RelP (c : Ctx) : List (Nat × AV) → List (Nat × Value) → Prop
  | [], l => l = []
  | (i, x) :: xs, l => ∃ y ys, l = (i, y) :: ys ∧ Rel c x y ∧ RelP c xs ys

theorem fill_rel {place : Nat → Option (Nat × Nat)} : ∀ {parts : List (Nat × AV)} {parts' : List (Nat × Value)} {cells out : List AV} {vs : Array Value}, aFill place cells parts = some out → RelP c parts parts' → RelL c cells vs.toList →
    ∃ out', Instr.fill place vs parts' = some out' ∧ RelL c out out'.toList
  | [], _, _, _, vs, h, rp, r => by cases rp; simp [aFill] at h; subst h; exact ⟨vs, rfl, r⟩
  | (i, x) :: rest, _, cells, out, vs, h, ⟨y, ys, e, ry, rp⟩, r => by
    subst e
    unfold aFill at h
    split at h <;> try (cases h; done)
    rename_i off size vc hp hc
    split at h <;> try (cases h; done)
    rename_i hsz
    have rc := acells_rel hc ry
    have hl := rc.length
    have hl2 := r.length
    obtain ⟨out', h1, h2⟩ := fill_rel (vs := y.cells.zipIdx.foldl (fun cs x => cs.setIfInBounds (off + x.2) x.1) vs) h rp (by
      have e := fold_setMany off y.cells.toList 0 vs
      rw [Nat.add_zero] at e
      rw [← Array.foldl_toList, Array.toList_zipIdx, e]
      exact r.setMany rc off)
    refine ⟨out', ?_, h2⟩
    simp only [Instr.fill, hp]
    rw [if_neg]
    · exact h1
    · simp at hl hl2 ⊢
      omega

theorem places_of : ∀ {fs : List Field} {pl : List (Nat × Nat)}, fieldPlaces P fs = some pl → fs.mapM (fun f => (P.info? f.type).map fun i => (f.offset, i.size)) = some pl
  | [], pl, h => by simp [fieldPlaces] at h; subst h; simp
  | f :: fs, pl, h => by
    unfold fieldPlaces at h
    split at h <;> simp only [Option.some.injEq, reduceCtorEq] at h
    rename_i n l hn hl
    subst h
    unfold tsz at hn
    rw [Option.map_eq_some_iff] at hn
    obtain ⟨i, hi, rfl⟩ := hn
    simp [List.mapM_cons, hi, places_of hl]

theorem run_aBuild {t : TypeId} {parts : List (Nat × AV)} {parts' : Array (Nat × Value)} {v : AV} (h : aBuild P t parts = some v) (rp : RelP c parts parts'.toList) (w : World) :
    ∃ v', (Instr.build t parts').run P w = .ok v' w ∧ Rel c v v' := by
  unfold aBuild at h
  split at h <;> try (cases h; done)
  rename_i z hz
  obtain ⟨i, zv, hi, hzv, rz⟩ := zeroCells_rel (c := c) hz
  split at h <;> try (cases h; done)
  · rename_i fs hu
    split at h <;> try (cases h; done)
    rename_i pl hpl
    rw [Option.map_eq_some_iff] at h
    obtain ⟨out, ho, rfl⟩ := h
    obtain ⟨out', h1, h2⟩ := fill_rel ho rp rz
    refine ⟨.agg out', run_build w t parts' out' ?_, out', rfl, h2⟩
    unfold Program.built
    simp only [hi, hu, hzv, places_of hpl]
    rw [← h1]
    congr 1
    funext j
    simp
  · rename_i n e hu
    split at h <;> try (cases h; done)
    rename_i sz hsz
    unfold tsz at hsz
    rw [Option.map_eq_some_iff] at hsz
    obtain ⟨ie, hie, rfl⟩ := hsz
    rw [Option.map_eq_some_iff] at h
    obtain ⟨out, ho, rfl⟩ := h
    obtain ⟨out', h1, h2⟩ := fill_rel ho rp rz
    refine ⟨.agg out', run_build w t parts' out' ?_, out', rfl, h2⟩
    unfold Program.built
    simp only [hi, hu, hzv, hie]
    exact h1

/-- Cells that are stored, none of them frozen. -/
theorem run_storeCells_unf (g o : Nat) (t : TypeId) (fz : Nat × Nat) : ∀ (vs : List Value) (i : Nat) (cur : Array Value) (w : World), w.heap[g]? = some (.cells cur t fz) → (∀ j, j < cur.size → ¬ (fz.1 ≤ j ∧ j < fz.2)) →
    o + i + vs.length ≤ cur.size → (∀ v ∈ vs, v.oneCell' = true) → (storeCells ⟨g, o, none⟩ vs i).run P w = .ok () (w.setRow g (setMany cur.toList (o + i) vs).toArray)
  | [], i, cur, w, hg, _, _, _ => by
    simp only [storeCells, setMany, Array.toArray_toList]
    rw [setRow_self w g cur t fz hg]
    rfl
  | v :: rest, i, cur, w, hg, hfz, hl, h1 => by
    have hi : o + i < cur.size := by simp at hl; omega
    have hcell : w.cell? ⟨g, o + i, none⟩ = some cur[o + i] := by simp [World.cell?, hg, hi]
    have hfro : w.frozen? ⟨g, o + i, none⟩ = false := by
      have := hfz (o + i) hi
      obtain ⟨lo, hi'⟩ := fz
      simp only [World.frozen?, hg, Bool.and_eq_false_iff, decide_eq_false_iff_not]
      simp only at this
      omega
    have hst : (store ((⟨g, o, none⟩ : Addr).add i) v).run P w = .ok () (w.setRow g (cur.setIfInBounds (o + i) v)) := by
      rw [Addr.add_lit, run_store P w _ v _ (h1 v (by simp)), hcell]
      simp [hfro, setCell_eq_setRow w g (o + i) cur t fz v hg]
    have ih := run_storeCells_unf g o t fz rest (i + 1) (cur.setIfInBounds (o + i) v) (w.setRow g (cur.setIfInBounds (o + i) v)) (setRow_heap w g cur _ t _ hg) (by simpa using hfz) (by simp at hl ⊢; omega) (fun x hx => h1 x (by simp [hx]))
    simp only [storeCells, Sem.run_bind, hst, Result.andThen_ok, ih, setRow_setRow]
    simp [setMany, Nat.add_assoc]

end
end Go.AH
