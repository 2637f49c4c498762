/- Spaces: every address. No condition. -/
import Derived.Test.YtbdhilbngaemcaaGreatDoorPA
import Derived.Test.YtbdhilbngaemcaaGreatDoorPB
import Derived.Test.YtbdhilbngaemcaaGreatDoorPC
import Derived.Test.YtbdhilbngaemcaaGreatDoorRA
import Derived.Test.YtbdhilbngaemcaaGreatDoorRB
import Derived.KernelRfl
set_option linter.unusedVariables false
set_option linter.unusedSimpArgs false
namespace Go.Proofs
open Go Go.AH
set_option maxRecDepth 100000
theorem len0 : (blkAll 0).length = 2 := by decide +kernel
theorem len1 : (blkAll 1).length = 5 := by decide +kernel
theorem len2 : (blkAll 2).length = 76 := by decide +kernel
theorem part {α : Type} {l : List α} {x : α} {i : Nat} (hi : l[i]? = some x) (d n : Nat) (h1 : d ≤ i) (h2 : i < d + n) : x ∈ (l.drop d).take n :=
  List.mem_iff_getElem?.2 ⟨i - d, by rw [List.getElem?_take_of_lt (by omega), List.getElem?_drop, show d + (i - d) = i by omega]; exact hi⟩
theorem ofA_all0 : ∀ cl ∈ blkAll 0, okCl spX3 (ofA 0) cl = true := by
  intro cl hcl
  obtain ⟨i, hi⟩ := List.mem_iff_getElem?.1 hcl
  have hl := (List.getElem?_eq_some_iff.1 hi).1
  rw [len0] at hl
  exact allC_ok ofA_0_0 cl (part hi 0 2 (by omega) (by omega))
theorem ofA_all1 : ∀ cl ∈ blkAll 1, okCl spX3 (ofA 1) cl = true := by
  intro cl hcl
  obtain ⟨i, hi⟩ := List.mem_iff_getElem?.1 hcl
  have hl := (List.getElem?_eq_some_iff.1 hi).1
  rw [len1] at hl
  exact allC_ok ofA_1_0 cl (part hi 0 5 (by omega) (by omega))
theorem ofA_all2 : ∀ cl ∈ blkAll 2, okCl spX3 (ofA 2) cl = true := by
  intro cl hcl
  obtain ⟨i, hi⟩ := List.mem_iff_getElem?.1 hcl
  have hl := (List.getElem?_eq_some_iff.1 hi).1
  rw [len2] at hl
  rcases (show (0 ≤ i ∧ i < 5) ∨ (5 ≤ i ∧ i < 10) ∨ (10 ≤ i ∧ i < 15) ∨ (15 ≤ i ∧ i < 20) ∨ (20 ≤ i ∧ i < 25) ∨ (25 ≤ i ∧ i < 30) ∨ (30 ≤ i ∧ i < 35) ∨ (35 ≤ i ∧ i < 40) ∨ (40 ≤ i ∧ i < 45) ∨ (45 ≤ i ∧ i < 50) ∨ (50 ≤ i ∧ i < 55) ∨ (55 ≤ i ∧ i < 60) ∨ (60 ≤ i ∧ i < 65) ∨ (65 ≤ i ∧ i < 70) ∨ (70 ≤ i ∧ i < 75) ∨ (75 ≤ i ∧ i < 76) by omega) with h | h | h | h | h | h | h | h | h | h | h | h | h | h | h | h
  · exact allC_ok ofA_2_0 cl (part hi 0 5 h.1 (by omega))
  · exact allC_ok ofA_2_5 cl (part hi 5 5 h.1 (by omega))
  · exact allC_ok ofA_2_10 cl (part hi 10 5 h.1 (by omega))
  · exact allC_ok ofA_2_15 cl (part hi 15 5 h.1 (by omega))
  · exact allC_ok ofA_2_20 cl (part hi 20 5 h.1 (by omega))
  · exact allC_ok ofA_2_25 cl (part hi 25 5 h.1 (by omega))
  · exact allC_ok ofA_2_30 cl (part hi 30 5 h.1 (by omega))
  · exact allC_ok ofA_2_35 cl (part hi 35 5 h.1 (by omega))
  · exact allC_ok ofA_2_40 cl (part hi 40 5 h.1 (by omega))
  · exact allC_ok ofA_2_45 cl (part hi 45 5 h.1 (by omega))
  · exact allC_ok ofA_2_50 cl (part hi 50 5 h.1 (by omega))
  · exact allC_ok ofA_2_55 cl (part hi 55 5 h.1 (by omega))
  · exact allC_ok ofA_2_60 cl (part hi 60 5 h.1 (by omega))
  · exact allC_ok ofA_2_65 cl (part hi 65 5 h.1 (by omega))
  · exact allC_ok ofA_2_70 cl (part hi 70 5 h.1 (by omega))
  · exact allC_ok ofA_2_75 cl (part hi 75 1 h.1 (by omega))
theorem ofR_all0 : ∀ cl ∈ blkAll 0, okCl spB (ofR 0) cl = true := by
  intro cl hcl
  obtain ⟨i, hi⟩ := List.mem_iff_getElem?.1 hcl
  have hl := (List.getElem?_eq_some_iff.1 hi).1
  rw [len0] at hl
  exact allC_ok ofR_0_0 cl (part hi 0 2 (by omega) (by omega))
theorem ofR_all1 : ∀ cl ∈ blkAll 1, okCl spB (ofR 1) cl = true := by
  intro cl hcl
  obtain ⟨i, hi⟩ := List.mem_iff_getElem?.1 hcl
  have hl := (List.getElem?_eq_some_iff.1 hi).1
  rw [len1] at hl
  exact allC_ok ofR_1_0 cl (part hi 0 5 (by omega) (by omega))
theorem ofR_all2 : ∀ cl ∈ blkAll 2, okCl spB (ofR 2) cl = true := by
  intro cl hcl
  obtain ⟨i, hi⟩ := List.mem_iff_getElem?.1 hcl
  have hl := (List.getElem?_eq_some_iff.1 hi).1
  rw [len2] at hl
  rcases (show (0 ≤ i ∧ i < 8) ∨ (8 ≤ i ∧ i < 16) ∨ (16 ≤ i ∧ i < 24) ∨ (24 ≤ i ∧ i < 32) ∨ (32 ≤ i ∧ i < 40) ∨ (40 ≤ i ∧ i < 48) ∨ (48 ≤ i ∧ i < 56) ∨ (56 ≤ i ∧ i < 64) ∨ (64 ≤ i ∧ i < 72) ∨ (72 ≤ i ∧ i < 76) by omega) with h | h | h | h | h | h | h | h | h | h
  · exact allC_ok ofR_2_0 cl (part hi 0 8 h.1 (by omega))
  · exact allC_ok ofR_2_8 cl (part hi 8 8 h.1 (by omega))
  · exact allC_ok ofR_2_16 cl (part hi 16 8 h.1 (by omega))
  · exact allC_ok ofR_2_24 cl (part hi 24 8 h.1 (by omega))
  · exact allC_ok ofR_2_32 cl (part hi 32 8 h.1 (by omega))
  · exact allC_ok ofR_2_40 cl (part hi 40 8 h.1 (by omega))
  · exact allC_ok ofR_2_48 cl (part hi 48 8 h.1 (by omega))
  · exact allC_ok ofR_2_56 cl (part hi 56 8 h.1 (by omega))
  · exact allC_ok ofR_2_64 cl (part hi 64 8 h.1 (by omega))
  · exact allC_ok ofR_2_72 cl (part hi 72 4 h.1 (by omega))
def ofa (j : Nat) : KCall := ⟨194, [.ptr 0 0, octsJ j], ofH, .int .i64 ((j % 3 : Nat) : Int), ofH⟩
def ofHz : Heap := some (.row [.ptr 1 0] 176 true) :: some (.row [.gsl 2 11 19, .int .i64 0] 221 true) :: tabH.take 1
def ofz (j : Nat) : KCall := ⟨194, [.ptr 0 0, octsJ j], ofHz, .int .i64 ((j % 3 : Nat) : Int), ofH⟩
def ofr (j : Nat) : KCall := ⟨9, [.gsl 0 11 19, octsJ j], refH, .int .i64 ((j % 3 : Nat) : Int), refH⟩
theorem ofa_k (j : Nat) (hj : j < 6) : KOk (ofa j) := by
  have key : ∀ s, s < 3 → ∀ cl ∈ blkAll s, okCl spX3 (ofA s) cl = true := by
    intro s hs
    match s, hs with
    | 0, _ => exact ofA_all0
    | 1, _ => exact ofA_all1
    | 2, _ => exact ofA_all2
  have ok : ∀ s, s < 3 → okE false (ofA s) = true := by
    intro s hs
    match s, hs with
    | 0, _ => decide +kernel
    | 1, _ => decide +kernel
    | 2, _ => decide +kernel
  exact cls_ok (e := ofA (j % 3)) spX3_ok (blkAll_tx (j % 3)) (ok _ (by omega)) (blk_cov j hj) (key _ (by omega))
theorem ofr_k (j : Nat) (hj : j < 6) : KOk (ofr j) := by
  have key : ∀ s, s < 3 → ∀ cl ∈ blkAll s, okCl spB (ofR s) cl = true := by
    intro s hs
    match s, hs with
    | 0, _ => exact ofR_all0
    | 1, _ => exact ofR_all1
    | 2, _ => exact ofR_all2
  have ok : ∀ s, s < 3 → okE false (ofR s) = true := by
    intro s hs
    match s, hs with
    | 0, _ => decide +kernel
    | 1, _ => decide +kernel
    | 2, _ => decide +kernel
  exact cls_ok (e := ofR (j % 3)) spB_ok (blkAll_tx (j % 3)) (ok _ (by omega)) (blk_cov j hj) (key _ (by omega))
def wkA : AV → AV
  | .int .i64 0 => .any .i64
  | x => x
def wkB : Blk → Blk
  | .row [x, y] 221 w => .row [x, wkA y] 221 w
  | b => b
theorem wkA_rel {c : Ctx} {x : AV} {v : Value} (r : Rel c x v) : Rel c (wkA x) v := by
  unfold wkA
  split
  · exact ⟨0, r⟩
  · exact r
theorem wkB_rel {c : Ctx} {b : Blk} {o : Obj} (r : BlkRel c b o) : BlkRel c (wkB b) o := by
  unfold wkB
  split
  · rename_i x y w
    simp only [BlkRel] at r ⊢
    obtain ⟨vs, fz, h1, ⟨ys, zs, h2, h3, h4⟩, h5⟩ := r
    refine ⟨vs, fz, h1, ⟨ys, zs, h2, ?_, h4⟩, h5⟩
    obtain ⟨a, l1, rfl, ra, b, l2, rfl, rb, e⟩ := h3
    exact ⟨a, _, rfl, ra, b, l2, rfl, wkA_rel rb, e⟩
  · exact r
theorem ofHz_id : mapH2 (fun b => b) ofHz = ofHz := by kernel_rfl
theorem ofHz_wk : mapH2 wkB ofHz = ofH := by kernel_rfl
/-- At the first use the number of steps is 0. -/
theorem ofz_k (j : Nat) (hj : j < 6) : KOk (ofz j) := by
  have k := ofa_k j hj
  intro F β w vs s rl
  have e1 : ctx F β w ofH = ctx F β w ofHz := by rw [← ofHz_wk, ctx_map2]
  have s2 : St F β w ofH := by
    rw [← ofHz_wk]
    rw [show St F β w (ofz j).h = St F β w (mapH2 (fun b => b) ofHz) by rw [ofHz_id]; rfl] at s
    exact St.of_blk rfl s fun id b o _ r => wkB_rel r
  have eo : Own β ofH = Own β ofHz := by rw [← ofHz_wk, own_map2']
  have el : ofH.length = ofHz.length := rfl
  refine (k F β w vs s2 (by show RelL (ctx F β w ofH) _ _; rw [e1]; exact rl)).mono ?_
  rintro e w' ⟨β', h2, r', ⟨rfl, rfl⟩, g, v', rfl, rv⟩
  refine ⟨β', _, _, ⟨rfl, rfl⟩, ⟨g.st, ?_, ?_, ?_⟩, v', rfl, rv⟩
  · have := g.step
    rw [show Own β (ofa j).h = Own β ofHz from eo] at this
    exact this
  · exact g.len
  · exact g.β
end Go.Proofs
