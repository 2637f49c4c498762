/- Contracts of the package's functions, by the walk over abstract values. No condition. -/
import Derived.Test.YtieaamjikcjbeaaM17
namespace Go.Proofs
open Go Go.AH TryTy
set_option linter.unusedSimpArgs false
set_option linter.unusedVariables false
set_option maxRecDepth 10000

def schN : Sch := .st (.pair .str (.pair (.int .i64) (.pair (.int .i64) .unit)))
theorem fitN : schN.fit Try.prog 63 := ⟨_, Try.underlying63, ⟨_, _, rfl, rfl, by kernel_rfl, Try.underlying9, _, _, rfl, rfl, by kernel_rfl, Try.underlying3, _, _, rfl, rfl, by kernel_rfl, Try.underlying3, rfl⟩, by kernel_rfl⟩
theorem fitNs : (Sch.sl schN).fit Try.prog 25 := ⟨63, Try.underlying25, fitN, by kernel_rfl, by decide, of_decide_eq_true (by kernel_rfl)⟩
def schM : Sch := .st (.pair (.int .i64) (.pair (.int .i64) (.pair (.sl schN) (.pair (.sl schRc) (.pair (.sl schRc) (.pair (.sl schRc) .unit))))))
theorem fitM : schM.fit Try.prog 27 := ⟨_, Try.underlying27, ⟨_, _, rfl, rfl, by kernel_rfl, Try.underlying3, _, _, rfl, rfl, by kernel_rfl, Try.underlying3, _, _, rfl, rfl, by kernel_rfl, fitNs, _, _, rfl, rfl, by kernel_rfl, fitRcs, _, _, rfl, rfl, by kernel_rfl, fitRcs, _, _, rfl, rfl, by kernel_rfl, fitRcs, rfl⟩, by kernel_rfl⟩
abbrev QnV := List UInt8 × Int × Int × Unit
def qnOf (x : QnV) : Qn := ⟨x.1, x.2.1, x.2.2.1⟩
abbrev MsV := Int × Int × List QnV × List RcV × List RcV × List RcV × Unit
theorem ns_cells : ∀ (l : List QnV), List.flatMap (fun x : QnV => (show List AV from schN.cells x)) l = nE.cells (l.map qnOf)
  | [] => rfl
  | x :: l => by
    have ih := ns_cells l
    rw [List.map_cons, nE.cells_cons, List.flatMap_cons, ih]
    rfl
theorem ns_arg (l : (Sch.sl schN).Val) : (Sch.sl schN).arg l = .isl (nE.cells (List.map qnOf (show List QnV from l))) (List.map qnOf (show List QnV from l)).length := by
  have e3 : ∀ l : List QnV, AV.isl (List.flatMap (fun x => schN.cells x) l) (List.length l) = .isl (nE.cells (List.map qnOf l)) (List.map qnOf l).length := by
    intro l
    have := ns_cells l
    rw [List.length_map]
    exact congrArg (fun c => AV.isl c l.length) this
  exact e3 l
theorem m_arg (x : schM.Val) (h : schM.ok x) : schM.arg x = .agg (mcell (show MsV from x).1 (show MsV from x).2.1 (List.map qnOf (show MsV from x).2.2.1) (rcsOf (show MsV from x).2.2.2.1) (rcsOf (show MsV from x).2.2.2.2.1) (rcsOf (show MsV from x).2.2.2.2.2.1)) := by
  obtain ⟨i, f, ns, a, b, c, u⟩ := x
  obtain ⟨_, _, _, ha, hb, hc, _⟩ := h
  have e1 := rcs_arg a ha
  have e2 := rcs_arg b hb
  have e3 := rcs_arg c hc
  have e4 := ns_arg ns
  show AV.agg (.int .i64 i :: .int .i64 f :: (Sch.sl schN).arg ns :: (Sch.sl schRc).arg a :: (Sch.sl schRc).arg b :: (Sch.sl schRc).arg c :: []) = _
  rw [e1, e2, e3, e4]
  rfl
theorem answers_w (q : schQ.Val) (sv : (Sch.int .i64).Val) (m : schM.Val) (pick k : (Sch.int .i64).Val) (h1 : schQ.ok q) (h2 : (Sch.int .i64).ok sv) (h3 : schM.ok m) (h4 : (Sch.int .i64).ok pick) (h5 : (Sch.int .i64).ok k) :
    ACalls Try.prog 8 [schQ.arg q, (Sch.int .i64).arg sv, schM.arg m, (Sch.int .i64).arg pick, (Sch.int .i64).arg k] [] (fun r h => r = .ret (.bool true) ∧ h = []) := by
  rw [m_arg m h3, q_arg]
  have hq : (qOf q).name.length ≤ 140737488351232 := h1.2.1
  refine answers_c (qOf q) hq sv _ _ _ ?_ _ _ _ pick (i64b h4).1 (i64b h4).2 k
  intro n hn
  obtain ⟨x, hx, rfl⟩ := List.mem_map.1 hn
  have h6 : ∀ y ∈ (show MsV from m).2.2.1, schN.ok y := h3.2.2.1.2
  have h7 : x.1.length ≤ 140737488351232 := (h6 x hx).1
  show x.1.length ≤ _
  omega
end Go.Proofs
