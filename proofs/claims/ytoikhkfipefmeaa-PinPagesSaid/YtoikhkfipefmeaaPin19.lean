/- Contracts of the package's functions, by the walk over abstract values. No condition. -/
import Derived.Test.YtoikhkfipefmeaaPin18
import Derived.Test.YtoikhkfipefmeaaA30
namespace Go.Proofs
open Go Go.AH TryTy
set_option linter.unusedSimpArgs false
set_option linter.unusedVariables false
set_option maxRecDepth 10000

def schDeed : Sch := .st (.pair (.int .i64) (.pair (.int .i64) (.pair (.int .i64) (.pair .str .unit))))
theorem fitDeed : schDeed.fit Try.prog 52 := ⟨_, Try.underlying52, ⟨_, _, rfl, rfl, by kernel_rfl, Try.underlying3, _, _, rfl, rfl, by kernel_rfl, Try.underlying3, _, _, rfl, rfl, by kernel_rfl, Try.underlying3, _, _, rfl, rfl, by kernel_rfl, Try.underlying9, rfl⟩, by kernel_rfl⟩
theorem fitDeeds : (Sch.sl schDeed).fit Try.prog 40 := ⟨52, Try.underlying40, fitDeed, by kernel_rfl, by decide, of_decide_eq_true (by kernel_rfl)⟩
theorem fitInt : (Sch.int .i64).fit Try.prog 3 := Try.underlying3
theorem fitStr : Sch.str.fit Try.prog 9 := Try.underlying9
def ddOf (x : Int × Int × Int × List UInt8 × Unit) : Dd := ⟨x.1, x.2.1, x.2.2.1, x.2.2.2.1⟩
def ddsOf (l : (Sch.sl schDeed).Val) : List Dd := List.map ddOf (show List (Int × Int × Int × List UInt8 × Unit) from l)
theorem dds_arg (l : (Sch.sl schDeed).Val) : (Sch.sl schDeed).arg l = .isl (dE.cells (ddsOf l)) (ddsOf l).length := by
  have e : ∀ l : List (Int × Int × Int × List UInt8 × Unit), List.flatMap (fun x => schDeed.cells x) l = List.flatMap dE.f (List.map ddOf l) := by
    intro l
    rw [List.flatMap_map]
    rfl
  have e3 : ∀ l : List (Int × Int × Int × List UInt8 × Unit), AV.isl (List.flatMap (fun x => schDeed.cells x) l) (List.length l) = .isl (List.flatMap dE.f (List.map ddOf l)) (List.map ddOf l).length := by
    intro l
    rw [e, List.length_map]
  exact e3 l
theorem i64b {n : Int} (h : (Lit.int .i64 n).wf = true) : -9223372036854775808 ≤ n ∧ n ≤ 9223372036854775807 := by
  simp only [Lit.wf, Bool.and_eq_true, decide_eq_true_eq, show IntKind.i64.min = -9223372036854775808 from rfl, show IntKind.i64.max = 9223372036854775807 from rfl] at h
  omega
theorem dds_ok (l : (Sch.sl schDeed).Val) (h : (Sch.sl schDeed).ok l) : (ddsOf l).length ≤ 140737488351232 ∧ ∀ d ∈ ddsOf l, dOk d := by
  obtain ⟨h1, h2⟩ : List.length (show List (Int × Int × Int × List UInt8 × Unit) from l) ≤ 140737488351232 ∧ ∀ x ∈ (show List (Int × Int × Int × List UInt8 × Unit) from l), schDeed.ok x := h
  refine ⟨by rw [ddsOf, List.length_map]; exact h1, fun d hd => ?_⟩
  obtain ⟨x, hx, rfl⟩ := List.mem_map.1 hd
  obtain ⟨_, q1, _, q2, _⟩ := h2 x hx
  exact ⟨(i64b q1).1, (i64b q1).2, q2⟩
theorem plays_w (room : (Sch.int .i64).Val) (l : (Sch.sl schDeed).Val) (_ : (Sch.int .i64).ok room) (h : (Sch.sl schDeed).ok l) :
    ACalls Try.prog 6 [(Sch.int .i64).arg room, (Sch.sl schDeed).arg l] [] (fun r h => r = .ret (.bool true) ∧ h = []) := by
  rw [dds_arg]
  exact plays_c room (ddsOf l) (dds_ok l h).2 (dds_ok l h).1
end Go.Proofs
