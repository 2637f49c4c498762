/- Searches, by runs; their contract. No condition. -/
import Derived.Test.YtbdhilbngaemcaaGreatDoorMB
set_option linter.unusedVariables false
set_option linter.unusedSimpArgs false
namespace Go.Proofs
open Go Go.AH
set_option maxRecDepth 100000
theorem sch3 : allC okSch ((schCls.drop 51).take 17) = true := by decide +kernel
end Go.Proofs
namespace Go.Proofs
open Go Go.AH
set_option maxRecDepth 100000
theorem sch4 : allC okSch ((schCls.drop 68).take 17) = true := by decide +kernel
end Go.Proofs
namespace Go.Proofs
open Go Go.AH
set_option maxRecDepth 100000
theorem sch5 : allC okSch ((schCls.drop 85).take 17) = true := by decide +kernel
end Go.Proofs
namespace Go.Proofs
open Go Go.AH
set_option maxRecDepth 100000
theorem schRuns (c : List (Nat × Nat)) (hc : c ∈ schCls) : ∃ r, schRes (clsL c) = some r ∧ ACalls Tryz.prog 184 [.gsl 0 11 19, schPfx c, .ptr 1 1] tabH (fun r' h => r' = .ret r ∧ h = tabH) := by
  have : okSch c = true := by
    obtain ⟨i, hi⟩ := List.mem_iff_getElem?.1 hc
    have hl : i < 99 := by
      have h1 := (List.getElem?_eq_some_iff.1 hi).1
      have h2 : schCls.length = 99 := by decide +kernel
      omega
    have key : ∀ d, d ≤ i → i < d + 17 → c ∈ (schCls.drop d).take 17 := fun d h1 h2 => by
      refine List.mem_iff_getElem?.2 ⟨i - d, ?_⟩
      rw [List.getElem?_take_of_lt (by omega), List.getElem?_drop, show d + (i - d) = i by omega]
      exact hi
    rcases (show i < 17 ∨ (17 ≤ i ∧ i < 34) ∨ (34 ≤ i ∧ i < 51) ∨ (51 ≤ i ∧ i < 68) ∨ (68 ≤ i ∧ i < 85) ∨ (85 ≤ i ∧ i < 102) by omega) with q | q | q | q | q | q
    · exact allC_ok sch0 c (key 0 (by omega) (by omega))
    · exact allC_ok sch1 c (key 17 (by omega) (by omega))
    · exact allC_ok sch2 c (key 34 (by omega) (by omega))
    · exact allC_ok sch3 c (key 51 (by omega) (by omega))
    · exact allC_ok sch4 c (key 68 (by omega) (by omega))
    · exact allC_ok sch5 c (key 85 (by omega) (by omega))
  unfold okSch at this
  split at this
  · rename_i r hr
    exact ⟨r, hr, okK_ok spX2_ok this⟩
  · cases this
noncomputable def spX3 : CallF := fun f args h => bif Nat.beq f 184 then spSch args h else spX2 f args h
theorem spX3_ok : CallOk Tryz.prog spX3 := by
  intro f args h r h' e
  unfold spX3 at e
  cases h1 : Nat.beq f 184 with
  | true =>
    rw [h1] at e
    have := Nat.eq_of_beq_eq_true h1
    subst this
    exact spSearch_ok closed_tabS closed_tabP closed_tab schRuns e
  | false => rw [h1] at e; exact spX2_ok f args h r h' e
end Go.Proofs
