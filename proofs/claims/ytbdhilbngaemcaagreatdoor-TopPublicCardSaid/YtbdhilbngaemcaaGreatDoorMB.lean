/- Searches, by runs. No condition. -/
import Derived.Test.YtbdhilbngaemcaaGreatDoorMA
set_option linter.unusedVariables false
set_option linter.unusedSimpArgs false
namespace Go.Proofs
open Go Go.AH
set_option maxRecDepth 100000
/-! ### the table's search, by 99 runs -/
noncomputable def allC {α : Type} (g : α → Bool) (l : List α) : Bool := List.rec true (fun a _ ih => bif g a then ih else false) l
theorem allC_ok {α : Type} {g : α → Bool} : ∀ {l : List α}, allC g l = true → ∀ x ∈ l, g x = true
  | [], _, x, hx => by simp at hx
  | a :: l, h, x, hx => by
    have h : (bif g a then allC g l else false) = true := h
    cases hb : g a with
    | false => rw [hb] at h; cases h
    | true =>
      rw [hb] at h
      rcases List.mem_cons.1 hx with rfl | hx
      · exact hb
      · exact allC_ok h x hx
noncomputable def okSch (c : List (Nat × Nat)) : Bool := match schRes (clsL c) with
  | some r => okK spX2 184 [.gsl 0 11 19, schPfx c, .ptr 1 1] tabH r tabH
  | none => false
end Go.Proofs
namespace Go.Proofs
open Go Go.AH
set_option maxRecDepth 100000
theorem sch0 : allC okSch ((schCls.drop 0).take 17) = true := by decide +kernel
end Go.Proofs
namespace Go.Proofs
open Go Go.AH
set_option maxRecDepth 100000
theorem sch1 : allC okSch ((schCls.drop 17).take 17) = true := by decide +kernel
end Go.Proofs
namespace Go.Proofs
open Go Go.AH
set_option maxRecDepth 100000
theorem sch2 : allC okSch ((schCls.drop 34).take 17) = true := by decide +kernel
end Go.Proofs
