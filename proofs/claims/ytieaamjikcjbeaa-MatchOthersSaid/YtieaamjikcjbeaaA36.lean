/- A block that is written no more, in such walks. No condition. -/
import Derived.Test.YtieaamjikcjbeaaA35
import Derived.Test.YtieaamjikcjbeaaA23
namespace Go.AH
set_option linter.unusedSimpArgs false
set_option linter.unusedVariables false
open Go
section
variable {n0 : Nat} {P : Program} {ρ : Option Nat} {T : List AV} {h : Heap} {s : YS} {K : KX}
theorem aX_freeze {c : Code} (id : Nat) {cs : List AV} {e : TypeId} {wh : Bool} (hr : rowAt h id = some (cs, e, wh)) (a : aX P ρ (none : Option (YR n0)) c (frzL id cs T) (frzH id cs (h.set id none)) s K) : aX P ρ (none : Option (YR n0)) c T h s K := by
  intro F β w act B D hn hB st r m _
  obtain ⟨k, g⟩ := st.freeze hr
  have hlen : (frzH id cs (h.set id none)).length = h.length := by rw [frzH_length, List.length_set]
  refine wpIn_mono (a F β w act B D (by rw [hlen]; exact hn) hB g.st (RelL.frz k _ _ r) m (jok_none _ _ _ _ _)) ?_
  rintro ex a' w' ⟨x, β', T', h', s', q, g2, rest⟩
  exact ⟨x, β', T', h', s', q, (g.getsX hn).trans g2, rest⟩
end
end Go.AH
