/- Contracts of the package's functions, by the walk over abstract values. No condition. -/
import Derived.Test.YtoikhkfipefmeaaPin24
namespace Go.Proofs
open Go Go.AH TryTy
set_option linter.unusedSimpArgs false
set_option linter.unusedVariables false

theorem pages_w (l : (Sch.sl schDeed).Val) (page : (Sch.int .i64).Val) (h : (Sch.sl schDeed).ok l) (h1 : (Sch.int .i64).ok page) :
    ACalls Try.prog 7 [(Sch.sl schDeed).arg l, (Sch.int .i64).arg page] [] (fun r h => r = .ret (.bool true) ∧ h = []) := by
  rw [dds_arg]
  exact pages_c page (ddsOf l) (dds_ok l h).2 (dds_ok l h).1 (i64b h1)
end Go.Proofs
