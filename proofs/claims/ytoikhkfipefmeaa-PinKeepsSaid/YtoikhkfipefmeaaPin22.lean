/- Contracts of the package's functions, by the walk over abstract values. No condition. -/
import Derived.Test.YtoikhkfipefmeaaPin21
namespace Go.Proofs
open Go Go.AH TryTy
set_option linter.unusedSimpArgs false
set_option linter.unusedVariables false

theorem keeps_w (room page : (Sch.int .i64).Val) (host : Sch.str.Val) (s : (Sch.int .i64).Val) (l : (Sch.sl schDeed).Val) (_ : (Sch.int .i64).ok room) (h1 : (Sch.int .i64).ok page) (h2 : Sch.str.ok host) (h3 : (Sch.int .i64).ok s) (h : (Sch.sl schDeed).ok l) :
    ACalls Try.prog 5 [(Sch.int .i64).arg room, (Sch.int .i64).arg page, Sch.str.arg host, (Sch.int .i64).arg s, (Sch.sl schDeed).arg l] [] (fun r h => r = .ret (.bool true) ∧ h = []) := by
  rw [dds_arg]
  exact keeps_c room page host s (ddsOf l) (dds_ok l h).2 (dds_ok l h).1 (i64b h1) (i64b h3) h2
end Go.Proofs
