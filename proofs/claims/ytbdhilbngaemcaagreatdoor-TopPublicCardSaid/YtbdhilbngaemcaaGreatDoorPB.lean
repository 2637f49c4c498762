/- Spaces by the map, by blocks. No condition. -/
import Derived.Test.YtbdhilbngaemcaaGreatDoorMD
set_option linter.unusedVariables false
set_option linter.unusedSimpArgs false
namespace Go.Proofs
open Go Go.AH
set_option maxRecDepth 100000
theorem ofA_2_20 : allC (okCl spX3 (ofA 2)) (((blkAll 2).drop 20).take 5) = true := by decide +kernel
end Go.Proofs
namespace Go.Proofs
open Go Go.AH
set_option maxRecDepth 100000
theorem ofA_2_25 : allC (okCl spX3 (ofA 2)) (((blkAll 2).drop 25).take 5) = true := by decide +kernel
end Go.Proofs
namespace Go.Proofs
open Go Go.AH
set_option maxRecDepth 100000
theorem ofA_2_30 : allC (okCl spX3 (ofA 2)) (((blkAll 2).drop 30).take 5) = true := by decide +kernel
end Go.Proofs
namespace Go.Proofs
open Go Go.AH
set_option maxRecDepth 100000
theorem ofA_2_35 : allC (okCl spX3 (ofA 2)) (((blkAll 2).drop 35).take 5) = true := by decide +kernel
end Go.Proofs
namespace Go.Proofs
open Go Go.AH
set_option maxRecDepth 100000
theorem ofA_2_40 : allC (okCl spX3 (ofA 2)) (((blkAll 2).drop 40).take 5) = true := by decide +kernel
end Go.Proofs
namespace Go.Proofs
open Go Go.AH
set_option maxRecDepth 100000
theorem ofA_2_45 : allC (okCl spX3 (ofA 2)) (((blkAll 2).drop 45).take 5) = true := by decide +kernel
end Go.Proofs
