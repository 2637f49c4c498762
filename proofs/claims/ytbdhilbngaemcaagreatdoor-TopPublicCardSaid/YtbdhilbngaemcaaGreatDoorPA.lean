/- Spaces by the map, by blocks. No condition. -/
import Derived.Test.YtbdhilbngaemcaaGreatDoorMD
set_option linter.unusedVariables false
set_option linter.unusedSimpArgs false
namespace Go.Proofs
open Go Go.AH
set_option maxRecDepth 100000
theorem ofA_0_0 : allC (okCl spX3 (ofA 0)) (((blkAll 0).drop 0).take 2) = true := by decide +kernel
end Go.Proofs
namespace Go.Proofs
open Go Go.AH
set_option maxRecDepth 100000
theorem ofA_1_0 : allC (okCl spX3 (ofA 1)) (((blkAll 1).drop 0).take 5) = true := by decide +kernel
end Go.Proofs
namespace Go.Proofs
open Go Go.AH
set_option maxRecDepth 100000
theorem ofA_2_0 : allC (okCl spX3 (ofA 2)) (((blkAll 2).drop 0).take 5) = true := by decide +kernel
end Go.Proofs
namespace Go.Proofs
open Go Go.AH
set_option maxRecDepth 100000
theorem ofA_2_5 : allC (okCl spX3 (ofA 2)) (((blkAll 2).drop 5).take 5) = true := by decide +kernel
end Go.Proofs
namespace Go.Proofs
open Go Go.AH
set_option maxRecDepth 100000
theorem ofA_2_10 : allC (okCl spX3 (ofA 2)) (((blkAll 2).drop 10).take 5) = true := by decide +kernel
end Go.Proofs
namespace Go.Proofs
open Go Go.AH
set_option maxRecDepth 100000
theorem ofA_2_15 : allC (okCl spX3 (ofA 2)) (((blkAll 2).drop 15).take 5) = true := by decide +kernel
end Go.Proofs
