/- Spaces by the map, by blocks. No condition. -/
import Derived.Test.YtbdhilbngaemcaaGreatDoorMD
set_option linter.unusedVariables false
set_option linter.unusedSimpArgs false
namespace Go.Proofs
open Go Go.AH
set_option maxRecDepth 100000
theorem ofA_2_50 : allC (okCl spX3 (ofA 2)) (((blkAll 2).drop 50).take 5) = true := by decide +kernel
end Go.Proofs
namespace Go.Proofs
open Go Go.AH
set_option maxRecDepth 100000
theorem ofA_2_55 : allC (okCl spX3 (ofA 2)) (((blkAll 2).drop 55).take 5) = true := by decide +kernel
end Go.Proofs
namespace Go.Proofs
open Go Go.AH
set_option maxRecDepth 100000
theorem ofA_2_60 : allC (okCl spX3 (ofA 2)) (((blkAll 2).drop 60).take 5) = true := by decide +kernel
end Go.Proofs
namespace Go.Proofs
open Go Go.AH
set_option maxRecDepth 100000
theorem ofA_2_65 : allC (okCl spX3 (ofA 2)) (((blkAll 2).drop 65).take 5) = true := by decide +kernel
end Go.Proofs
namespace Go.Proofs
open Go Go.AH
set_option maxRecDepth 100000
theorem ofA_2_70 : allC (okCl spX3 (ofA 2)) (((blkAll 2).drop 70).take 5) = true := by decide +kernel
end Go.Proofs
namespace Go.Proofs
open Go Go.AH
set_option maxRecDepth 100000
theorem ofA_2_75 : allC (okCl spX3 (ofA 2)) (((blkAll 2).drop 75).take 1) = true := by decide +kernel
end Go.Proofs
