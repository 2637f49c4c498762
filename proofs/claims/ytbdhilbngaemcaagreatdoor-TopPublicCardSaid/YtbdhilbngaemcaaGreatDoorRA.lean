/- Spaces by the document, by blocks. No condition. -/
import Derived.Test.YtbdhilbngaemcaaGreatDoorMD
set_option linter.unusedVariables false
set_option linter.unusedSimpArgs false
namespace Go.Proofs
open Go Go.AH
set_option maxRecDepth 100000
theorem ofR_0_0 : allC (okCl spB (ofR 0)) (((blkAll 0).drop 0).take 2) = true := by decide +kernel
end Go.Proofs
namespace Go.Proofs
open Go Go.AH
set_option maxRecDepth 100000
theorem ofR_1_0 : allC (okCl spB (ofR 1)) (((blkAll 1).drop 0).take 5) = true := by decide +kernel
end Go.Proofs
namespace Go.Proofs
open Go Go.AH
set_option maxRecDepth 100000
theorem ofR_2_0 : allC (okCl spB (ofR 2)) (((blkAll 2).drop 0).take 8) = true := by decide +kernel
end Go.Proofs
namespace Go.Proofs
open Go Go.AH
set_option maxRecDepth 100000
theorem ofR_2_8 : allC (okCl spB (ofR 2)) (((blkAll 2).drop 8).take 8) = true := by decide +kernel
end Go.Proofs
namespace Go.Proofs
open Go Go.AH
set_option maxRecDepth 100000
theorem ofR_2_16 : allC (okCl spB (ofR 2)) (((blkAll 2).drop 16).take 8) = true := by decide +kernel
end Go.Proofs
namespace Go.Proofs
open Go Go.AH
set_option maxRecDepth 100000
theorem ofR_2_24 : allC (okCl spB (ofR 2)) (((blkAll 2).drop 24).take 8) = true := by decide +kernel
end Go.Proofs
