/- Spaces by the document, by blocks. No condition. -/
import Derived.Test.YtbdhilbngaemcaaGreatDoorMD
set_option linter.unusedVariables false
set_option linter.unusedSimpArgs false
namespace Go.Proofs
open Go Go.AH
set_option maxRecDepth 100000
theorem ofR_2_32 : allC (okCl spB (ofR 2)) (((blkAll 2).drop 32).take 8) = true := by decide +kernel
end Go.Proofs
namespace Go.Proofs
open Go Go.AH
set_option maxRecDepth 100000
theorem ofR_2_40 : allC (okCl spB (ofR 2)) (((blkAll 2).drop 40).take 8) = true := by decide +kernel
end Go.Proofs
namespace Go.Proofs
open Go Go.AH
set_option maxRecDepth 100000
theorem ofR_2_48 : allC (okCl spB (ofR 2)) (((blkAll 2).drop 48).take 8) = true := by decide +kernel
end Go.Proofs
namespace Go.Proofs
open Go Go.AH
set_option maxRecDepth 100000
theorem ofR_2_56 : allC (okCl spB (ofR 2)) (((blkAll 2).drop 56).take 8) = true := by decide +kernel
end Go.Proofs
namespace Go.Proofs
open Go Go.AH
set_option maxRecDepth 100000
theorem ofR_2_64 : allC (okCl spB (ofR 2)) (((blkAll 2).drop 64).take 8) = true := by decide +kernel
end Go.Proofs
namespace Go.Proofs
open Go Go.AH
set_option maxRecDepth 100000
theorem ofR_2_72 : allC (okCl spB (ofR 2)) (((blkAll 2).drop 72).take 4) = true := by decide +kernel
end Go.Proofs
