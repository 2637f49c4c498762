/- four.Strict, by classes. No condition. -/
import Derived.Test.YtbdhilbngaemcaaGreatDoorNA
set_option linter.unusedVariables false
set_option linter.unusedSimpArgs false
namespace Go.Proofs
open Go Go.AH
set_option maxRecDepth 100000
theorem e131_0 : allC (fun q => okR (l46 ++ l99) (e131 q)) ((qAll.drop 0).take 27) = true := by decide +kernel
end Go.Proofs
namespace Go.Proofs
open Go Go.AH
set_option maxRecDepth 100000
theorem e131_1 : allC (fun q => okR (l46 ++ l99) (e131 q)) ((qAll.drop 27).take 27) = true := by decide +kernel
end Go.Proofs
namespace Go.Proofs
open Go Go.AH
set_option maxRecDepth 100000
theorem e131_2 : allC (fun q => okR (l46 ++ l99) (e131 q)) ((qAll.drop 54).take 27) = true := by decide +kernel
end Go.Proofs
