/- four.Print, by classes. No condition. -/
import Derived.Test.YtbdhilbngaemcaaGreatDoorNA
set_option linter.unusedVariables false
set_option linter.unusedSimpArgs false
namespace Go.Proofs
open Go Go.AH
set_option maxRecDepth 100000
theorem e82_0 : allC (fun q => okR (l46) (e82 q)) ((qAll.drop 0).take 20) = true := by decide +kernel
end Go.Proofs
namespace Go.Proofs
open Go Go.AH
set_option maxRecDepth 100000
theorem e82_1 : allC (fun q => okR (l46) (e82 q)) ((qAll.drop 20).take 20) = true := by decide +kernel
end Go.Proofs
namespace Go.Proofs
open Go Go.AH
set_option maxRecDepth 100000
theorem e82_2 : allC (fun q => okR (l46) (e82 q)) ((qAll.drop 40).take 20) = true := by decide +kernel
end Go.Proofs
namespace Go.Proofs
open Go Go.AH
set_option maxRecDepth 100000
theorem e82_3 : allC (fun q => okR (l46) (e82 q)) ((qAll.drop 60).take 21) = true := by decide +kernel
end Go.Proofs
