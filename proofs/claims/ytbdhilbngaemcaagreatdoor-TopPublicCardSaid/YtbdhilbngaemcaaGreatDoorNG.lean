/- url.Parse, by classes. No condition. -/
import Derived.Test.YtbdhilbngaemcaaGreatDoorNE
set_option linter.unusedVariables false
set_option linter.unusedSimpArgs false
namespace Go.Proofs
open Go Go.AH
set_option maxRecDepth 100000
theorem c5_5 : allC (fun q => okCl (spL ((e82 q :: l355) ++ (l268 ++ l266))) c5 (qCls q)) ((qAll.drop 45).take 9) = true := by decide +kernel
end Go.Proofs
namespace Go.Proofs
open Go Go.AH
set_option maxRecDepth 100000
theorem c5_6 : allC (fun q => okCl (spL ((e82 q :: l355) ++ (l268 ++ l266))) c5 (qCls q)) ((qAll.drop 54).take 9) = true := by decide +kernel
end Go.Proofs
namespace Go.Proofs
open Go Go.AH
set_option maxRecDepth 100000
theorem c5_7 : allC (fun q => okCl (spL ((e82 q :: l355) ++ (l268 ++ l266))) c5 (qCls q)) ((qAll.drop 63).take 9) = true := by decide +kernel
end Go.Proofs
namespace Go.Proofs
open Go Go.AH
set_option maxRecDepth 100000
theorem c5_8 : allC (fun q => okCl (spL ((e82 q :: l355) ++ (l268 ++ l266))) c5 (qCls q)) ((qAll.drop 72).take 9) = true := by decide +kernel
end Go.Proofs
