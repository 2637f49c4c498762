/- url.Parse, by classes. No condition. -/
import Derived.Test.YtbdhilbngaemcaaGreatDoorNE
set_option linter.unusedVariables false
set_option linter.unusedSimpArgs false
namespace Go.Proofs
open Go Go.AH
set_option maxRecDepth 100000
theorem c5_0 : allC (fun q => okCl (spL ((e82 q :: l355) ++ (l268 ++ l266))) c5 (qCls q)) ((qAll.drop 0).take 9) = true := by decide +kernel
end Go.Proofs
namespace Go.Proofs
open Go Go.AH
set_option maxRecDepth 100000
theorem c5_1 : allC (fun q => okCl (spL ((e82 q :: l355) ++ (l268 ++ l266))) c5 (qCls q)) ((qAll.drop 9).take 9) = true := by decide +kernel
end Go.Proofs
namespace Go.Proofs
open Go Go.AH
set_option maxRecDepth 100000
theorem c5_2 : allC (fun q => okCl (spL ((e82 q :: l355) ++ (l268 ++ l266))) c5 (qCls q)) ((qAll.drop 18).take 9) = true := by decide +kernel
end Go.Proofs
namespace Go.Proofs
open Go Go.AH
set_option maxRecDepth 100000
theorem c5_3 : allC (fun q => okCl (spL ((e82 q :: l355) ++ (l268 ++ l266))) c5 (qCls q)) ((qAll.drop 27).take 9) = true := by decide +kernel
end Go.Proofs
namespace Go.Proofs
open Go Go.AH
set_option maxRecDepth 100000
theorem c5_4 : allC (fun q => okCl (spL ((e82 q :: l355) ++ (l268 ++ l266))) c5 (qCls q)) ((qAll.drop 36).take 9) = true := by decide +kernel
end Go.Proofs
