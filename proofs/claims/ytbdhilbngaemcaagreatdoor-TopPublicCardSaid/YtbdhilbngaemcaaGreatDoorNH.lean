/- Words and lines of texts, by their lengths. No condition. -/
import Derived.Test.YtbdhilbngaemcaaGreatDoorNA
set_option linter.unusedVariables false
set_option linter.unusedSimpArgs false
namespace Go.Proofs
open Go Go.AH
set_option maxRecDepth 100000
theorem c1_r : allC (okCl (spL l40) c1) chrAll = true := by decide +kernel
theorem c3_r : allC (okCl (spL l40) c3) chrAll = true := by decide +kernel
theorem c4_r : allC (okCl (spL l40) c4) chrAll = true := by decide +kernel
theorem c10_r : allC (okCl (spL l40) c10) chrAll = true := by decide +kernel
end Go.Proofs
namespace Go.Proofs
open Go Go.AH
set_option maxRecDepth 100000
theorem c19_r : allC (okCl (spL l40) c19) chrAll = true := by decide +kernel
theorem c20_r : allC (okCl (spL l40) c20) chrAll = true := by decide +kernel
theorem c7_r : allC (okCl (spL l1266) c7) chrAll = true := by decide +kernel
theorem c11_r : allC (okCl (spL []) c11) chrAll = true := by decide +kernel
end Go.Proofs
namespace Go.Proofs
open Go Go.AH
set_option maxRecDepth 100000
theorem c9_r : allC (okCl (spL []) c9) chrAll = true := by decide +kernel
theorem c12_r : allC (okCl (spL []) c12) chrAll = true := by decide +kernel
theorem c13_r : allC (okCl (spL []) c13) chrAll = true := by decide +kernel
end Go.Proofs
