/- Calls of the program that are known, each by a run in the kernel. No condition. -/
import Derived.Test.YtbdhilbngaemcaaGreatDoorK2
set_option linter.unusedVariables false
set_option linter.unusedSimpArgs false
namespace Go.Proofs
open Go Go.AH
set_option maxRecDepth 100000
def n1165 : KCall := ⟨27, [.str [49, 48, 46, 48, 46, 48, 46, 48, 47, 56]], [], .tup [.agg [nI 4, uB 10, uB 0, uB 0, uB 0, uB 0, uB 0, uB 0, uB 0, uB 0, uB 0, uB 0, uB 0, uB 0, uB 0, uB 0, uB 0, nI 8], nI 0], []⟩
theorem nk1165 : KOk n1165 := kok_run (kok_cons nk1164 kok_nil) 3000 (by decide +kernel)
def n1208 : KCall := ⟨53, [.agg [nI 4, uB 100, uB 64, uB 0, uB 0, uB 0, uB 0, uB 0, uB 0, uB 0, uB 0, uB 0, uB 0, uB 0, uB 0, uB 0, uB 0, nI 10]], [], .bool true, []⟩
theorem nk1208 : KOk n1208 := kok_run kok_nil 3000 (by decide +kernel)
def n1209 : KCall := ⟨27, [.str [49, 48, 48, 46, 54, 52, 46, 48, 46, 48, 47, 49, 48]], [], .tup [.agg [nI 4, uB 100, uB 64, uB 0, uB 0, uB 0, uB 0, uB 0, uB 0, uB 0, uB 0, uB 0, uB 0, uB 0, uB 0, uB 0, uB 0, nI 10], nI 0], []⟩
theorem nk1209 : KOk n1209 := kok_run (kok_cons nk1208 kok_nil) 3000 (by decide +kernel)
def n1248 : KCall := ⟨27, [.str [49, 54, 57, 46, 50, 53, 52, 46, 48, 46, 48, 47, 49, 54]], [], .tup [.agg [nI 4, uB 169, uB 254, uB 0, uB 0, uB 0, uB 0, uB 0, uB 0, uB 0, uB 0, uB 0, uB 0, uB 0, uB 0, uB 0, uB 0, nI 16], nI 0], []⟩
theorem nk1248 : KOk n1248 := kok_run kok_nil 3000 (by decide +kernel)
def n1256 : KCall := ⟨28, [.gsl 0 6 19, .agg [nI 4, uB 169, uB 254, uB 0, uB 0, uB 0, uB 0, uB 0, uB 0, uB 0, uB 0, uB 0, uB 0, uB 0, uB 0, uB 0, uB 0, nI 16], nI 1], [b48], .tup [.gsl 1 7 19, nI 0], [b48, b49]⟩
theorem nk1256 : KOk n1256 := kok_run kok_nil 3000 (by decide +kernel)
def n1286 : KCall := ⟨27, [.str [49, 55, 50, 46, 49, 54, 46, 48, 46, 48, 47, 49, 50]], [], .tup [.agg [nI 4, uB 172, uB 16, uB 0, uB 0, uB 0, uB 0, uB 0, uB 0, uB 0, uB 0, uB 0, uB 0, uB 0, uB 0, uB 0, uB 0, nI 12], nI 0], []⟩
theorem nk1286 : KOk n1286 := kok_run kok_nil 3000 (by decide +kernel)
def n1294 : KCall := ⟨28, [.gsl 0 7 19, .agg [nI 4, uB 172, uB 16, uB 0, uB 0, uB 0, uB 0, uB 0, uB 0, uB 0, uB 0, uB 0, uB 0, uB 0, uB 0, uB 0, uB 0, nI 12], nI 1], [b49], .tup [.gsl 1 8 19, nI 0], [b49, b50]⟩
theorem nk1294 : KOk n1294 := kok_run kok_nil 3000 (by decide +kernel)
def n1320 : KCall := ⟨27, [.str [49, 57, 50, 46, 49, 54, 56, 46, 48, 46, 48, 47, 49, 54]], [], .tup [.agg [nI 4, uB 192, uB 168, uB 0, uB 0, uB 0, uB 0, uB 0, uB 0, uB 0, uB 0, uB 0, uB 0, uB 0, uB 0, uB 0, uB 0, nI 16], nI 0], []⟩
theorem nk1320 : KOk n1320 := kok_run kok_nil 3000 (by decide +kernel)
def n1328 : KCall := ⟨28, [.gsl 0 8 19, .agg [nI 4, uB 192, uB 168, uB 0, uB 0, uB 0, uB 0, uB 0, uB 0, uB 0, uB 0, uB 0, uB 0, uB 0, uB 0, uB 0, uB 0, nI 16], nI 1], [b50], .tup [.gsl 1 9 19, nI 0], [b50, some (.row [nI 4, uB 0, uB 0, uB 0, uB 0, uB 0, uB 0, uB 0, uB 0, uB 0, uB 0, uB 0, uB 0, uB 0, uB 0, uB 0, uB 0, nI 32, nI 0, nI 4, uB 10, uB 0, uB 0, uB 0, uB 0, uB 0, uB 0, uB 0, uB 0, uB 0, uB 0, uB 0, uB 0, uB 0, uB 0, uB 0, nI 8, nI 1, nI 4, uB 100, uB 64, uB 0, uB 0, uB 0, uB 0, uB 0, uB 0, uB 0, uB 0, uB 0, uB 0, uB 0, uB 0, uB 0, uB 0, nI 10, nI 1, nI 4, uB 127, uB 0, uB 0, uB 0, uB 0, uB 0, uB 0, uB 0, uB 0, uB 0, uB 0, uB 0, uB 0, uB 0, uB 0, uB 0, nI 8, nI 0, nI 4, uB 169, uB 254, uB 0, uB 0, uB 0, uB 0, uB 0, uB 0, uB 0, uB 0, uB 0, uB 0, uB 0, uB 0, uB 0, uB 0, nI 16, nI 1, nI 4, uB 172, uB 16, uB 0, uB 0, uB 0, uB 0, uB 0, uB 0, uB 0, uB 0, uB 0, uB 0, uB 0, uB 0, uB 0, uB 0, nI 12, nI 1, nI 4, uB 192, uB 168, uB 0, uB 0, uB 0, uB 0, uB 0, uB 0, uB 0, uB 0, uB 0, uB 0, uB 0, uB 0, uB 0, uB 0, nI 16, nI 1, nI 6, uB 0, uB 0, uB 0, uB 0, uB 0, uB 0, uB 0, uB 0, uB 0, uB 0, uB 0, uB 0, uB 0, uB 0, uB 0, uB 0, nI 128, nI 0, nI 6, uB 0, uB 0, uB 0, uB 0, uB 0, uB 0, uB 0, uB 0, uB 0, uB 0, uB 0, uB 0, uB 0, uB 0, uB 0, uB 1, nI 128, nI 0] 82 false)]⟩
theorem nk1328 : KOk n1328 := kok_run kok_nil 3000 (by decide +kernel)
def n1343 : KCall := ⟨93, [.agg [nI 6, uB 252, uB 0, uB 0, uB 0, uB 0, uB 0, uB 0, uB 0, uB 0, uB 0, uB 0, uB 0, uB 0, uB 0, uB 0, uB 0]], [], nI 128, []⟩
theorem nk1343 : KOk n1343 := kok_run kok_nil 3000 (by decide +kernel)
def n1465 : KCall := ⟨53, [.agg [nI 6, uB 252, uB 0, uB 0, uB 0, uB 0, uB 0, uB 0, uB 0, uB 0, uB 0, uB 0, uB 0, uB 0, uB 0, uB 0, uB 0, nI 7]], [], .bool true, []⟩
theorem nk1465 : KOk n1465 := kok_run (kok_cons nk1343 kok_nil) 3000 (by decide +kernel)
def n1466 : KCall := ⟨27, [.str [102, 99, 48, 48, 58, 58, 47, 55]], [], .tup [.agg [nI 6, uB 252, uB 0, uB 0, uB 0, uB 0, uB 0, uB 0, uB 0, uB 0, uB 0, uB 0, uB 0, uB 0, uB 0, uB 0, uB 0, nI 7], nI 0], []⟩
theorem nk1466 : KOk n1466 := kok_run (kok_cons nk1465 kok_nil) 3000 (by decide +kernel)
def n1483 : KCall := ⟨93, [.agg [nI 6, uB 254, uB 128, uB 0, uB 0, uB 0, uB 0, uB 0, uB 0, uB 0, uB 0, uB 0, uB 0, uB 0, uB 0, uB 0, uB 0]], [], nI 128, []⟩
theorem nk1483 : KOk n1483 := kok_run kok_nil 3000 (by decide +kernel)
def n1602 : KCall := ⟨53, [.agg [nI 6, uB 254, uB 128, uB 0, uB 0, uB 0, uB 0, uB 0, uB 0, uB 0, uB 0, uB 0, uB 0, uB 0, uB 0, uB 0, uB 0, nI 10]], [], .bool true, []⟩
theorem nk1602 : KOk n1602 := kok_run (kok_cons nk1483 kok_nil) 3000 (by decide +kernel)
def n1603 : KCall := ⟨27, [.str [102, 101, 56, 48, 58, 58, 47, 49, 48]], [], .tup [.agg [nI 6, uB 254, uB 128, uB 0, uB 0, uB 0, uB 0, uB 0, uB 0, uB 0, uB 0, uB 0, uB 0, uB 0, uB 0, uB 0, uB 0, nI 10], nI 0], []⟩
theorem nk1603 : KOk n1603 := kok_run (kok_cons nk1602 kok_nil) 3000 (by decide +kernel)
def n1608 : KCall := ⟨10, [], [], .gsl 0 11 19, [b51]⟩
theorem nk1608 : KOk n1608 := kok_run (kok_cons nk1602 (kok_cons nk1603 (kok_cons nk1465 (kok_cons nk1466 (kok_cons nk1328 (kok_cons nk1320 (kok_cons nk1294 (kok_cons nk1286 (kok_cons nk1256 (kok_cons nk1248 (kok_cons nk1208 (kok_cons nk1209 (kok_cons nk1164 (kok_cons nk1165 (kok_cons nk1132 (kok_cons nk1126 (kok_cons nk1109 (kok_cons nk1095 (kok_cons nk1076 (kok_cons nk1077 kok_nil)))))))))))))))))))) 3000 (by decide +kernel)
end Go.Proofs
