/- Calls of the program that are known, each by a run in the kernel. No condition. -/
import Derived.Test.YtbdhilbngaemcaaGreatDoorK3
set_option linter.unusedVariables false
set_option linter.unusedSimpArgs false
namespace Go.Proofs
open Go Go.AH
set_option maxRecDepth 100000
def n1610 : KCall := ⟨95, [.str [111, 112, 101, 110, 32, 104, 116, 116, 112, 58, 47, 47, 97, 46, 116, 101, 115, 116, 32, 56, 46, 56, 46, 56, 46, 56, 10, 102, 101, 116, 99, 104, 32, 48, 32, 71, 69, 84, 32, 104, 116, 116, 112, 58, 47, 47, 49, 48, 46, 48, 46, 48, 46, 49], uB 10], [], .gsl 0 2 1, [some (.row [.str [111, 112, 101, 110, 32, 104, 116, 116, 112, 58, 47, 47, 97, 46, 116, 101, 115, 116, 32, 56, 46, 56, 46, 56, 46, 56], .str [102, 101, 116, 99, 104, 32, 48, 32, 71, 69, 84, 32, 104, 116, 116, 112, 58, 47, 47, 49, 48, 46, 48, 46, 48, 46, 49]] 9 false)]⟩
theorem nk1610 : KOk n1610 := kok_run kok_nil 3000 (by decide +kernel)
def n1653 : KCall := ⟨184, [.gsl 0 11 19, .agg [nI 4, uB 8, uB 8, uB 8, uB 8, uB 0, uB 0, uB 0, uB 0, uB 0, uB 0, uB 0, uB 0, uB 0, uB 0, uB 0, uB 0, nI 32], .ptr 1 1], [b20, some (.row [.gsl 0 11 19, nI 0] 221 true)], .tup [nI 1, .bool false], [b20, b52]⟩
theorem nk1653 : KOk n1653 := kok_run (kok_cons nk145 (kok_cons nk140 kok_nil)) 3000 (by decide +kernel)
def n1671 : KCall := ⟨184, [.gsl 0 11 19, .agg [nI 4, uB 8, uB 8, uB 8, uB 8, uB 0, uB 0, uB 0, uB 0, uB 0, uB 0, uB 0, uB 0, uB 0, uB 0, uB 0, uB 0, nI 31], .ptr 1 1], [b20, b52], .tup [nI 1, .bool false], [b20, b53]⟩
theorem nk1671 : KOk n1671 := kok_run (kok_cons nk145 (kok_cons nk140 kok_nil)) 3000 (by decide +kernel)
def n1689 : KCall := ⟨184, [.gsl 0 11 19, .agg [nI 4, uB 8, uB 8, uB 8, uB 8, uB 0, uB 0, uB 0, uB 0, uB 0, uB 0, uB 0, uB 0, uB 0, uB 0, uB 0, uB 0, nI 30], .ptr 1 1], [b20, b53], .tup [nI 1, .bool false], [b20, b54]⟩
theorem nk1689 : KOk n1689 := kok_run (kok_cons nk145 (kok_cons nk140 kok_nil)) 3000 (by decide +kernel)
def n1707 : KCall := ⟨184, [.gsl 0 11 19, .agg [nI 4, uB 8, uB 8, uB 8, uB 8, uB 0, uB 0, uB 0, uB 0, uB 0, uB 0, uB 0, uB 0, uB 0, uB 0, uB 0, uB 0, nI 29], .ptr 1 1], [b20, b54], .tup [nI 1, .bool false], [b20, b55]⟩
theorem nk1707 : KOk n1707 := kok_run (kok_cons nk145 (kok_cons nk140 kok_nil)) 3000 (by decide +kernel)
def n1733 : KCall := ⟨184, [.gsl 0 11 19, .agg [nI 4, uB 8, uB 8, uB 8, uB 0, uB 0, uB 0, uB 0, uB 0, uB 0, uB 0, uB 0, uB 0, uB 0, uB 0, uB 0, uB 0, nI 28], .ptr 1 1], [b20, b55], .tup [nI 1, .bool false], [b20, b56]⟩
theorem nk1733 : KOk n1733 := kok_run (kok_cons nk145 (kok_cons nk140 kok_nil)) 3000 (by decide +kernel)
def n1751 : KCall := ⟨184, [.gsl 0 11 19, .agg [nI 4, uB 8, uB 8, uB 8, uB 0, uB 0, uB 0, uB 0, uB 0, uB 0, uB 0, uB 0, uB 0, uB 0, uB 0, uB 0, uB 0, nI 27], .ptr 1 1], [b20, b56], .tup [nI 1, .bool false], [b20, b57]⟩
theorem nk1751 : KOk n1751 := kok_run (kok_cons nk145 (kok_cons nk140 kok_nil)) 3000 (by decide +kernel)
def n1769 : KCall := ⟨184, [.gsl 0 11 19, .agg [nI 4, uB 8, uB 8, uB 8, uB 0, uB 0, uB 0, uB 0, uB 0, uB 0, uB 0, uB 0, uB 0, uB 0, uB 0, uB 0, uB 0, nI 26], .ptr 1 1], [b20, b57], .tup [nI 1, .bool false], [b20, b58]⟩
theorem nk1769 : KOk n1769 := kok_run (kok_cons nk145 (kok_cons nk140 kok_nil)) 3000 (by decide +kernel)
def n1787 : KCall := ⟨184, [.gsl 0 11 19, .agg [nI 4, uB 8, uB 8, uB 8, uB 0, uB 0, uB 0, uB 0, uB 0, uB 0, uB 0, uB 0, uB 0, uB 0, uB 0, uB 0, uB 0, nI 25], .ptr 1 1], [b20, b58], .tup [nI 1, .bool false], [b20, b59]⟩
theorem nk1787 : KOk n1787 := kok_run (kok_cons nk145 (kok_cons nk140 kok_nil)) 3000 (by decide +kernel)
def n1805 : KCall := ⟨184, [.gsl 0 11 19, .agg [nI 4, uB 8, uB 8, uB 8, uB 0, uB 0, uB 0, uB 0, uB 0, uB 0, uB 0, uB 0, uB 0, uB 0, uB 0, uB 0, uB 0, nI 24], .ptr 1 1], [b20, b59], .tup [nI 1, .bool false], [b20, b60]⟩
theorem nk1805 : KOk n1805 := kok_run (kok_cons nk145 (kok_cons nk140 kok_nil)) 3000 (by decide +kernel)
def n1823 : KCall := ⟨184, [.gsl 0 11 19, .agg [nI 4, uB 8, uB 8, uB 8, uB 0, uB 0, uB 0, uB 0, uB 0, uB 0, uB 0, uB 0, uB 0, uB 0, uB 0, uB 0, uB 0, nI 23], .ptr 1 1], [b20, b60], .tup [nI 1, .bool false], [b20, b61]⟩
theorem nk1823 : KOk n1823 := kok_run (kok_cons nk145 (kok_cons nk140 kok_nil)) 3000 (by decide +kernel)
def n1841 : KCall := ⟨184, [.gsl 0 11 19, .agg [nI 4, uB 8, uB 8, uB 8, uB 0, uB 0, uB 0, uB 0, uB 0, uB 0, uB 0, uB 0, uB 0, uB 0, uB 0, uB 0, uB 0, nI 22], .ptr 1 1], [b20, b61], .tup [nI 1, .bool false], [b20, b62]⟩
theorem nk1841 : KOk n1841 := kok_run (kok_cons nk145 (kok_cons nk140 kok_nil)) 3000 (by decide +kernel)
def n1859 : KCall := ⟨184, [.gsl 0 11 19, .agg [nI 4, uB 8, uB 8, uB 8, uB 0, uB 0, uB 0, uB 0, uB 0, uB 0, uB 0, uB 0, uB 0, uB 0, uB 0, uB 0, uB 0, nI 21], .ptr 1 1], [b20, b62], .tup [nI 1, .bool false], [b20, b63]⟩
theorem nk1859 : KOk n1859 := kok_run (kok_cons nk145 (kok_cons nk140 kok_nil)) 3000 (by decide +kernel)
def n1885 : KCall := ⟨184, [.gsl 0 11 19, .agg [nI 4, uB 8, uB 8, uB 0, uB 0, uB 0, uB 0, uB 0, uB 0, uB 0, uB 0, uB 0, uB 0, uB 0, uB 0, uB 0, uB 0, nI 20], .ptr 1 1], [b20, b63], .tup [nI 1, .bool false], [b20, b64]⟩
theorem nk1885 : KOk n1885 := kok_run (kok_cons nk145 (kok_cons nk140 kok_nil)) 3000 (by decide +kernel)
def n1903 : KCall := ⟨184, [.gsl 0 11 19, .agg [nI 4, uB 8, uB 8, uB 0, uB 0, uB 0, uB 0, uB 0, uB 0, uB 0, uB 0, uB 0, uB 0, uB 0, uB 0, uB 0, uB 0, nI 19], .ptr 1 1], [b20, b64], .tup [nI 1, .bool false], [b20, b65]⟩
theorem nk1903 : KOk n1903 := kok_run (kok_cons nk145 (kok_cons nk140 kok_nil)) 3000 (by decide +kernel)
def n1921 : KCall := ⟨184, [.gsl 0 11 19, .agg [nI 4, uB 8, uB 8, uB 0, uB 0, uB 0, uB 0, uB 0, uB 0, uB 0, uB 0, uB 0, uB 0, uB 0, uB 0, uB 0, uB 0, nI 18], .ptr 1 1], [b20, b65], .tup [nI 1, .bool false], [b20, b66]⟩
theorem nk1921 : KOk n1921 := kok_run (kok_cons nk145 (kok_cons nk140 kok_nil)) 3000 (by decide +kernel)
def n1939 : KCall := ⟨184, [.gsl 0 11 19, .agg [nI 4, uB 8, uB 8, uB 0, uB 0, uB 0, uB 0, uB 0, uB 0, uB 0, uB 0, uB 0, uB 0, uB 0, uB 0, uB 0, uB 0, nI 17], .ptr 1 1], [b20, b66], .tup [nI 1, .bool false], [b20, b67]⟩
theorem nk1939 : KOk n1939 := kok_run (kok_cons nk145 (kok_cons nk140 kok_nil)) 3000 (by decide +kernel)
def n1941 : KCall := ⟨137, [.agg [nI 4, uB 8, uB 8, uB 8, uB 8, uB 0, uB 0, uB 0, uB 0, uB 0, uB 0, uB 0, uB 0, uB 0, uB 0, uB 0, uB 0], nI 16], [], .agg [nI 4, uB 8, uB 8, uB 0, uB 0, uB 0, uB 0, uB 0, uB 0, uB 0, uB 0, uB 0, uB 0, uB 0, uB 0, uB 0, uB 0, nI 16], []⟩
theorem nk1941 : KOk n1941 := kok_run kok_nil 3000 (by decide +kernel)
def n1954 : KCall := ⟨184, [.gsl 0 11 19, .agg [nI 4, uB 8, uB 8, uB 0, uB 0, uB 0, uB 0, uB 0, uB 0, uB 0, uB 0, uB 0, uB 0, uB 0, uB 0, uB 0, uB 0, nI 16], .ptr 1 1], [b20, b67], .tup [nI 1, .bool false], [b20, b68]⟩
theorem nk1954 : KOk n1954 := kok_run (kok_cons nk145 (kok_cons nk140 kok_nil)) 3000 (by decide +kernel)
def n1956 : KCall := ⟨137, [.agg [nI 4, uB 8, uB 8, uB 8, uB 8, uB 0, uB 0, uB 0, uB 0, uB 0, uB 0, uB 0, uB 0, uB 0, uB 0, uB 0, uB 0], nI 15], [], .agg [nI 4, uB 8, uB 8, uB 0, uB 0, uB 0, uB 0, uB 0, uB 0, uB 0, uB 0, uB 0, uB 0, uB 0, uB 0, uB 0, uB 0, nI 15], []⟩
theorem nk1956 : KOk n1956 := kok_run kok_nil 3000 (by decide +kernel)
def n1972 : KCall := ⟨184, [.gsl 0 11 19, .agg [nI 4, uB 8, uB 8, uB 0, uB 0, uB 0, uB 0, uB 0, uB 0, uB 0, uB 0, uB 0, uB 0, uB 0, uB 0, uB 0, uB 0, nI 15], .ptr 1 1], [b20, b68], .tup [nI 1, .bool false], [b20, b69]⟩
theorem nk1972 : KOk n1972 := kok_run (kok_cons nk145 (kok_cons nk140 kok_nil)) 3000 (by decide +kernel)
def n1974 : KCall := ⟨137, [.agg [nI 4, uB 8, uB 8, uB 8, uB 8, uB 0, uB 0, uB 0, uB 0, uB 0, uB 0, uB 0, uB 0, uB 0, uB 0, uB 0, uB 0], nI 14], [], .agg [nI 4, uB 8, uB 8, uB 0, uB 0, uB 0, uB 0, uB 0, uB 0, uB 0, uB 0, uB 0, uB 0, uB 0, uB 0, uB 0, uB 0, nI 14], []⟩
theorem nk1974 : KOk n1974 := kok_run kok_nil 3000 (by decide +kernel)
def n1990 : KCall := ⟨184, [.gsl 0 11 19, .agg [nI 4, uB 8, uB 8, uB 0, uB 0, uB 0, uB 0, uB 0, uB 0, uB 0, uB 0, uB 0, uB 0, uB 0, uB 0, uB 0, uB 0, nI 14], .ptr 1 1], [b20, b69], .tup [nI 1, .bool false], [b20, b70]⟩
theorem nk1990 : KOk n1990 := kok_run (kok_cons nk145 (kok_cons nk140 kok_nil)) 3000 (by decide +kernel)
def n1992 : KCall := ⟨137, [.agg [nI 4, uB 8, uB 8, uB 8, uB 8, uB 0, uB 0, uB 0, uB 0, uB 0, uB 0, uB 0, uB 0, uB 0, uB 0, uB 0, uB 0], nI 13], [], .agg [nI 4, uB 8, uB 8, uB 0, uB 0, uB 0, uB 0, uB 0, uB 0, uB 0, uB 0, uB 0, uB 0, uB 0, uB 0, uB 0, uB 0, nI 13], []⟩
theorem nk1992 : KOk n1992 := kok_run kok_nil 3000 (by decide +kernel)
def n2008 : KCall := ⟨184, [.gsl 0 11 19, .agg [nI 4, uB 8, uB 8, uB 0, uB 0, uB 0, uB 0, uB 0, uB 0, uB 0, uB 0, uB 0, uB 0, uB 0, uB 0, uB 0, uB 0, nI 13], .ptr 1 1], [b20, b70], .tup [nI 1, .bool false], [b20, b71]⟩
theorem nk2008 : KOk n2008 := kok_run (kok_cons nk145 (kok_cons nk140 kok_nil)) 3000 (by decide +kernel)
def n2010 : KCall := ⟨137, [.agg [nI 4, uB 8, uB 8, uB 8, uB 8, uB 0, uB 0, uB 0, uB 0, uB 0, uB 0, uB 0, uB 0, uB 0, uB 0, uB 0, uB 0], nI 12], [], .agg [nI 4, uB 8, uB 0, uB 0, uB 0, uB 0, uB 0, uB 0, uB 0, uB 0, uB 0, uB 0, uB 0, uB 0, uB 0, uB 0, uB 0, nI 12], []⟩
theorem nk2010 : KOk n2010 := kok_run kok_nil 3000 (by decide +kernel)
def n2032 : KCall := ⟨184, [.gsl 0 11 19, .agg [nI 4, uB 8, uB 0, uB 0, uB 0, uB 0, uB 0, uB 0, uB 0, uB 0, uB 0, uB 0, uB 0, uB 0, uB 0, uB 0, uB 0, nI 12], .ptr 1 1], [b20, b71], .tup [nI 1, .bool false], [b20, b72]⟩
theorem nk2032 : KOk n2032 := kok_run (kok_cons nk145 (kok_cons nk140 kok_nil)) 3000 (by decide +kernel)
def n2034 : KCall := ⟨137, [.agg [nI 4, uB 8, uB 8, uB 8, uB 8, uB 0, uB 0, uB 0, uB 0, uB 0, uB 0, uB 0, uB 0, uB 0, uB 0, uB 0, uB 0], nI 11], [], .agg [nI 4, uB 8, uB 0, uB 0, uB 0, uB 0, uB 0, uB 0, uB 0, uB 0, uB 0, uB 0, uB 0, uB 0, uB 0, uB 0, uB 0, nI 11], []⟩
theorem nk2034 : KOk n2034 := kok_run kok_nil 3000 (by decide +kernel)
def n2050 : KCall := ⟨184, [.gsl 0 11 19, .agg [nI 4, uB 8, uB 0, uB 0, uB 0, uB 0, uB 0, uB 0, uB 0, uB 0, uB 0, uB 0, uB 0, uB 0, uB 0, uB 0, uB 0, nI 11], .ptr 1 1], [b20, b72], .tup [nI 1, .bool false], [b20, b73]⟩
theorem nk2050 : KOk n2050 := kok_run (kok_cons nk145 (kok_cons nk140 kok_nil)) 3000 (by decide +kernel)
def n2052 : KCall := ⟨137, [.agg [nI 4, uB 8, uB 8, uB 8, uB 8, uB 0, uB 0, uB 0, uB 0, uB 0, uB 0, uB 0, uB 0, uB 0, uB 0, uB 0, uB 0], nI 10], [], .agg [nI 4, uB 8, uB 0, uB 0, uB 0, uB 0, uB 0, uB 0, uB 0, uB 0, uB 0, uB 0, uB 0, uB 0, uB 0, uB 0, uB 0, nI 10], []⟩
theorem nk2052 : KOk n2052 := kok_run kok_nil 3000 (by decide +kernel)
def n2065 : KCall := ⟨184, [.gsl 0 11 19, .agg [nI 4, uB 8, uB 0, uB 0, uB 0, uB 0, uB 0, uB 0, uB 0, uB 0, uB 0, uB 0, uB 0, uB 0, uB 0, uB 0, uB 0, nI 10], .ptr 1 1], [b20, b73], .tup [nI 1, .bool false], [b20, b74]⟩
theorem nk2065 : KOk n2065 := kok_run (kok_cons nk145 (kok_cons nk140 kok_nil)) 3000 (by decide +kernel)
def n2067 : KCall := ⟨137, [.agg [nI 4, uB 8, uB 8, uB 8, uB 8, uB 0, uB 0, uB 0, uB 0, uB 0, uB 0, uB 0, uB 0, uB 0, uB 0, uB 0, uB 0], nI 9], [], .agg [nI 4, uB 8, uB 0, uB 0, uB 0, uB 0, uB 0, uB 0, uB 0, uB 0, uB 0, uB 0, uB 0, uB 0, uB 0, uB 0, uB 0, nI 9], []⟩
theorem nk2067 : KOk n2067 := kok_run kok_nil 3000 (by decide +kernel)
def n2083 : KCall := ⟨184, [.gsl 0 11 19, .agg [nI 4, uB 8, uB 0, uB 0, uB 0, uB 0, uB 0, uB 0, uB 0, uB 0, uB 0, uB 0, uB 0, uB 0, uB 0, uB 0, uB 0, nI 9], .ptr 1 1], [b20, b74], .tup [nI 1, .bool false], [b20, b75]⟩
theorem nk2083 : KOk n2083 := kok_run (kok_cons nk145 (kok_cons nk140 kok_nil)) 3000 (by decide +kernel)
def n2085 : KCall := ⟨137, [.agg [nI 4, uB 8, uB 8, uB 8, uB 8, uB 0, uB 0, uB 0, uB 0, uB 0, uB 0, uB 0, uB 0, uB 0, uB 0, uB 0, uB 0], nI 8], [], .agg [nI 4, uB 8, uB 0, uB 0, uB 0, uB 0, uB 0, uB 0, uB 0, uB 0, uB 0, uB 0, uB 0, uB 0, uB 0, uB 0, uB 0, nI 8], []⟩
theorem nk2085 : KOk n2085 := kok_run kok_nil 3000 (by decide +kernel)
def n2098 : KCall := ⟨184, [.gsl 0 11 19, .agg [nI 4, uB 8, uB 0, uB 0, uB 0, uB 0, uB 0, uB 0, uB 0, uB 0, uB 0, uB 0, uB 0, uB 0, uB 0, uB 0, uB 0, nI 8], .ptr 1 1], [b20, b75], .tup [nI 1, .bool false], [b20, b76]⟩
theorem nk2098 : KOk n2098 := kok_run (kok_cons nk140 kok_nil) 3000 (by decide +kernel)
def n2100 : KCall := ⟨137, [.agg [nI 4, uB 8, uB 8, uB 8, uB 8, uB 0, uB 0, uB 0, uB 0, uB 0, uB 0, uB 0, uB 0, uB 0, uB 0, uB 0, uB 0], nI 7], [], .agg [nI 4, uB 8, uB 0, uB 0, uB 0, uB 0, uB 0, uB 0, uB 0, uB 0, uB 0, uB 0, uB 0, uB 0, uB 0, uB 0, uB 0, nI 7], []⟩
theorem nk2100 : KOk n2100 := kok_run kok_nil 3000 (by decide +kernel)
def n2115 : KCall := ⟨184, [.gsl 0 11 19, .agg [nI 4, uB 8, uB 0, uB 0, uB 0, uB 0, uB 0, uB 0, uB 0, uB 0, uB 0, uB 0, uB 0, uB 0, uB 0, uB 0, uB 0, nI 7], .ptr 1 1], [b20, b76], .tup [nI 1, .bool false], [b20, b77]⟩
theorem nk2115 : KOk n2115 := kok_run (kok_cons nk140 kok_nil) 3000 (by decide +kernel)
def n2117 : KCall := ⟨137, [.agg [nI 4, uB 8, uB 8, uB 8, uB 8, uB 0, uB 0, uB 0, uB 0, uB 0, uB 0, uB 0, uB 0, uB 0, uB 0, uB 0, uB 0], nI 6], [], .agg [nI 4, uB 8, uB 0, uB 0, uB 0, uB 0, uB 0, uB 0, uB 0, uB 0, uB 0, uB 0, uB 0, uB 0, uB 0, uB 0, uB 0, nI 6], []⟩
theorem nk2117 : KOk n2117 := kok_run kok_nil 3000 (by decide +kernel)
def n2132 : KCall := ⟨184, [.gsl 0 11 19, .agg [nI 4, uB 8, uB 0, uB 0, uB 0, uB 0, uB 0, uB 0, uB 0, uB 0, uB 0, uB 0, uB 0, uB 0, uB 0, uB 0, uB 0, nI 6], .ptr 1 1], [b20, b77], .tup [nI 1, .bool false], [b20, b78]⟩
theorem nk2132 : KOk n2132 := kok_run (kok_cons nk140 kok_nil) 3000 (by decide +kernel)
end Go.Proofs
