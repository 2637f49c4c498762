/- Calls of the program that are known, each by a run in the kernel. No condition. -/
import Derived.Test.YtbdhilbngaemcaaGreatDoorK4
set_option linter.unusedVariables false
set_option linter.unusedSimpArgs false
namespace Go.Proofs
open Go Go.AH
set_option maxRecDepth 100000
def n2134 : KCall := ⟨137, [.agg [nI 4, uB 8, uB 8, uB 8, uB 8, uB 0, uB 0, uB 0, uB 0, uB 0, uB 0, uB 0, uB 0, uB 0, uB 0, uB 0, uB 0], nI 5], [], .agg [nI 4, uB 8, uB 0, uB 0, uB 0, uB 0, uB 0, uB 0, uB 0, uB 0, uB 0, uB 0, uB 0, uB 0, uB 0, uB 0, uB 0, nI 5], []⟩
theorem nk2134 : KOk n2134 := kok_run kok_nil 3000 (by decide +kernel)
def n2150 : KCall := ⟨184, [.gsl 0 11 19, .agg [nI 4, uB 8, uB 0, uB 0, uB 0, uB 0, uB 0, uB 0, uB 0, uB 0, uB 0, uB 0, uB 0, uB 0, uB 0, uB 0, uB 0, nI 5], .ptr 1 1], [b20, b78], .tup [nI 1, .bool false], [b20, b79]⟩
theorem nk2150 : KOk n2150 := kok_run (kok_cons nk140 kok_nil) 3000 (by decide +kernel)
def n2152 : KCall := ⟨137, [.agg [nI 4, uB 8, uB 8, uB 8, uB 8, uB 0, uB 0, uB 0, uB 0, uB 0, uB 0, uB 0, uB 0, uB 0, uB 0, uB 0, uB 0], nI 4], [], .agg [nI 4, uB 0, uB 0, uB 0, uB 0, uB 0, uB 0, uB 0, uB 0, uB 0, uB 0, uB 0, uB 0, uB 0, uB 0, uB 0, uB 0, nI 4], []⟩
theorem nk2152 : KOk n2152 := kok_run kok_nil 3000 (by decide +kernel)
def n2176 : KCall := ⟨184, [.gsl 0 11 19, .agg [nI 4, uB 0, uB 0, uB 0, uB 0, uB 0, uB 0, uB 0, uB 0, uB 0, uB 0, uB 0, uB 0, uB 0, uB 0, uB 0, uB 0, nI 4], .ptr 1 1], [b20, b79], .tup [nI 0, .bool false], [b20, b80]⟩
theorem nk2176 : KOk n2176 := kok_run (kok_cons nk140 kok_nil) 3000 (by decide +kernel)
def n2178 : KCall := ⟨137, [.agg [nI 4, uB 8, uB 8, uB 8, uB 8, uB 0, uB 0, uB 0, uB 0, uB 0, uB 0, uB 0, uB 0, uB 0, uB 0, uB 0, uB 0], nI 3], [], .agg [nI 4, uB 0, uB 0, uB 0, uB 0, uB 0, uB 0, uB 0, uB 0, uB 0, uB 0, uB 0, uB 0, uB 0, uB 0, uB 0, uB 0, nI 3], []⟩
theorem nk2178 : KOk n2178 := kok_run kok_nil 3000 (by decide +kernel)
def n2194 : KCall := ⟨184, [.gsl 0 11 19, .agg [nI 4, uB 0, uB 0, uB 0, uB 0, uB 0, uB 0, uB 0, uB 0, uB 0, uB 0, uB 0, uB 0, uB 0, uB 0, uB 0, uB 0, nI 3], .ptr 1 1], [b20, b80], .tup [nI 0, .bool false], [b20, b81]⟩
theorem nk2194 : KOk n2194 := kok_run (kok_cons nk140 kok_nil) 3000 (by decide +kernel)
def n2196 : KCall := ⟨137, [.agg [nI 4, uB 8, uB 8, uB 8, uB 8, uB 0, uB 0, uB 0, uB 0, uB 0, uB 0, uB 0, uB 0, uB 0, uB 0, uB 0, uB 0], nI 2], [], .agg [nI 4, uB 0, uB 0, uB 0, uB 0, uB 0, uB 0, uB 0, uB 0, uB 0, uB 0, uB 0, uB 0, uB 0, uB 0, uB 0, uB 0, nI 2], []⟩
theorem nk2196 : KOk n2196 := kok_run kok_nil 3000 (by decide +kernel)
def n2212 : KCall := ⟨184, [.gsl 0 11 19, .agg [nI 4, uB 0, uB 0, uB 0, uB 0, uB 0, uB 0, uB 0, uB 0, uB 0, uB 0, uB 0, uB 0, uB 0, uB 0, uB 0, uB 0, nI 2], .ptr 1 1], [b20, b81], .tup [nI 0, .bool false], [b20, b82]⟩
theorem nk2212 : KOk n2212 := kok_run (kok_cons nk140 kok_nil) 3000 (by decide +kernel)
def n2214 : KCall := ⟨137, [.agg [nI 4, uB 8, uB 8, uB 8, uB 8, uB 0, uB 0, uB 0, uB 0, uB 0, uB 0, uB 0, uB 0, uB 0, uB 0, uB 0, uB 0], nI 1], [], .agg [nI 4, uB 0, uB 0, uB 0, uB 0, uB 0, uB 0, uB 0, uB 0, uB 0, uB 0, uB 0, uB 0, uB 0, uB 0, uB 0, uB 0, nI 1], []⟩
theorem nk2214 : KOk n2214 := kok_run kok_nil 3000 (by decide +kernel)
def n2230 : KCall := ⟨184, [.gsl 0 11 19, .agg [nI 4, uB 0, uB 0, uB 0, uB 0, uB 0, uB 0, uB 0, uB 0, uB 0, uB 0, uB 0, uB 0, uB 0, uB 0, uB 0, uB 0, nI 1], .ptr 1 1], [b20, b82], .tup [nI 0, .bool false], [b20, b83]⟩
theorem nk2230 : KOk n2230 := kok_run (kok_cons nk140 kok_nil) 3000 (by decide +kernel)
def n2232 : KCall := ⟨137, [.agg [nI 4, uB 8, uB 8, uB 8, uB 8, uB 0, uB 0, uB 0, uB 0, uB 0, uB 0, uB 0, uB 0, uB 0, uB 0, uB 0, uB 0], nI 0], [], .agg [nI 4, uB 0, uB 0, uB 0, uB 0, uB 0, uB 0, uB 0, uB 0, uB 0, uB 0, uB 0, uB 0, uB 0, uB 0, uB 0, uB 0, nI 0], []⟩
theorem nk2232 : KOk n2232 := kok_run kok_nil 3000 (by decide +kernel)
def n2248 : KCall := ⟨184, [.gsl 0 11 19, .agg [nI 4, uB 0, uB 0, uB 0, uB 0, uB 0, uB 0, uB 0, uB 0, uB 0, uB 0, uB 0, uB 0, uB 0, uB 0, uB 0, uB 0, nI 0], .ptr 1 1], [b20, b83], .tup [nI 0, .bool false], [b20, b84]⟩
theorem nk2248 : KOk n2248 := kok_run (kok_cons nk140 kok_nil) 3000 (by decide +kernel)
def n2249 : KCall := ⟨275, [.ptr 0 0, .agg [nI 4, uB 8, uB 8, uB 8, uB 8, uB 0, uB 0, uB 0, uB 0, uB 0, uB 0, uB 0, uB 0, uB 0, uB 0, uB 0, uB 0]], [some (.row [.gsl 1 11 19, nI 0] 221 true), b20], .tup [.agg [nI 0, uB 0, uB 0, uB 0, uB 0, uB 0, uB 0, uB 0, uB 0, uB 0, uB 0, uB 0, uB 0, uB 0, uB 0, uB 0, uB 0, nI 0, nI 0], .bool false], [b85, b20]⟩
theorem nk2249 : KOk n2249 := kok_run (kok_cons nk2248 (kok_cons nk2232 (kok_cons nk2230 (kok_cons nk2214 (kok_cons nk2212 (kok_cons nk2196 (kok_cons nk2194 (kok_cons nk2178 (kok_cons nk2176 (kok_cons nk2152 (kok_cons nk2150 (kok_cons nk2134 (kok_cons nk2132 (kok_cons nk2117 (kok_cons nk2115 (kok_cons nk2100 (kok_cons nk2098 (kok_cons nk2085 (kok_cons nk2083 (kok_cons nk2067 (kok_cons nk2065 (kok_cons nk2052 (kok_cons nk2050 (kok_cons nk2034 (kok_cons nk2032 (kok_cons nk2010 (kok_cons nk2008 (kok_cons nk1992 (kok_cons nk1990 (kok_cons nk1974 (kok_cons nk1972 (kok_cons nk1956 (kok_cons nk1954 (kok_cons nk1941 (kok_cons nk1939 (kok_cons nk1921 (kok_cons nk1903 (kok_cons nk1885 (kok_cons nk1859 (kok_cons nk1841 (kok_cons nk1823 (kok_cons nk1805 (kok_cons nk1787 (kok_cons nk1769 (kok_cons nk1751 (kok_cons nk1733 (kok_cons nk1707 (kok_cons nk1689 (kok_cons nk1671 (kok_cons nk1653 kok_nil)))))))))))))))))))))))))))))))))))))))))))))))))) 3000 (by decide +kernel)
def n2263 : KCall := ⟨7, [.ptr 0 0, .str [111, 112, 101, 110, 32, 104, 116, 116, 112, 58, 47, 47, 97, 46, 116, 101, 115, 116, 32, 56, 46, 56, 46, 56, 46, 56]], [b21, b22, b23, b24, b25, b26, some (.mp [] 0), b27, b28, some (.mp [] 0), b20, some (.mp [] 0)], .str [111, 112, 101, 110, 101, 100, 32, 112, 97, 103, 101, 32, 48, 32, 104, 116, 116, 112, 58, 47, 47, 97, 46, 116, 101, 115, 116, 32, 112, 117, 98, 108, 105, 99, 10], [b29, b30, b23, b24, b25, b26, b86, some (.row [.gsl 10 11 19, nI 165] 221 true), b28, some (.mp [] 0), b20, some (.mp [] 0), b87]⟩
theorem nk2263 : KOk n2263 := kok_run (kok_cons nk31 (kok_cons nk716 (kok_cons nk709 (kok_cons nk2249 (kok_cons nk687 (kok_cons nk599 (kok_cons nk598 kok_nil))))))) 3000 (by decide +kernel)
def n2365 : KCall := ⟨140, [.str [104, 116, 116, 112, 58, 47, 47, 49, 48, 46, 48, 46, 48, 46, 49]], [], .tup [.agg [.str [104, 116, 116, 112], .str [49, 48, 46, 48, 46, 48, 46, 49], nI 80, .str [47], .str []], nI 0], []⟩
theorem nk2365 : KOk n2365 := kok_run (kok_cons nk864 (kok_cons nk31 kok_nil)) 3000 (by decide +kernel)
def n2390 : KCall := ⟨184, [.gsl 0 11 19, .agg [nI 4, uB 10, uB 0, uB 0, uB 1, uB 0, uB 0, uB 0, uB 0, uB 0, uB 0, uB 0, uB 0, uB 0, uB 0, uB 0, uB 0, nI 32], .ptr 1 1], [b20, b84], .tup [nI 2, .bool false], [b20, b88]⟩
theorem nk2390 : KOk n2390 := kok_run (kok_cons nk145 (kok_cons nk140 kok_nil)) 3000 (by decide +kernel)
def n2407 : KCall := ⟨184, [.gsl 0 11 19, .agg [nI 4, uB 10, uB 0, uB 0, uB 0, uB 0, uB 0, uB 0, uB 0, uB 0, uB 0, uB 0, uB 0, uB 0, uB 0, uB 0, uB 0, nI 31], .ptr 1 1], [b20, b88], .tup [nI 2, .bool false], [b20, b89]⟩
theorem nk2407 : KOk n2407 := kok_run (kok_cons nk145 (kok_cons nk140 kok_nil)) 3000 (by decide +kernel)
def n2418 : KCall := ⟨184, [.gsl 0 11 19, .agg [nI 4, uB 10, uB 0, uB 0, uB 0, uB 0, uB 0, uB 0, uB 0, uB 0, uB 0, uB 0, uB 0, uB 0, uB 0, uB 0, uB 0, nI 30], .ptr 1 1], [b20, b89], .tup [nI 2, .bool false], [b20, b90]⟩
theorem nk2418 : KOk n2418 := kok_run (kok_cons nk145 (kok_cons nk140 kok_nil)) 3000 (by decide +kernel)
def n2429 : KCall := ⟨184, [.gsl 0 11 19, .agg [nI 4, uB 10, uB 0, uB 0, uB 0, uB 0, uB 0, uB 0, uB 0, uB 0, uB 0, uB 0, uB 0, uB 0, uB 0, uB 0, uB 0, nI 29], .ptr 1 1], [b20, b90], .tup [nI 2, .bool false], [b20, b91]⟩
theorem nk2429 : KOk n2429 := kok_run (kok_cons nk145 (kok_cons nk140 kok_nil)) 3000 (by decide +kernel)
def n2440 : KCall := ⟨184, [.gsl 0 11 19, .agg [nI 4, uB 10, uB 0, uB 0, uB 0, uB 0, uB 0, uB 0, uB 0, uB 0, uB 0, uB 0, uB 0, uB 0, uB 0, uB 0, uB 0, nI 28], .ptr 1 1], [b20, b91], .tup [nI 2, .bool false], [b20, b92]⟩
theorem nk2440 : KOk n2440 := kok_run (kok_cons nk145 (kok_cons nk140 kok_nil)) 3000 (by decide +kernel)
def n2451 : KCall := ⟨184, [.gsl 0 11 19, .agg [nI 4, uB 10, uB 0, uB 0, uB 0, uB 0, uB 0, uB 0, uB 0, uB 0, uB 0, uB 0, uB 0, uB 0, uB 0, uB 0, uB 0, nI 27], .ptr 1 1], [b20, b92], .tup [nI 2, .bool false], [b20, b93]⟩
theorem nk2451 : KOk n2451 := kok_run (kok_cons nk145 (kok_cons nk140 kok_nil)) 3000 (by decide +kernel)
def n2462 : KCall := ⟨184, [.gsl 0 11 19, .agg [nI 4, uB 10, uB 0, uB 0, uB 0, uB 0, uB 0, uB 0, uB 0, uB 0, uB 0, uB 0, uB 0, uB 0, uB 0, uB 0, uB 0, nI 26], .ptr 1 1], [b20, b93], .tup [nI 2, .bool false], [b20, b94]⟩
theorem nk2462 : KOk n2462 := kok_run (kok_cons nk145 (kok_cons nk140 kok_nil)) 3000 (by decide +kernel)
def n2473 : KCall := ⟨184, [.gsl 0 11 19, .agg [nI 4, uB 10, uB 0, uB 0, uB 0, uB 0, uB 0, uB 0, uB 0, uB 0, uB 0, uB 0, uB 0, uB 0, uB 0, uB 0, uB 0, nI 25], .ptr 1 1], [b20, b94], .tup [nI 2, .bool false], [b20, b95]⟩
theorem nk2473 : KOk n2473 := kok_run (kok_cons nk145 (kok_cons nk140 kok_nil)) 3000 (by decide +kernel)
def n2484 : KCall := ⟨184, [.gsl 0 11 19, .agg [nI 4, uB 10, uB 0, uB 0, uB 0, uB 0, uB 0, uB 0, uB 0, uB 0, uB 0, uB 0, uB 0, uB 0, uB 0, uB 0, uB 0, nI 24], .ptr 1 1], [b20, b95], .tup [nI 2, .bool false], [b20, b96]⟩
theorem nk2484 : KOk n2484 := kok_run (kok_cons nk145 (kok_cons nk140 kok_nil)) 3000 (by decide +kernel)
def n2495 : KCall := ⟨184, [.gsl 0 11 19, .agg [nI 4, uB 10, uB 0, uB 0, uB 0, uB 0, uB 0, uB 0, uB 0, uB 0, uB 0, uB 0, uB 0, uB 0, uB 0, uB 0, uB 0, nI 23], .ptr 1 1], [b20, b96], .tup [nI 2, .bool false], [b20, b97]⟩
theorem nk2495 : KOk n2495 := kok_run (kok_cons nk145 (kok_cons nk140 kok_nil)) 3000 (by decide +kernel)
def n2506 : KCall := ⟨184, [.gsl 0 11 19, .agg [nI 4, uB 10, uB 0, uB 0, uB 0, uB 0, uB 0, uB 0, uB 0, uB 0, uB 0, uB 0, uB 0, uB 0, uB 0, uB 0, uB 0, nI 22], .ptr 1 1], [b20, b97], .tup [nI 2, .bool false], [b20, b98]⟩
theorem nk2506 : KOk n2506 := kok_run (kok_cons nk145 (kok_cons nk140 kok_nil)) 3000 (by decide +kernel)
def n2517 : KCall := ⟨184, [.gsl 0 11 19, .agg [nI 4, uB 10, uB 0, uB 0, uB 0, uB 0, uB 0, uB 0, uB 0, uB 0, uB 0, uB 0, uB 0, uB 0, uB 0, uB 0, uB 0, nI 21], .ptr 1 1], [b20, b98], .tup [nI 2, .bool false], [b20, b99]⟩
theorem nk2517 : KOk n2517 := kok_run (kok_cons nk145 (kok_cons nk140 kok_nil)) 3000 (by decide +kernel)
end Go.Proofs
