/- Calls of the program that are known, each by a run in the kernel. No condition. -/
import Derived.Test.YtbdhilbngaemcaaGreatDoorK5
set_option linter.unusedVariables false
set_option linter.unusedSimpArgs false
namespace Go.Proofs
open Go Go.AH
set_option maxRecDepth 100000
def n2528 : KCall := ⟨184, [.gsl 0 11 19, .agg [nI 4, uB 10, uB 0, uB 0, uB 0, uB 0, uB 0, uB 0, uB 0, uB 0, uB 0, uB 0, uB 0, uB 0, uB 0, uB 0, uB 0, nI 20], .ptr 1 1], [b20, b99], .tup [nI 2, .bool false], [b20, b100]⟩
theorem nk2528 : KOk n2528 := kok_run (kok_cons nk145 (kok_cons nk140 kok_nil)) 3000 (by decide +kernel)
def n2539 : KCall := ⟨184, [.gsl 0 11 19, .agg [nI 4, uB 10, uB 0, uB 0, uB 0, uB 0, uB 0, uB 0, uB 0, uB 0, uB 0, uB 0, uB 0, uB 0, uB 0, uB 0, uB 0, nI 19], .ptr 1 1], [b20, b100], .tup [nI 2, .bool false], [b20, b101]⟩
theorem nk2539 : KOk n2539 := kok_run (kok_cons nk145 (kok_cons nk140 kok_nil)) 3000 (by decide +kernel)
def n2550 : KCall := ⟨184, [.gsl 0 11 19, .agg [nI 4, uB 10, uB 0, uB 0, uB 0, uB 0, uB 0, uB 0, uB 0, uB 0, uB 0, uB 0, uB 0, uB 0, uB 0, uB 0, uB 0, nI 18], .ptr 1 1], [b20, b101], .tup [nI 2, .bool false], [b20, b102]⟩
theorem nk2550 : KOk n2550 := kok_run (kok_cons nk145 (kok_cons nk140 kok_nil)) 3000 (by decide +kernel)
def n2561 : KCall := ⟨184, [.gsl 0 11 19, .agg [nI 4, uB 10, uB 0, uB 0, uB 0, uB 0, uB 0, uB 0, uB 0, uB 0, uB 0, uB 0, uB 0, uB 0, uB 0, uB 0, uB 0, nI 17], .ptr 1 1], [b20, b102], .tup [nI 2, .bool false], [b20, b103]⟩
theorem nk2561 : KOk n2561 := kok_run (kok_cons nk145 (kok_cons nk140 kok_nil)) 3000 (by decide +kernel)
def n2563 : KCall := ⟨137, [.agg [nI 4, uB 10, uB 0, uB 0, uB 1, uB 0, uB 0, uB 0, uB 0, uB 0, uB 0, uB 0, uB 0, uB 0, uB 0, uB 0, uB 0], nI 16], [], .agg [nI 4, uB 10, uB 0, uB 0, uB 0, uB 0, uB 0, uB 0, uB 0, uB 0, uB 0, uB 0, uB 0, uB 0, uB 0, uB 0, uB 0, nI 16], []⟩
theorem nk2563 : KOk n2563 := kok_run kok_nil 3000 (by decide +kernel)
def n2572 : KCall := ⟨184, [.gsl 0 11 19, .agg [nI 4, uB 10, uB 0, uB 0, uB 0, uB 0, uB 0, uB 0, uB 0, uB 0, uB 0, uB 0, uB 0, uB 0, uB 0, uB 0, uB 0, nI 16], .ptr 1 1], [b20, b103], .tup [nI 2, .bool false], [b20, b104]⟩
theorem nk2572 : KOk n2572 := kok_run (kok_cons nk145 (kok_cons nk140 kok_nil)) 3000 (by decide +kernel)
def n2574 : KCall := ⟨137, [.agg [nI 4, uB 10, uB 0, uB 0, uB 1, uB 0, uB 0, uB 0, uB 0, uB 0, uB 0, uB 0, uB 0, uB 0, uB 0, uB 0, uB 0], nI 15], [], .agg [nI 4, uB 10, uB 0, uB 0, uB 0, uB 0, uB 0, uB 0, uB 0, uB 0, uB 0, uB 0, uB 0, uB 0, uB 0, uB 0, uB 0, nI 15], []⟩
theorem nk2574 : KOk n2574 := kok_run kok_nil 3000 (by decide +kernel)
def n2583 : KCall := ⟨184, [.gsl 0 11 19, .agg [nI 4, uB 10, uB 0, uB 0, uB 0, uB 0, uB 0, uB 0, uB 0, uB 0, uB 0, uB 0, uB 0, uB 0, uB 0, uB 0, uB 0, nI 15], .ptr 1 1], [b20, b104], .tup [nI 2, .bool false], [b20, b105]⟩
theorem nk2583 : KOk n2583 := kok_run (kok_cons nk145 (kok_cons nk140 kok_nil)) 3000 (by decide +kernel)
def n2585 : KCall := ⟨137, [.agg [nI 4, uB 10, uB 0, uB 0, uB 1, uB 0, uB 0, uB 0, uB 0, uB 0, uB 0, uB 0, uB 0, uB 0, uB 0, uB 0, uB 0], nI 14], [], .agg [nI 4, uB 10, uB 0, uB 0, uB 0, uB 0, uB 0, uB 0, uB 0, uB 0, uB 0, uB 0, uB 0, uB 0, uB 0, uB 0, uB 0, nI 14], []⟩
theorem nk2585 : KOk n2585 := kok_run kok_nil 3000 (by decide +kernel)
def n2594 : KCall := ⟨184, [.gsl 0 11 19, .agg [nI 4, uB 10, uB 0, uB 0, uB 0, uB 0, uB 0, uB 0, uB 0, uB 0, uB 0, uB 0, uB 0, uB 0, uB 0, uB 0, uB 0, nI 14], .ptr 1 1], [b20, b105], .tup [nI 2, .bool false], [b20, b106]⟩
theorem nk2594 : KOk n2594 := kok_run (kok_cons nk145 (kok_cons nk140 kok_nil)) 3000 (by decide +kernel)
def n2596 : KCall := ⟨137, [.agg [nI 4, uB 10, uB 0, uB 0, uB 1, uB 0, uB 0, uB 0, uB 0, uB 0, uB 0, uB 0, uB 0, uB 0, uB 0, uB 0, uB 0], nI 13], [], .agg [nI 4, uB 10, uB 0, uB 0, uB 0, uB 0, uB 0, uB 0, uB 0, uB 0, uB 0, uB 0, uB 0, uB 0, uB 0, uB 0, uB 0, nI 13], []⟩
theorem nk2596 : KOk n2596 := kok_run kok_nil 3000 (by decide +kernel)
def n2605 : KCall := ⟨184, [.gsl 0 11 19, .agg [nI 4, uB 10, uB 0, uB 0, uB 0, uB 0, uB 0, uB 0, uB 0, uB 0, uB 0, uB 0, uB 0, uB 0, uB 0, uB 0, uB 0, nI 13], .ptr 1 1], [b20, b106], .tup [nI 2, .bool false], [b20, b107]⟩
theorem nk2605 : KOk n2605 := kok_run (kok_cons nk145 (kok_cons nk140 kok_nil)) 3000 (by decide +kernel)
def n2607 : KCall := ⟨137, [.agg [nI 4, uB 10, uB 0, uB 0, uB 1, uB 0, uB 0, uB 0, uB 0, uB 0, uB 0, uB 0, uB 0, uB 0, uB 0, uB 0, uB 0], nI 12], [], .agg [nI 4, uB 10, uB 0, uB 0, uB 0, uB 0, uB 0, uB 0, uB 0, uB 0, uB 0, uB 0, uB 0, uB 0, uB 0, uB 0, uB 0, nI 12], []⟩
theorem nk2607 : KOk n2607 := kok_run kok_nil 3000 (by decide +kernel)
def n2616 : KCall := ⟨184, [.gsl 0 11 19, .agg [nI 4, uB 10, uB 0, uB 0, uB 0, uB 0, uB 0, uB 0, uB 0, uB 0, uB 0, uB 0, uB 0, uB 0, uB 0, uB 0, uB 0, nI 12], .ptr 1 1], [b20, b107], .tup [nI 2, .bool false], [b20, b108]⟩
theorem nk2616 : KOk n2616 := kok_run (kok_cons nk145 (kok_cons nk140 kok_nil)) 3000 (by decide +kernel)
def n2618 : KCall := ⟨137, [.agg [nI 4, uB 10, uB 0, uB 0, uB 1, uB 0, uB 0, uB 0, uB 0, uB 0, uB 0, uB 0, uB 0, uB 0, uB 0, uB 0, uB 0], nI 11], [], .agg [nI 4, uB 10, uB 0, uB 0, uB 0, uB 0, uB 0, uB 0, uB 0, uB 0, uB 0, uB 0, uB 0, uB 0, uB 0, uB 0, uB 0, nI 11], []⟩
theorem nk2618 : KOk n2618 := kok_run kok_nil 3000 (by decide +kernel)
def n2627 : KCall := ⟨184, [.gsl 0 11 19, .agg [nI 4, uB 10, uB 0, uB 0, uB 0, uB 0, uB 0, uB 0, uB 0, uB 0, uB 0, uB 0, uB 0, uB 0, uB 0, uB 0, uB 0, nI 11], .ptr 1 1], [b20, b108], .tup [nI 2, .bool false], [b20, b109]⟩
theorem nk2627 : KOk n2627 := kok_run (kok_cons nk145 (kok_cons nk140 kok_nil)) 3000 (by decide +kernel)
def n2629 : KCall := ⟨137, [.agg [nI 4, uB 10, uB 0, uB 0, uB 1, uB 0, uB 0, uB 0, uB 0, uB 0, uB 0, uB 0, uB 0, uB 0, uB 0, uB 0, uB 0], nI 10], [], .agg [nI 4, uB 10, uB 0, uB 0, uB 0, uB 0, uB 0, uB 0, uB 0, uB 0, uB 0, uB 0, uB 0, uB 0, uB 0, uB 0, uB 0, nI 10], []⟩
theorem nk2629 : KOk n2629 := kok_run kok_nil 3000 (by decide +kernel)
def n2638 : KCall := ⟨184, [.gsl 0 11 19, .agg [nI 4, uB 10, uB 0, uB 0, uB 0, uB 0, uB 0, uB 0, uB 0, uB 0, uB 0, uB 0, uB 0, uB 0, uB 0, uB 0, uB 0, nI 10], .ptr 1 1], [b20, b109], .tup [nI 2, .bool false], [b20, b110]⟩
theorem nk2638 : KOk n2638 := kok_run (kok_cons nk140 kok_nil) 3000 (by decide +kernel)
def n2640 : KCall := ⟨137, [.agg [nI 4, uB 10, uB 0, uB 0, uB 1, uB 0, uB 0, uB 0, uB 0, uB 0, uB 0, uB 0, uB 0, uB 0, uB 0, uB 0, uB 0], nI 9], [], .agg [nI 4, uB 10, uB 0, uB 0, uB 0, uB 0, uB 0, uB 0, uB 0, uB 0, uB 0, uB 0, uB 0, uB 0, uB 0, uB 0, uB 0, nI 9], []⟩
theorem nk2640 : KOk n2640 := kok_run kok_nil 3000 (by decide +kernel)
def n2649 : KCall := ⟨184, [.gsl 0 11 19, .agg [nI 4, uB 10, uB 0, uB 0, uB 0, uB 0, uB 0, uB 0, uB 0, uB 0, uB 0, uB 0, uB 0, uB 0, uB 0, uB 0, uB 0, nI 9], .ptr 1 1], [b20, b110], .tup [nI 2, .bool false], [b20, b111]⟩
theorem nk2649 : KOk n2649 := kok_run (kok_cons nk140 kok_nil) 3000 (by decide +kernel)
def n2651 : KCall := ⟨137, [.agg [nI 4, uB 10, uB 0, uB 0, uB 1, uB 0, uB 0, uB 0, uB 0, uB 0, uB 0, uB 0, uB 0, uB 0, uB 0, uB 0, uB 0], nI 8], [], .agg [nI 4, uB 10, uB 0, uB 0, uB 0, uB 0, uB 0, uB 0, uB 0, uB 0, uB 0, uB 0, uB 0, uB 0, uB 0, uB 0, uB 0, nI 8], []⟩
theorem nk2651 : KOk n2651 := kok_run kok_nil 3000 (by decide +kernel)
def n2661 : KCall := ⟨184, [.gsl 0 11 19, .agg [nI 4, uB 10, uB 0, uB 0, uB 0, uB 0, uB 0, uB 0, uB 0, uB 0, uB 0, uB 0, uB 0, uB 0, uB 0, uB 0, uB 0, nI 8], .ptr 1 1], [b20, b111], .tup [nI 1, .bool true], [b20, b112]⟩
theorem nk2661 : KOk n2661 := kok_run (kok_cons nk140 kok_nil) 3000 (by decide +kernel)
def n2662 : KCall := ⟨275, [.ptr 0 0, .agg [nI 4, uB 10, uB 0, uB 0, uB 1, uB 0, uB 0, uB 0, uB 0, uB 0, uB 0, uB 0, uB 0, uB 0, uB 0, uB 0, uB 0]], [b85, b20], .tup [.agg [nI 4, uB 10, uB 0, uB 0, uB 0, uB 0, uB 0, uB 0, uB 0, uB 0, uB 0, uB 0, uB 0, uB 0, uB 0, uB 0, uB 0, nI 8, nI 1], .bool true], [b113, b20]⟩
theorem nk2662 : KOk n2662 := kok_run (kok_cons nk2661 (kok_cons nk2651 (kok_cons nk2649 (kok_cons nk2640 (kok_cons nk2638 (kok_cons nk2629 (kok_cons nk2627 (kok_cons nk2618 (kok_cons nk2616 (kok_cons nk2607 (kok_cons nk2605 (kok_cons nk2596 (kok_cons nk2594 (kok_cons nk2585 (kok_cons nk2583 (kok_cons nk2574 (kok_cons nk2572 (kok_cons nk2563 (kok_cons nk2561 (kok_cons nk2550 (kok_cons nk2539 (kok_cons nk2528 (kok_cons nk2517 (kok_cons nk2506 (kok_cons nk2495 (kok_cons nk2484 (kok_cons nk2473 (kok_cons nk2462 (kok_cons nk2451 (kok_cons nk2440 (kok_cons nk2429 (kok_cons nk2418 (kok_cons nk2407 (kok_cons nk2390 kok_nil)))))))))))))))))))))))))))))))))) 3000 (by decide +kernel)
def n2673 : KCall := ⟨184, [.gsl 0 11 19, .agg [nI 4, uB 10, uB 0, uB 0, uB 1, uB 0, uB 0, uB 0, uB 0, uB 0, uB 0, uB 0, uB 0, uB 0, uB 0, uB 0, uB 0, nI 32], .ptr 1 1], [b20, b112], .tup [nI 2, .bool false], [b20, b114]⟩
theorem nk2673 : KOk n2673 := kok_run (kok_cons nk145 (kok_cons nk140 kok_nil)) 3000 (by decide +kernel)
def n2679 : KCall := ⟨184, [.gsl 0 11 19, .agg [nI 4, uB 10, uB 0, uB 0, uB 0, uB 0, uB 0, uB 0, uB 0, uB 0, uB 0, uB 0, uB 0, uB 0, uB 0, uB 0, uB 0, nI 31], .ptr 1 1], [b20, b114], .tup [nI 2, .bool false], [b20, b115]⟩
theorem nk2679 : KOk n2679 := kok_run (kok_cons nk145 (kok_cons nk140 kok_nil)) 3000 (by decide +kernel)
def n2685 : KCall := ⟨184, [.gsl 0 11 19, .agg [nI 4, uB 10, uB 0, uB 0, uB 0, uB 0, uB 0, uB 0, uB 0, uB 0, uB 0, uB 0, uB 0, uB 0, uB 0, uB 0, uB 0, nI 30], .ptr 1 1], [b20, b115], .tup [nI 2, .bool false], [b20, b116]⟩
theorem nk2685 : KOk n2685 := kok_run (kok_cons nk145 (kok_cons nk140 kok_nil)) 3000 (by decide +kernel)
def n2691 : KCall := ⟨184, [.gsl 0 11 19, .agg [nI 4, uB 10, uB 0, uB 0, uB 0, uB 0, uB 0, uB 0, uB 0, uB 0, uB 0, uB 0, uB 0, uB 0, uB 0, uB 0, uB 0, nI 29], .ptr 1 1], [b20, b116], .tup [nI 2, .bool false], [b20, b117]⟩
theorem nk2691 : KOk n2691 := kok_run (kok_cons nk145 (kok_cons nk140 kok_nil)) 3000 (by decide +kernel)
def n2697 : KCall := ⟨184, [.gsl 0 11 19, .agg [nI 4, uB 10, uB 0, uB 0, uB 0, uB 0, uB 0, uB 0, uB 0, uB 0, uB 0, uB 0, uB 0, uB 0, uB 0, uB 0, uB 0, nI 28], .ptr 1 1], [b20, b117], .tup [nI 2, .bool false], [b20, b118]⟩
theorem nk2697 : KOk n2697 := kok_run (kok_cons nk145 (kok_cons nk140 kok_nil)) 3000 (by decide +kernel)
def n2703 : KCall := ⟨184, [.gsl 0 11 19, .agg [nI 4, uB 10, uB 0, uB 0, uB 0, uB 0, uB 0, uB 0, uB 0, uB 0, uB 0, uB 0, uB 0, uB 0, uB 0, uB 0, uB 0, nI 27], .ptr 1 1], [b20, b118], .tup [nI 2, .bool false], [b20, b119]⟩
theorem nk2703 : KOk n2703 := kok_run (kok_cons nk145 (kok_cons nk140 kok_nil)) 3000 (by decide +kernel)
def n2709 : KCall := ⟨184, [.gsl 0 11 19, .agg [nI 4, uB 10, uB 0, uB 0, uB 0, uB 0, uB 0, uB 0, uB 0, uB 0, uB 0, uB 0, uB 0, uB 0, uB 0, uB 0, uB 0, nI 26], .ptr 1 1], [b20, b119], .tup [nI 2, .bool false], [b20, b120]⟩
theorem nk2709 : KOk n2709 := kok_run (kok_cons nk145 (kok_cons nk140 kok_nil)) 3000 (by decide +kernel)
def n2715 : KCall := ⟨184, [.gsl 0 11 19, .agg [nI 4, uB 10, uB 0, uB 0, uB 0, uB 0, uB 0, uB 0, uB 0, uB 0, uB 0, uB 0, uB 0, uB 0, uB 0, uB 0, uB 0, nI 25], .ptr 1 1], [b20, b120], .tup [nI 2, .bool false], [b20, b121]⟩
theorem nk2715 : KOk n2715 := kok_run (kok_cons nk145 (kok_cons nk140 kok_nil)) 3000 (by decide +kernel)
def n2721 : KCall := ⟨184, [.gsl 0 11 19, .agg [nI 4, uB 10, uB 0, uB 0, uB 0, uB 0, uB 0, uB 0, uB 0, uB 0, uB 0, uB 0, uB 0, uB 0, uB 0, uB 0, uB 0, nI 24], .ptr 1 1], [b20, b121], .tup [nI 2, .bool false], [b20, b122]⟩
theorem nk2721 : KOk n2721 := kok_run (kok_cons nk145 (kok_cons nk140 kok_nil)) 3000 (by decide +kernel)
def n2727 : KCall := ⟨184, [.gsl 0 11 19, .agg [nI 4, uB 10, uB 0, uB 0, uB 0, uB 0, uB 0, uB 0, uB 0, uB 0, uB 0, uB 0, uB 0, uB 0, uB 0, uB 0, uB 0, nI 23], .ptr 1 1], [b20, b122], .tup [nI 2, .bool false], [b20, b123]⟩
theorem nk2727 : KOk n2727 := kok_run (kok_cons nk145 (kok_cons nk140 kok_nil)) 3000 (by decide +kernel)
def n2733 : KCall := ⟨184, [.gsl 0 11 19, .agg [nI 4, uB 10, uB 0, uB 0, uB 0, uB 0, uB 0, uB 0, uB 0, uB 0, uB 0, uB 0, uB 0, uB 0, uB 0, uB 0, uB 0, nI 22], .ptr 1 1], [b20, b123], .tup [nI 2, .bool false], [b20, b124]⟩
theorem nk2733 : KOk n2733 := kok_run (kok_cons nk145 (kok_cons nk140 kok_nil)) 3000 (by decide +kernel)
def n2739 : KCall := ⟨184, [.gsl 0 11 19, .agg [nI 4, uB 10, uB 0, uB 0, uB 0, uB 0, uB 0, uB 0, uB 0, uB 0, uB 0, uB 0, uB 0, uB 0, uB 0, uB 0, uB 0, nI 21], .ptr 1 1], [b20, b124], .tup [nI 2, .bool false], [b20, b125]⟩
theorem nk2739 : KOk n2739 := kok_run (kok_cons nk145 (kok_cons nk140 kok_nil)) 3000 (by decide +kernel)
def n2745 : KCall := ⟨184, [.gsl 0 11 19, .agg [nI 4, uB 10, uB 0, uB 0, uB 0, uB 0, uB 0, uB 0, uB 0, uB 0, uB 0, uB 0, uB 0, uB 0, uB 0, uB 0, uB 0, nI 20], .ptr 1 1], [b20, b125], .tup [nI 2, .bool false], [b20, b126]⟩
theorem nk2745 : KOk n2745 := kok_run (kok_cons nk145 (kok_cons nk140 kok_nil)) 3000 (by decide +kernel)
def n2751 : KCall := ⟨184, [.gsl 0 11 19, .agg [nI 4, uB 10, uB 0, uB 0, uB 0, uB 0, uB 0, uB 0, uB 0, uB 0, uB 0, uB 0, uB 0, uB 0, uB 0, uB 0, uB 0, nI 19], .ptr 1 1], [b20, b126], .tup [nI 2, .bool false], [b20, b127]⟩
theorem nk2751 : KOk n2751 := kok_run (kok_cons nk145 (kok_cons nk140 kok_nil)) 3000 (by decide +kernel)
def n2757 : KCall := ⟨184, [.gsl 0 11 19, .agg [nI 4, uB 10, uB 0, uB 0, uB 0, uB 0, uB 0, uB 0, uB 0, uB 0, uB 0, uB 0, uB 0, uB 0, uB 0, uB 0, uB 0, nI 18], .ptr 1 1], [b20, b127], .tup [nI 2, .bool false], [b20, b128]⟩
theorem nk2757 : KOk n2757 := kok_run (kok_cons nk145 (kok_cons nk140 kok_nil)) 3000 (by decide +kernel)
def n2763 : KCall := ⟨184, [.gsl 0 11 19, .agg [nI 4, uB 10, uB 0, uB 0, uB 0, uB 0, uB 0, uB 0, uB 0, uB 0, uB 0, uB 0, uB 0, uB 0, uB 0, uB 0, uB 0, nI 17], .ptr 1 1], [b20, b128], .tup [nI 2, .bool false], [b20, b129]⟩
theorem nk2763 : KOk n2763 := kok_run (kok_cons nk145 (kok_cons nk140 kok_nil)) 3000 (by decide +kernel)
end Go.Proofs
