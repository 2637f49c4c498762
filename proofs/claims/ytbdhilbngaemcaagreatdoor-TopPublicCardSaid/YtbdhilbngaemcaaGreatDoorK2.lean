/- Calls of the program that are known, each by a run in the kernel. No condition. -/
import Derived.Test.YtbdhilbngaemcaaGreatDoorK1
set_option linter.unusedVariables false
set_option linter.unusedSimpArgs false
namespace Go.Proofs
open Go Go.AH
set_option maxRecDepth 100000
def n517 : KCall := ⟨58, [.str [102, 99, 48, 48, 58, 58, 47, 55]], [], .tup [.agg [nI 6, uB 252, uB 0, uB 0, uB 0, uB 0, uB 0, uB 0, uB 0, uB 0, uB 0, uB 0, uB 0, uB 0, uB 0, uB 0, uB 0, nI 7], nI 0], []⟩
theorem nk517 : KOk n517 := kok_run (kok_cons nk516 kok_nil) 3000 (by decide +kernel)
def n538 : KCall := ⟨59, [.ptr 0 0, .agg [nI 6, uB 252, uB 0, uB 0, uB 0, uB 0, uB 0, uB 0, uB 0, uB 0, uB 0, uB 0, uB 0, uB 0, uB 0, uB 0, uB 0, nI 7], nI 1], [b0, some (.row [.gsl 2 9 19, nI 0] 221 true), b18], nI 0, [b0, some (.row [.gsl 3 10 19, nI 0] 221 true), none, b19]⟩
theorem nk538 : KOk n538 := kok_run (kok_cons nk516 kok_nil) 3000 (by decide +kernel)
def n559 : KCall := ⟨100, [.agg [nI 6, uB 254, uB 128, uB 0, uB 0, uB 0, uB 0, uB 0, uB 0, uB 0, uB 0, uB 0, uB 0, uB 0, uB 0, uB 0, uB 0, nI 10]], [], .bool true, []⟩
theorem nk559 : KOk n559 := kok_run kok_nil 3000 (by decide +kernel)
def n560 : KCall := ⟨58, [.str [102, 101, 56, 48, 58, 58, 47, 49, 48]], [], .tup [.agg [nI 6, uB 254, uB 128, uB 0, uB 0, uB 0, uB 0, uB 0, uB 0, uB 0, uB 0, uB 0, uB 0, uB 0, uB 0, uB 0, uB 0, nI 10], nI 0], []⟩
theorem nk560 : KOk n560 := kok_run (kok_cons nk559 kok_nil) 3000 (by decide +kernel)
def n581 : KCall := ⟨59, [.ptr 0 0, .agg [nI 6, uB 254, uB 128, uB 0, uB 0, uB 0, uB 0, uB 0, uB 0, uB 0, uB 0, uB 0, uB 0, uB 0, uB 0, uB 0, uB 0, nI 10], nI 1], [b0, some (.row [.gsl 2 10 19, nI 0] 221 true), b19], nI 0, [b0, some (.row [.gsl 3 11 19, nI 0] 221 true), none, b20]⟩
theorem nk581 : KOk n581 := kok_run (kok_cons nk559 kok_nil) 3000 (by decide +kernel)
def n592 : KCall := ⟨4, [], [], .ptr 0 0, [b21, b22, b23, b24, b25, b26, some (.mp [] 0), b27, b28, some (.mp [] 0), b20, some (.mp [] 0)]⟩
theorem nk592 : KOk n592 := kok_run (kok_cons nk581 (kok_cons nk560 (kok_cons nk538 (kok_cons nk517 (kok_cons nk487 (kok_cons nk460 (kok_cons nk429 (kok_cons nk401 (kok_cons nk372 (kok_cons nk345 (kok_cons nk304 (kok_cons nk282 (kok_cons nk249 (kok_cons nk220 (kok_cons nk199 (kok_cons nk176 (kok_cons nk159 (kok_cons nk131 (kok_cons nk108 (kok_cons nk90 (kok_cons nk58 (kok_cons nk51 kok_nil)))))))))))))))))))))) 3000 (by decide +kernel)
def n595 : KCall := ⟨6, [.lin .u32 eB], [], .agg [nI 4, .lin .u8 (nC 0 64), .lin .u8 (nC 0 65), .lin .u8 (nC 0 66), .lin .u8 (nC 0 67), uB 0, uB 0, uB 0, uB 0, uB 0, uB 0, uB 0, uB 0, uB 0, uB 0, uB 0, uB 0], []⟩
theorem nk595 : KOk n595 := kok_run kok_nil 3000 (by decide +kernel)
def n598 : KCall := ⟨42, [], [], .map 0, [some (.mp [(.str [111, 112, 101, 110], .fn (.func 65) [], 0), (.str [112, 117, 98, 108, 105, 99], .fn (.func 66) [], 1), (.str [99, 108, 111, 115, 101], .fn (.func 67) [], 2), (.str [102, 101, 116, 99, 104], .fn (.func 68) [], 3), (.str [100, 110, 115], .fn (.func 69) [], 4), (.str [97, 108, 105, 97, 115], .fn (.func 70) [], 5), (.str [114, 97, 119], .fn (.func 71) [], 6), (.str [117, 112], .fn (.func 72) [], 7), (.str [100, 111, 119, 110], .fn (.func 73) [], 8), (.str [103, 114, 97, 110, 116], .fn (.func 74) [], 9), (.str [111, 107], .fn (.func 75) [], 10), (.str [109, 111, 118, 101], .fn (.func 76) [], 11), (.str [116, 105, 99, 107], .fn (.func 77) [], 12)] 13)]⟩
theorem nk598 : KOk n598 := kok_run kok_nil 3000 (by decide +kernel)
def n599 : KCall := ⟨43, [.bool true], [], .tup [], []⟩
theorem nk599 : KOk n599 := kok_run kok_nil 3000 (by decide +kernel)
def n687 : KCall := ⟨140, [.str [104, 116, 116, 112, 58, 47, 47, 97, 46, 116, 101, 115, 116]], [], .tup [.agg [.str [104, 116, 116, 112], .str [97, 46, 116, 101, 115, 116], nI 80, .str [47], .str []], nI 0], []⟩
theorem nk687 : KOk n687 := kok_run kok_nil 3000 (by decide +kernel)
def n709 : KCall := ⟨195, [.agg [.str [104, 116, 116, 112], .str [97, 46, 116, 101, 115, 116], nI 80]], [], .bool false, []⟩
theorem nk709 : KOk n709 := kok_run kok_nil 3000 (by decide +kernel)
def n716 : KCall := ⟨196, [.nilsl], [], .bool false, []⟩
theorem nk716 : KOk n716 := kok_run kok_nil 3000 (by decide +kernel)
def n753 : KCall := ⟨7, [.ptr 0 0, .txt [111, 112, 101, 110, 32, 104, 116, 116, 112, 58, 47, 47, 97, 46, 116, 101, 115, 116, 32] 0], [b21, b22, b23, b24, b25, b26, some (.mp [] 0), b27, b28, some (.mp [] 0), b20, some (.mp [] 0)], .str [111, 112, 101, 110, 101, 100, 32, 112, 97, 103, 101, 32, 48, 32, 104, 116, 116, 112, 58, 47, 47, 97, 46, 116, 101, 115, 116, 32, 108, 111, 111, 112, 98, 97, 99, 107, 10], [b29, b30, b23, b24, b25, b26, b31, b32, b28, some (.mp [] 0), b20, some (.mp [] 0), b33]⟩
theorem nk753 : KOk n753 := kok_run (kok_cons nk31 (kok_cons nk716 (kok_cons nk709 (kok_cons (ofz_k 0 (by decide)) (kok_cons nk687 (kok_cons (c2_k 0) (kok_cons nk599 (kok_cons nk598 (kok_cons (c1_k 0) kok_nil))))))))) 3000 (by decide +kernel)
def n789 : KCall := ⟨140, [.str [104, 116, 116, 112, 58, 47, 47, 98, 46, 116, 101, 115, 116]], [], .tup [.agg [.str [104, 116, 116, 112], .str [98, 46, 116, 101, 115, 116], nI 80, .str [47], .str []], nI 0], []⟩
theorem nk789 : KOk n789 := kok_run kok_nil 3000 (by decide +kernel)
def n800 : KCall := ⟨195, [.agg [.str [104, 116, 116, 112], .str [98, 46, 116, 101, 115, 116], nI 80]], [], .bool false, []⟩
theorem nk800 : KOk n800 := kok_run kok_nil 3000 (by decide +kernel)
def n843 : KCall := ⟨280, [.sl 0 0 1 (some 1)], [b34], .gsl 1 1 1, [b34, some (.row [.gsl 2 1 2] 394 false), some (.row [.str [116, 114, 101, 97, 116, 45, 97, 115, 45, 112, 117, 98, 108, 105, 99, 45, 97, 100, 100, 114, 101, 115, 115], .sl 3 1 0 (some 0)] 466 false), b35]⟩
theorem nk843 : KOk n843 := kok_run kok_nil 3000 (by decide +kernel)
def n851 : KCall := ⟨279, [.gsl 0 1 1, .fn (.func 281) []], [b36, b37, b35], .bool true, [b36, b37, b35]⟩
theorem nk851 : KOk n851 := kok_run kok_nil 3000 (by decide +kernel)
def n864 : KCall := ⟨46, [nI 1], [], .str [49], []⟩
theorem nk864 : KOk n864 := kok_run kok_nil 3000 (by decide +kernel)
def n885 : KCall := ⟨7, [.ptr 0 0, .txt [112, 117, 98, 108, 105, 99, 32, 104, 116, 116, 112, 58, 47, 47, 98, 46, 116, 101, 115, 116, 32] 0], [b38, b39, b33, b40, b41, b42, b26, b31, b43, b44, some (.mp [] 0), b20, some (.mp [] 0)], .str [111, 112, 101, 110, 101, 100, 32, 112, 97, 103, 101, 32, 49, 32, 104, 116, 116, 112, 58, 47, 47, 98, 46, 116, 101, 115, 116, 32, 112, 117, 98, 108, 105, 99, 10], [b45, b46, none, b40, b41, b42, b26, some (.mp [(nI 0, .agg [.str [104, 116, 116, 112], .str [97, 46, 116, 101, 115, 116], nI 80, nI 0, .bool false], 0), (nI 1, .agg [.str [104, 116, 116, 112], .str [98, 46, 116, 101, 115, 116], nI 80, nI 2, .bool false], 1)] 2), b43, b44, some (.mp [] 0), b20, some (.mp [] 0), some (.row [nI 0, nI 0, nI (-1), nI 0, nI 0, .str [], nI 0, nI 0, nI 0, uB 0, uB 0, uB 0, uB 0, uB 0, uB 0, uB 0, uB 0, uB 0, uB 0, uB 0, uB 0, uB 0, uB 0, uB 0, uB 0, .str [104, 116, 116, 112, 58, 47, 47, 97, 46, 116, 101, 115, 116], nI 0, .str [], .str [], .nilsl, nI 0, nI 0, nI 0, nI 1, nI (-1), nI 0, nI 0, .str [], nI 0, nI 0, nI 0, uB 0, uB 0, uB 0, uB 0, uB 0, uB 0, uB 0, uB 0, uB 0, uB 0, uB 0, uB 0, uB 0, uB 0, uB 0, uB 0, .str [104, 116, 116, 112, 58, 47, 47, 98, 46, 116, 101, 115, 116], nI 2, .str [], .str [], .nilsl, nI 0, nI 0] 41 false)]⟩
theorem nk885 : KOk n885 := kok_run (kok_cons nk864 (kok_cons nk851 (kok_cons nk843 (kok_cons nk800 (kok_cons (ofa_k 0 (by decide)) (kok_cons nk789 (kok_cons (c2_k 0) (kok_cons nk599 (kok_cons nk598 (kok_cons (c3_k 0) kok_nil)))))))))) 3000 (by decide +kernel)
def n887 : KCall := ⟨105, [.str [48]], [], nI 0, []⟩
theorem nk887 : KOk n887 := kok_run (kok_cons nk599 kok_nil) 3000 (by decide +kernel)
def n901 : KCall := ⟨148, [.str [71, 69, 84]], [], .bool true, []⟩
theorem nk901 : KOk n901 := kok_run kok_nil 3000 (by decide +kernel)
def n934 : KCall := ⟨105, [.str [49]], [], nI 1, []⟩
theorem nk934 : KOk n934 := kok_run (kok_cons nk599 kok_nil) 3000 (by decide +kernel)
def n986 : KCall := ⟨21, [.agg [nI 11, nI 1, nI 1, nI 0, nI 0, .str [], nI 0, nI 0, nI 0, uB 0, uB 0, uB 0, uB 0, uB 0, uB 0, uB 0, uB 0, uB 0, uB 0, uB 0, uB 0, uB 0, uB 0, uB 0, uB 0, .str [], nI 0, .str [], .str [], .nilsl, nI 0, nI 11]], [], .str [101, 110, 100, 101, 100, 32, 112, 97, 103, 101, 32, 49, 32, 102, 101, 116, 99, 104, 32, 49, 32, 49, 49], []⟩
theorem nk986 : KOk n986 := kok_run (kok_cons nk864 kok_nil) 3000 (by decide +kernel)
def n993 : KCall := ⟨18, [.str [117, 112, 32, 48]], [], .sl 0 0 2 (some 2), [some (.row [.str [117, 112], .str [48]] 9 true)]⟩
theorem nk993 : KOk n993 := kok_run kok_nil 3000 (by decide +kernel)
def n1024 : KCall := ⟨18, [.str [117, 112, 32, 49]], [], .sl 0 0 2 (some 2), [some (.row [.str [117, 112], .str [49]] 9 true)]⟩
theorem nk1024 : KOk n1024 := kok_run kok_nil 3000 (by decide +kernel)
def n1076 : KCall := ⟨53, [.agg [nI 4, uB 127, uB 0, uB 0, uB 0, uB 0, uB 0, uB 0, uB 0, uB 0, uB 0, uB 0, uB 0, uB 0, uB 0, uB 0, uB 0, nI 8]], [], .bool true, []⟩
theorem nk1076 : KOk n1076 := kok_run kok_nil 3000 (by decide +kernel)
def n1077 : KCall := ⟨27, [.str [49, 50, 55, 46, 48, 46, 48, 46, 48, 47, 56]], [], .tup [.agg [nI 4, uB 127, uB 0, uB 0, uB 0, uB 0, uB 0, uB 0, uB 0, uB 0, uB 0, uB 0, uB 0, uB 0, uB 0, uB 0, uB 0, nI 8], nI 0], []⟩
theorem nk1077 : KOk n1077 := kok_run (kok_cons nk1076 kok_nil) 3000 (by decide +kernel)
def n1095 : KCall := ⟨27, [.str [58, 58, 49, 47, 49, 50, 56]], [], .tup [.agg [nI 6, uB 0, uB 0, uB 0, uB 0, uB 0, uB 0, uB 0, uB 0, uB 0, uB 0, uB 0, uB 0, uB 0, uB 0, uB 0, uB 1, nI 128], nI 0], []⟩
theorem nk1095 : KOk n1095 := kok_run kok_nil 3000 (by decide +kernel)
def n1109 : KCall := ⟨27, [.str [48, 46, 48, 46, 48, 46, 48, 47, 51, 50]], [], .tup [.agg [nI 4, uB 0, uB 0, uB 0, uB 0, uB 0, uB 0, uB 0, uB 0, uB 0, uB 0, uB 0, uB 0, uB 0, uB 0, uB 0, uB 0, nI 32], nI 0], []⟩
theorem nk1109 : KOk n1109 := kok_run kok_nil 3000 (by decide +kernel)
def n1126 : KCall := ⟨27, [.str [58, 58, 47, 49, 50, 56]], [], .tup [.agg [nI 6, uB 0, uB 0, uB 0, uB 0, uB 0, uB 0, uB 0, uB 0, uB 0, uB 0, uB 0, uB 0, uB 0, uB 0, uB 0, uB 0, nI 128], nI 0], []⟩
theorem nk1126 : KOk n1126 := kok_run kok_nil 3000 (by decide +kernel)
def n1132 : KCall := ⟨28, [.gsl 0 3 19, .agg [nI 6, uB 0, uB 0, uB 0, uB 0, uB 0, uB 0, uB 0, uB 0, uB 0, uB 0, uB 0, uB 0, uB 0, uB 0, uB 0, uB 0, nI 128], nI 0], [b47], .tup [.gsl 1 4 19, nI 0], [b47, some (.row [nI 4, uB 0, uB 0, uB 0, uB 0, uB 0, uB 0, uB 0, uB 0, uB 0, uB 0, uB 0, uB 0, uB 0, uB 0, uB 0, uB 0, nI 32, nI 0, nI 4, uB 127, uB 0, uB 0, uB 0, uB 0, uB 0, uB 0, uB 0, uB 0, uB 0, uB 0, uB 0, uB 0, uB 0, uB 0, uB 0, nI 8, nI 0, nI 6, uB 0, uB 0, uB 0, uB 0, uB 0, uB 0, uB 0, uB 0, uB 0, uB 0, uB 0, uB 0, uB 0, uB 0, uB 0, uB 0, nI 128, nI 0, nI 6, uB 0, uB 0, uB 0, uB 0, uB 0, uB 0, uB 0, uB 0, uB 0, uB 0, uB 0, uB 0, uB 0, uB 0, uB 0, uB 1, nI 128, nI 0] 82 false)]⟩
theorem nk1132 : KOk n1132 := kok_run kok_nil 3000 (by decide +kernel)
def n1164 : KCall := ⟨53, [.agg [nI 4, uB 10, uB 0, uB 0, uB 0, uB 0, uB 0, uB 0, uB 0, uB 0, uB 0, uB 0, uB 0, uB 0, uB 0, uB 0, uB 0, nI 8]], [], .bool true, []⟩
theorem nk1164 : KOk n1164 := kok_run kok_nil 3000 (by decide +kernel)
end Go.Proofs
