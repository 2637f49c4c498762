/- The facts on types that the walk asks for: sizes, zero values, places of fields; each reckoned by the kernel. No condition. -/
import Derived.Test.YtieaamjikcjbeaaA34
import Derived.Test.YtieaamjikcjbeaaA30
import Derived.Test.YtieaamjikcjbeaaProg
namespace Go.Proofs.TryTy
set_option linter.unusedSimpArgs false
set_option linter.unusedVariables false
open Go Go.AH Go.Proofs
set_option maxRecDepth 100000
theorem tsz0 : tsz Try.prog 0 = some 1 := by kernel_rfl
theorem tby0 : tbytes Try.prog 0 = some 0 := by kernel_rfl
theorem tagg0 : tagg Try.prog 0 = some false := by kernel_rfl
theorem tsz1 : tsz Try.prog 1 = some 1 := by kernel_rfl
theorem tby1 : tbytes Try.prog 1 = some 8 := by kernel_rfl
theorem tagg1 : tagg Try.prog 1 = some false := by kernel_rfl
theorem tz1 : zeroCellsOf Try.prog 1 = some [.nilf] := by kernel_rfl
theorem tsz2 : tsz Try.prog 2 = some 1 := by kernel_rfl
theorem tby2 : tbytes Try.prog 2 = some 8 := by kernel_rfl
theorem tagg2 : tagg Try.prog 2 = some false := by kernel_rfl
theorem tz2 : zeroCellsOf Try.prog 2 = some [.int .i64 0] := by kernel_rfl
theorem tsz3 : tsz Try.prog 3 = some 1 := by kernel_rfl
theorem tby3 : tbytes Try.prog 3 = some 8 := by kernel_rfl
theorem tagg3 : tagg Try.prog 3 = some false := by kernel_rfl
theorem tz3 : zeroCellsOf Try.prog 3 = some [.int .i64 0] := by kernel_rfl
theorem tsz4 : tsz Try.prog 4 = some 1 := by kernel_rfl
theorem tby4 : tbytes Try.prog 4 = some 1 := by kernel_rfl
theorem tagg4 : tagg Try.prog 4 = some false := by kernel_rfl
theorem tz4 : zeroCellsOf Try.prog 4 = some [.bool false] := by kernel_rfl
theorem tsz5 : tsz Try.prog 5 = some 1 := by kernel_rfl
theorem tby5 : tbytes Try.prog 5 = some 1 := by kernel_rfl
theorem tagg5 : tagg Try.prog 5 = some false := by kernel_rfl
theorem tz5 : zeroCellsOf Try.prog 5 = some [.int .u8 0] := by kernel_rfl
theorem tsz6 : tsz Try.prog 6 = some 1 := by kernel_rfl
theorem tby6 : tbytes Try.prog 6 = some 1 := by kernel_rfl
theorem tagg6 : tagg Try.prog 6 = some false := by kernel_rfl
theorem tz6 : zeroCellsOf Try.prog 6 = some [.int .u8 0] := by kernel_rfl
theorem tsz7 : tsz Try.prog 7 = some 4 := by kernel_rfl
theorem tby7 : tbytes Try.prog 7 = some 24 := by kernel_rfl
theorem tagg7 : tagg Try.prog 7 = some true := by kernel_rfl
theorem tz7 : zeroCellsOf Try.prog 7 = some [.int .i64 0, .int .i64 0, .bool false, .int .u8 0] := by kernel_rfl
theorem tsz8 : tsz Try.prog 8 = some 4 := by kernel_rfl
theorem tby8 : tbytes Try.prog 8 = some 24 := by kernel_rfl
theorem tagg8 : tagg Try.prog 8 = some true := by kernel_rfl
theorem tz8 : zeroCellsOf Try.prog 8 = some [.int .i64 0, .int .i64 0, .bool false, .int .u8 0] := by kernel_rfl
theorem tsz9 : tsz Try.prog 9 = some 1 := by kernel_rfl
theorem tby9 : tbytes Try.prog 9 = some 16 := by kernel_rfl
theorem tagg9 : tagg Try.prog 9 = some false := by kernel_rfl
theorem tz9 : zeroCellsOf Try.prog 9 = some [.str []] := by kernel_rfl
theorem tsz10 : tsz Try.prog 10 = some 1 := by kernel_rfl
theorem tby10 : tbytes Try.prog 10 = some 16 := by kernel_rfl
theorem tagg10 : tagg Try.prog 10 = some false := by kernel_rfl
theorem tz10 : zeroCellsOf Try.prog 10 = some [.str []] := by kernel_rfl
theorem tsz11 : tsz Try.prog 11 = some 1 := by kernel_rfl
theorem tby11 : tbytes Try.prog 11 = some 16 := by kernel_rfl
theorem tagg11 : tagg Try.prog 11 = some false := by kernel_rfl
theorem tz11 : zeroCellsOf Try.prog 11 = some [.str []] := by kernel_rfl
theorem tsz12 : tsz Try.prog 12 = some 1 := by kernel_rfl
theorem tby12 : tbytes Try.prog 12 = some 8 := by kernel_rfl
theorem tagg12 : tagg Try.prog 12 = some false := by kernel_rfl
theorem tz12 : zeroCellsOf Try.prog 12 = some [.int .u64 0] := by kernel_rfl
theorem tsz13 : tsz Try.prog 13 = some 2 := by kernel_rfl
theorem tby13 : tbytes Try.prog 13 = some 24 := by kernel_rfl
theorem tagg13 : tagg Try.prog 13 = some true := by kernel_rfl
theorem tz13 : zeroCellsOf Try.prog 13 = some [.str [], .int .u64 0] := by kernel_rfl
theorem tsz14 : tsz Try.prog 14 = some 2 := by kernel_rfl
theorem tby14 : tbytes Try.prog 14 = some 24 := by kernel_rfl
theorem tagg14 : tagg Try.prog 14 = some true := by kernel_rfl
theorem tz14 : zeroCellsOf Try.prog 14 = some [.str [], .int .u64 0] := by kernel_rfl
theorem tsz15 : tsz Try.prog 15 = some 1 := by kernel_rfl
theorem tby15 : tbytes Try.prog 15 = some 8 := by kernel_rfl
theorem tagg15 : tagg Try.prog 15 = some false := by kernel_rfl
theorem tz15 : zeroCellsOf Try.prog 15 = some [.nilp] := by kernel_rfl
theorem tsz16 : tsz Try.prog 16 = some 1 := by kernel_rfl
theorem tby16 : tbytes Try.prog 16 = some 8 := by kernel_rfl
theorem tagg16 : tagg Try.prog 16 = some false := by kernel_rfl
theorem tz16 : zeroCellsOf Try.prog 16 = some [.nilp] := by kernel_rfl
theorem tsz17 : tsz Try.prog 17 = some 1 := by kernel_rfl
theorem tby17 : tbytes Try.prog 17 = some 8 := by kernel_rfl
theorem tagg17 : tagg Try.prog 17 = some false := by kernel_rfl
theorem tz17 : zeroCellsOf Try.prog 17 = some [.nilp] := by kernel_rfl
theorem tsz18 : tsz Try.prog 18 = some 1 := by kernel_rfl
theorem tby18 : tbytes Try.prog 18 = some 8 := by kernel_rfl
theorem tagg18 : tagg Try.prog 18 = some true := by kernel_rfl
theorem tz18 : zeroCellsOf Try.prog 18 = some [.nilp] := by kernel_rfl
theorem tsz19 : tsz Try.prog 19 = some 1 := by kernel_rfl
theorem tby19 : tbytes Try.prog 19 = some 8 := by kernel_rfl
theorem tagg19 : tagg Try.prog 19 = some true := by kernel_rfl
theorem tz19 : zeroCellsOf Try.prog 19 = some [.nilp] := by kernel_rfl
theorem tsz20 : tsz Try.prog 20 = some 1 := by kernel_rfl
theorem tby20 : tbytes Try.prog 20 = some 16 := by kernel_rfl
theorem tagg20 : tagg Try.prog 20 = some false := by kernel_rfl
theorem tz20 : zeroCellsOf Try.prog 20 = some [.nili] := by kernel_rfl
theorem tsz21 : tsz Try.prog 21 = some 1 := by kernel_rfl
theorem tby21 : tbytes Try.prog 21 = some 4 := by kernel_rfl
theorem tagg21 : tagg Try.prog 21 = some false := by kernel_rfl
theorem tz21 : zeroCellsOf Try.prog 21 = some [.int .i32 0] := by kernel_rfl
theorem tsz22 : tsz Try.prog 22 = some 4 := by kernel_rfl
theorem tby22 : tbytes Try.prog 22 = some 40 := by kernel_rfl
theorem tagg22 : tagg Try.prog 22 = some true := by kernel_rfl
theorem tz22 : zeroCellsOf Try.prog 22 = some [.int .i64 0, .str [], .int .i64 0, .int .i64 0] := by kernel_rfl
theorem tsz23 : tsz Try.prog 23 = some 4 := by kernel_rfl
theorem tby23 : tbytes Try.prog 23 = some 40 := by kernel_rfl
theorem tagg23 : tagg Try.prog 23 = some true := by kernel_rfl
theorem tz23 : zeroCellsOf Try.prog 23 = some [.int .i64 0, .str [], .int .i64 0, .int .i64 0] := by kernel_rfl
theorem fld23_0 : fld Try.prog 23 0 = some (0, 3) := by kernel_rfl
theorem fld23_1 : fld Try.prog 23 1 = some (1, 9) := by kernel_rfl
theorem fld23_2 : fld Try.prog 23 2 = some (2, 3) := by kernel_rfl
theorem fld23_3 : fld Try.prog 23 3 = some (3, 3) := by kernel_rfl
theorem bld23 (parts : List (Nat × AV)) : aBuild Try.prog 23 parts = (aFill ([(0, 1), (1, 1), (2, 1), (3, 1)][·]?) [.int .i64 0, .str [], .int .i64 0, .int .i64 0] parts).map .agg := aBuild_struct (pl := [(0, 1), (1, 1), (2, 1), (3, 1)]) Try.underlying23 tz23 (by kernel_rfl) parts
theorem std23 : Try.prog.stoodInHeld 23 = false := by kernel_rfl
theorem egt23 : Try.prog.eqGuardType Try.prog.depth 23 = false := by kernel_rfl
theorem tsz24 : tsz Try.prog 24 = some 1 := by kernel_rfl
theorem tby24 : tbytes Try.prog 24 = some 24 := by kernel_rfl
theorem tagg24 : tagg Try.prog 24 = some false := by kernel_rfl
theorem tz24 : zeroCellsOf Try.prog 24 = some [.nilsl] := by kernel_rfl
theorem tsz25 : tsz Try.prog 25 = some 1 := by kernel_rfl
theorem tby25 : tbytes Try.prog 25 = some 24 := by kernel_rfl
theorem tagg25 : tagg Try.prog 25 = some false := by kernel_rfl
theorem tz25 : zeroCellsOf Try.prog 25 = some [.nilsl] := by kernel_rfl
theorem tsz26 : tsz Try.prog 26 = some 6 := by kernel_rfl
theorem tby26 : tbytes Try.prog 26 = some 112 := by kernel_rfl
theorem tagg26 : tagg Try.prog 26 = some true := by kernel_rfl
theorem tz26 : zeroCellsOf Try.prog 26 = some [.int .i64 0, .int .i64 0, .nilsl, .nilsl, .nilsl, .nilsl] := by kernel_rfl
theorem tsz27 : tsz Try.prog 27 = some 6 := by kernel_rfl
theorem tby27 : tbytes Try.prog 27 = some 112 := by kernel_rfl
theorem tagg27 : tagg Try.prog 27 = some true := by kernel_rfl
theorem tz27 : zeroCellsOf Try.prog 27 = some [.int .i64 0, .int .i64 0, .nilsl, .nilsl, .nilsl, .nilsl] := by kernel_rfl
theorem fld27_0 : fld Try.prog 27 0 = some (0, 3) := by kernel_rfl
theorem fld27_1 : fld Try.prog 27 1 = some (1, 3) := by kernel_rfl
theorem fld27_2 : fld Try.prog 27 2 = some (2, 25) := by kernel_rfl
theorem fld27_3 : fld Try.prog 27 3 = some (3, 24) := by kernel_rfl
theorem fld27_4 : fld Try.prog 27 4 = some (4, 24) := by kernel_rfl
theorem fld27_5 : fld Try.prog 27 5 = some (5, 24) := by kernel_rfl
theorem bld27 (parts : List (Nat × AV)) : aBuild Try.prog 27 parts = (aFill ([(0, 1), (1, 1), (2, 1), (3, 1), (4, 1), (5, 1)][·]?) [.int .i64 0, .int .i64 0, .nilsl, .nilsl, .nilsl, .nilsl] parts).map .agg := aBuild_struct (pl := [(0, 1), (1, 1), (2, 1), (3, 1), (4, 1), (5, 1)]) Try.underlying27 tz27 (by kernel_rfl) parts
theorem std27 : Try.prog.stoodInHeld 27 = false := by kernel_rfl
theorem egt27 : Try.prog.eqGuardType Try.prog.depth 27 = false := by kernel_rfl
theorem tsz28 : tsz Try.prog 28 = some 1 := by kernel_rfl
theorem tby28 : tbytes Try.prog 28 = some 8 := by kernel_rfl
theorem tagg28 : tagg Try.prog 28 = some false := by kernel_rfl
theorem tz28 : zeroCellsOf Try.prog 28 = some [.nilf] := by kernel_rfl
theorem tsz29 : tsz Try.prog 29 = some 4 := by kernel_rfl
theorem tby29 : tbytes Try.prog 29 = some 40 := by kernel_rfl
theorem tagg29 : tagg Try.prog 29 = some true := by kernel_rfl
theorem tz29 : zeroCellsOf Try.prog 29 = some [.int .i64 0, .str [], .int .i64 0, .int .i64 0] := by kernel_rfl
theorem fld29_0 : fld Try.prog 29 0 = some (0, 3) := by kernel_rfl
theorem fld29_1 : fld Try.prog 29 1 = some (1, 9) := by kernel_rfl
theorem fld29_2 : fld Try.prog 29 2 = some (2, 3) := by kernel_rfl
theorem fld29_3 : fld Try.prog 29 3 = some (3, 3) := by kernel_rfl
theorem bld29 (parts : List (Nat × AV)) : aBuild Try.prog 29 parts = (aFill ([(0, 1), (1, 1), (2, 1), (3, 1)][·]?) [.int .i64 0, .str [], .int .i64 0, .int .i64 0] parts).map .agg := aBuild_struct (pl := [(0, 1), (1, 1), (2, 1), (3, 1)]) Try.underlying29 tz29 (by kernel_rfl) parts
theorem std29 : Try.prog.stoodInHeld 29 = false := by kernel_rfl
theorem egt29 : Try.prog.eqGuardType Try.prog.depth 29 = false := by kernel_rfl
theorem tsz30 : tsz Try.prog 30 = some 1 := by kernel_rfl
theorem tby30 : tbytes Try.prog 30 = some 8 := by kernel_rfl
theorem tagg30 : tagg Try.prog 30 = some false := by kernel_rfl
theorem tz30 : zeroCellsOf Try.prog 30 = some [.nilf] := by kernel_rfl
theorem tsz31 : tsz Try.prog 31 = some 1 := by kernel_rfl
theorem tby31 : tbytes Try.prog 31 = some 8 := by kernel_rfl
theorem tagg31 : tagg Try.prog 31 = some false := by kernel_rfl
theorem tz31 : zeroCellsOf Try.prog 31 = some [.nilf] := by kernel_rfl
theorem tsz32 : tsz Try.prog 32 = some 1 := by kernel_rfl
theorem tby32 : tbytes Try.prog 32 = some 8 := by kernel_rfl
theorem tagg32 : tagg Try.prog 32 = some false := by kernel_rfl
theorem tz32 : zeroCellsOf Try.prog 32 = some [.nilf] := by kernel_rfl
theorem tsz33 : tsz Try.prog 33 = some 1 := by kernel_rfl
theorem tby33 : tbytes Try.prog 33 = some 8 := by kernel_rfl
theorem tagg33 : tagg Try.prog 33 = some false := by kernel_rfl
theorem tz33 : zeroCellsOf Try.prog 33 = some [.nilf] := by kernel_rfl
theorem tsz34 : tsz Try.prog 34 = some 1 := by kernel_rfl
theorem tby34 : tbytes Try.prog 34 = some 8 := by kernel_rfl
theorem tagg34 : tagg Try.prog 34 = some false := by kernel_rfl
theorem tz34 : zeroCellsOf Try.prog 34 = some [.int .i64 0] := by kernel_rfl
theorem tsz35 : tsz Try.prog 35 = some 1 := by kernel_rfl
theorem tby35 : tbytes Try.prog 35 = some 24 := by kernel_rfl
theorem tagg35 : tagg Try.prog 35 = some false := by kernel_rfl
theorem tz35 : zeroCellsOf Try.prog 35 = some [.nilsl] := by kernel_rfl
theorem tsz36 : tsz Try.prog 36 = some 5 := by kernel_rfl
theorem tby36 : tbytes Try.prog 36 = some 64 := by kernel_rfl
theorem tagg36 : tagg Try.prog 36 = some true := by kernel_rfl
theorem tz36 : zeroCellsOf Try.prog 36 = some [.int .i64 0, .nilsl, .int .i64 0, .str [], .int .i64 0] := by kernel_rfl
theorem tsz37 : tsz Try.prog 37 = some 5 := by kernel_rfl
theorem tby37 : tbytes Try.prog 37 = some 64 := by kernel_rfl
theorem tagg37 : tagg Try.prog 37 = some true := by kernel_rfl
theorem tz37 : zeroCellsOf Try.prog 37 = some [.int .i64 0, .nilsl, .int .i64 0, .str [], .int .i64 0] := by kernel_rfl
theorem fld37_0 : fld Try.prog 37 0 = some (0, 34) := by kernel_rfl
theorem fld37_1 : fld Try.prog 37 1 = some (1, 35) := by kernel_rfl
theorem fld37_2 : fld Try.prog 37 2 = some (2, 3) := by kernel_rfl
theorem fld37_3 : fld Try.prog 37 3 = some (3, 9) := by kernel_rfl
theorem fld37_4 : fld Try.prog 37 4 = some (4, 3) := by kernel_rfl
theorem bld37 (parts : List (Nat × AV)) : aBuild Try.prog 37 parts = (aFill ([(0, 1), (1, 1), (2, 1), (3, 1), (4, 1)][·]?) [.int .i64 0, .nilsl, .int .i64 0, .str [], .int .i64 0] parts).map .agg := aBuild_struct (pl := [(0, 1), (1, 1), (2, 1), (3, 1), (4, 1)]) Try.underlying37 tz37 (by kernel_rfl) parts
theorem std37 : Try.prog.stoodInHeld 37 = false := by kernel_rfl
theorem egt37 : Try.prog.eqGuardType Try.prog.depth 37 = false := by kernel_rfl
theorem tsz38 : tsz Try.prog 38 = some 1 := by kernel_rfl
theorem tby38 : tbytes Try.prog 38 = some 8 := by kernel_rfl
theorem tagg38 : tagg Try.prog 38 = some false := by kernel_rfl
theorem tz38 : zeroCellsOf Try.prog 38 = some [.nilf] := by kernel_rfl
theorem tsz39 : tsz Try.prog 39 = some 5 := by kernel_rfl
theorem tby39 : tbytes Try.prog 39 = some 64 := by kernel_rfl
theorem tagg39 : tagg Try.prog 39 = some true := by kernel_rfl
theorem tz39 : zeroCellsOf Try.prog 39 = some [.int .i64 0, .nilsl, .int .i64 0, .str [], .int .i64 0] := by kernel_rfl
theorem fld39_0 : fld Try.prog 39 0 = some (0, 34) := by kernel_rfl
theorem fld39_1 : fld Try.prog 39 1 = some (1, 35) := by kernel_rfl
theorem fld39_2 : fld Try.prog 39 2 = some (2, 3) := by kernel_rfl
theorem fld39_3 : fld Try.prog 39 3 = some (3, 9) := by kernel_rfl
theorem fld39_4 : fld Try.prog 39 4 = some (4, 3) := by kernel_rfl
theorem bld39 (parts : List (Nat × AV)) : aBuild Try.prog 39 parts = (aFill ([(0, 1), (1, 1), (2, 1), (3, 1), (4, 1)][·]?) [.int .i64 0, .nilsl, .int .i64 0, .str [], .int .i64 0] parts).map .agg := aBuild_struct (pl := [(0, 1), (1, 1), (2, 1), (3, 1), (4, 1)]) Try.underlying39 tz39 (by kernel_rfl) parts
theorem std39 : Try.prog.stoodInHeld 39 = false := by kernel_rfl
theorem egt39 : Try.prog.eqGuardType Try.prog.depth 39 = false := by kernel_rfl
theorem tsz40 : tsz Try.prog 40 = some 1 := by kernel_rfl
theorem tby40 : tbytes Try.prog 40 = some 8 := by kernel_rfl
theorem tagg40 : tagg Try.prog 40 = some false := by kernel_rfl
theorem tz40 : zeroCellsOf Try.prog 40 = some [.nilf] := by kernel_rfl
theorem tsz41 : tsz Try.prog 41 = some 1 := by kernel_rfl
theorem tby41 : tbytes Try.prog 41 = some 8 := by kernel_rfl
theorem tagg41 : tagg Try.prog 41 = some false := by kernel_rfl
theorem tz41 : zeroCellsOf Try.prog 41 = some [.nilf] := by kernel_rfl
theorem tsz42 : tsz Try.prog 42 = some 1 := by kernel_rfl
theorem tby42 : tbytes Try.prog 42 = some 8 := by kernel_rfl
theorem tagg42 : tagg Try.prog 42 = some false := by kernel_rfl
theorem tz42 : zeroCellsOf Try.prog 42 = some [.nilf] := by kernel_rfl
theorem tsz43 : tsz Try.prog 43 = some 1 := by kernel_rfl
theorem tby43 : tbytes Try.prog 43 = some 24 := by kernel_rfl
theorem tagg43 : tagg Try.prog 43 = some false := by kernel_rfl
theorem tz43 : zeroCellsOf Try.prog 43 = some [.nilsl] := by kernel_rfl
theorem tsz44 : tsz Try.prog 44 = some 1 := by kernel_rfl
theorem tby44 : tbytes Try.prog 44 = some 0 := by kernel_rfl
theorem tagg44 : tagg Try.prog 44 = some false := by kernel_rfl
theorem tsz45 : tsz Try.prog 45 = some 1 := by kernel_rfl
theorem tby45 : tbytes Try.prog 45 = some 8 := by kernel_rfl
theorem tagg45 : tagg Try.prog 45 = some false := by kernel_rfl
theorem tz45 : zeroCellsOf Try.prog 45 = some [.nilf] := by kernel_rfl
theorem tsz46 : tsz Try.prog 46 = some 1 := by kernel_rfl
theorem tby46 : tbytes Try.prog 46 = some 8 := by kernel_rfl
theorem tagg46 : tagg Try.prog 46 = some false := by kernel_rfl
theorem tz46 : zeroCellsOf Try.prog 46 = some [.nilf] := by kernel_rfl
theorem tsz47 : tsz Try.prog 47 = some 1 := by kernel_rfl
theorem tby47 : tbytes Try.prog 47 = some 8 := by kernel_rfl
theorem tagg47 : tagg Try.prog 47 = some false := by kernel_rfl
theorem tz47 : zeroCellsOf Try.prog 47 = some [.nilf] := by kernel_rfl
theorem tsz48 : tsz Try.prog 48 = some 16 := by kernel_rfl
theorem tby48 : tbytes Try.prog 48 = some 16 := by kernel_rfl
theorem tagg48 : tagg Try.prog 48 = some true := by kernel_rfl
theorem tz48 : zeroCellsOf Try.prog 48 = some [.int .u8 0, .int .u8 0, .int .u8 0, .int .u8 0, .int .u8 0, .int .u8 0, .int .u8 0, .int .u8 0, .int .u8 0, .int .u8 0, .int .u8 0, .int .u8 0, .int .u8 0, .int .u8 0, .int .u8 0, .int .u8 0] := by kernel_rfl
theorem tsz49 : tsz Try.prog 49 = some 17 := by kernel_rfl
theorem tby49 : tbytes Try.prog 49 = some 24 := by kernel_rfl
theorem tagg49 : tagg Try.prog 49 = some true := by kernel_rfl
theorem tz49 : zeroCellsOf Try.prog 49 = some [.int .i64 0, .int .u8 0, .int .u8 0, .int .u8 0, .int .u8 0, .int .u8 0, .int .u8 0, .int .u8 0, .int .u8 0, .int .u8 0, .int .u8 0, .int .u8 0, .int .u8 0, .int .u8 0, .int .u8 0, .int .u8 0, .int .u8 0] := by kernel_rfl
theorem tsz50 : tsz Try.prog 50 = some 17 := by kernel_rfl
theorem tby50 : tbytes Try.prog 50 = some 24 := by kernel_rfl
theorem tagg50 : tagg Try.prog 50 = some true := by kernel_rfl
theorem tz50 : zeroCellsOf Try.prog 50 = some [.int .i64 0, .int .u8 0, .int .u8 0, .int .u8 0, .int .u8 0, .int .u8 0, .int .u8 0, .int .u8 0, .int .u8 0, .int .u8 0, .int .u8 0, .int .u8 0, .int .u8 0, .int .u8 0, .int .u8 0, .int .u8 0, .int .u8 0] := by kernel_rfl
theorem fld50_0 : fld Try.prog 50 0 = some (0, 3) := by kernel_rfl
theorem fld50_1 : fld Try.prog 50 1 = some (1, 48) := by kernel_rfl
theorem bld50 (parts : List (Nat × AV)) : aBuild Try.prog 50 parts = (aFill ([(0, 1), (1, 16)][·]?) [.int .i64 0, .int .u8 0, .int .u8 0, .int .u8 0, .int .u8 0, .int .u8 0, .int .u8 0, .int .u8 0, .int .u8 0, .int .u8 0, .int .u8 0, .int .u8 0, .int .u8 0, .int .u8 0, .int .u8 0, .int .u8 0, .int .u8 0] parts).map .agg := aBuild_struct (pl := [(0, 1), (1, 16)]) Try.underlying50 tz50 (by kernel_rfl) parts
theorem std50 : Try.prog.stoodInHeld 50 = false := by kernel_rfl
theorem egt50 : Try.prog.eqGuardType Try.prog.depth 50 = false := by kernel_rfl
theorem tsz51 : tsz Try.prog 51 = some 23 := by kernel_rfl
theorem tby51 : tbytes Try.prog 51 = some 96 := by kernel_rfl
theorem tagg51 : tagg Try.prog 51 = some true := by kernel_rfl
theorem tz51 : zeroCellsOf Try.prog 51 = some [.str [], .int .i64 0, .int .i64 0, .int .i64 0, .int .i64 0, .int .u8 0, .int .u8 0, .int .u8 0, .int .u8 0, .int .u8 0, .int .u8 0, .int .u8 0, .int .u8 0, .int .u8 0, .int .u8 0, .int .u8 0, .int .u8 0, .int .u8 0, .int .u8 0, .int .u8 0, .int .u8 0, .str [], .str []] := by kernel_rfl
theorem tsz52 : tsz Try.prog 52 = some 23 := by kernel_rfl
theorem tby52 : tbytes Try.prog 52 = some 96 := by kernel_rfl
theorem tagg52 : tagg Try.prog 52 = some true := by kernel_rfl
theorem tz52 : zeroCellsOf Try.prog 52 = some [.str [], .int .i64 0, .int .i64 0, .int .i64 0, .int .i64 0, .int .u8 0, .int .u8 0, .int .u8 0, .int .u8 0, .int .u8 0, .int .u8 0, .int .u8 0, .int .u8 0, .int .u8 0, .int .u8 0, .int .u8 0, .int .u8 0, .int .u8 0, .int .u8 0, .int .u8 0, .int .u8 0, .str [], .str []] := by kernel_rfl
theorem fld52_0 : fld Try.prog 52 0 = some (0, 9) := by kernel_rfl
theorem fld52_1 : fld Try.prog 52 1 = some (1, 3) := by kernel_rfl
theorem fld52_2 : fld Try.prog 52 2 = some (2, 3) := by kernel_rfl
theorem fld52_3 : fld Try.prog 52 3 = some (3, 3) := by kernel_rfl
theorem fld52_4 : fld Try.prog 52 4 = some (4, 50) := by kernel_rfl
theorem fld52_5 : fld Try.prog 52 5 = some (21, 9) := by kernel_rfl
theorem fld52_6 : fld Try.prog 52 6 = some (22, 9) := by kernel_rfl
theorem bld52 (parts : List (Nat × AV)) : aBuild Try.prog 52 parts = (aFill ([(0, 1), (1, 1), (2, 1), (3, 1), (4, 17), (21, 1), (22, 1)][·]?) [.str [], .int .i64 0, .int .i64 0, .int .i64 0, .int .i64 0, .int .u8 0, .int .u8 0, .int .u8 0, .int .u8 0, .int .u8 0, .int .u8 0, .int .u8 0, .int .u8 0, .int .u8 0, .int .u8 0, .int .u8 0, .int .u8 0, .int .u8 0, .int .u8 0, .int .u8 0, .int .u8 0, .str [], .str []] parts).map .agg := aBuild_struct (pl := [(0, 1), (1, 1), (2, 1), (3, 1), (4, 17), (21, 1), (22, 1)]) Try.underlying52 tz52 (by kernel_rfl) parts
theorem std52 : Try.prog.stoodInHeld 52 = false := by kernel_rfl
theorem egt52 : Try.prog.eqGuardType Try.prog.depth 52 = false := by kernel_rfl
theorem tsz53 : tsz Try.prog 53 = some 1 := by kernel_rfl
theorem tby53 : tbytes Try.prog 53 = some 8 := by kernel_rfl
theorem tagg53 : tagg Try.prog 53 = some false := by kernel_rfl
theorem tz53 : zeroCellsOf Try.prog 53 = some [.nilf] := by kernel_rfl
theorem tsz54 : tsz Try.prog 54 = some 1 := by kernel_rfl
theorem tby54 : tbytes Try.prog 54 = some 8 := by kernel_rfl
theorem tagg54 : tagg Try.prog 54 = some false := by kernel_rfl
theorem tz54 : zeroCellsOf Try.prog 54 = some [.nilf] := by kernel_rfl
theorem tsz55 : tsz Try.prog 55 = some 1 := by kernel_rfl
theorem tby55 : tbytes Try.prog 55 = some 8 := by kernel_rfl
theorem tagg55 : tagg Try.prog 55 = some false := by kernel_rfl
theorem tz55 : zeroCellsOf Try.prog 55 = some [.nilf] := by kernel_rfl
theorem tsz56 : tsz Try.prog 56 = some 1 := by kernel_rfl
theorem tby56 : tbytes Try.prog 56 = some 8 := by kernel_rfl
theorem tagg56 : tagg Try.prog 56 = some false := by kernel_rfl
theorem tz56 : zeroCellsOf Try.prog 56 = some [.nilf] := by kernel_rfl
theorem tsz57 : tsz Try.prog 57 = some 1 := by kernel_rfl
theorem tby57 : tbytes Try.prog 57 = some 8 := by kernel_rfl
theorem tagg57 : tagg Try.prog 57 = some false := by kernel_rfl
theorem tz57 : zeroCellsOf Try.prog 57 = some [.nilf] := by kernel_rfl
theorem tsz58 : tsz Try.prog 58 = some 1 := by kernel_rfl
theorem tby58 : tbytes Try.prog 58 = some 24 := by kernel_rfl
theorem tagg58 : tagg Try.prog 58 = some false := by kernel_rfl
theorem tz58 : zeroCellsOf Try.prog 58 = some [.nilsl] := by kernel_rfl
theorem tsz59 : tsz Try.prog 59 = some 1 := by kernel_rfl
theorem tby59 : tbytes Try.prog 59 = some 8 := by kernel_rfl
theorem tagg59 : tagg Try.prog 59 = some false := by kernel_rfl
theorem tz59 : zeroCellsOf Try.prog 59 = some [.nilf] := by kernel_rfl
theorem tsz60 : tsz Try.prog 60 = some 1 := by kernel_rfl
theorem tby60 : tbytes Try.prog 60 = some 8 := by kernel_rfl
theorem tagg60 : tagg Try.prog 60 = some false := by kernel_rfl
theorem tz60 : zeroCellsOf Try.prog 60 = some [.nilf] := by kernel_rfl
theorem tsz61 : tsz Try.prog 61 = some 1 := by kernel_rfl
theorem tby61 : tbytes Try.prog 61 = some 8 := by kernel_rfl
theorem tagg61 : tagg Try.prog 61 = some false := by kernel_rfl
theorem tz61 : zeroCellsOf Try.prog 61 = some [.nilf] := by kernel_rfl
theorem tsz62 : tsz Try.prog 62 = some 3 := by kernel_rfl
theorem tby62 : tbytes Try.prog 62 = some 32 := by kernel_rfl
theorem tagg62 : tagg Try.prog 62 = some true := by kernel_rfl
theorem tz62 : zeroCellsOf Try.prog 62 = some [.str [], .int .i64 0, .int .i64 0] := by kernel_rfl
theorem tsz63 : tsz Try.prog 63 = some 3 := by kernel_rfl
theorem tby63 : tbytes Try.prog 63 = some 32 := by kernel_rfl
theorem tagg63 : tagg Try.prog 63 = some true := by kernel_rfl
theorem tz63 : zeroCellsOf Try.prog 63 = some [.str [], .int .i64 0, .int .i64 0] := by kernel_rfl
theorem fld63_0 : fld Try.prog 63 0 = some (0, 9) := by kernel_rfl
theorem fld63_1 : fld Try.prog 63 1 = some (1, 3) := by kernel_rfl
theorem fld63_2 : fld Try.prog 63 2 = some (2, 3) := by kernel_rfl
theorem bld63 (parts : List (Nat × AV)) : aBuild Try.prog 63 parts = (aFill ([(0, 1), (1, 1), (2, 1)][·]?) [.str [], .int .i64 0, .int .i64 0] parts).map .agg := aBuild_struct (pl := [(0, 1), (1, 1), (2, 1)]) Try.underlying63 tz63 (by kernel_rfl) parts
theorem std63 : Try.prog.stoodInHeld 63 = false := by kernel_rfl
theorem egt63 : Try.prog.eqGuardType Try.prog.depth 63 = false := by kernel_rfl
theorem tsz64 : tsz Try.prog 64 = some 1 := by kernel_rfl
theorem tby64 : tbytes Try.prog 64 = some 8 := by kernel_rfl
theorem tagg64 : tagg Try.prog 64 = some false := by kernel_rfl
theorem tz64 : zeroCellsOf Try.prog 64 = some [.nilf] := by kernel_rfl
theorem tsz65 : tsz Try.prog 65 = some 1 := by kernel_rfl
theorem tby65 : tbytes Try.prog 65 = some 8 := by kernel_rfl
theorem tagg65 : tagg Try.prog 65 = some false := by kernel_rfl
theorem tz65 : zeroCellsOf Try.prog 65 = some [.nilf] := by kernel_rfl
theorem tsz66 : tsz Try.prog 66 = some 1 := by kernel_rfl
theorem tby66 : tbytes Try.prog 66 = some 8 := by kernel_rfl
theorem tagg66 : tagg Try.prog 66 = some false := by kernel_rfl
theorem tz66 : zeroCellsOf Try.prog 66 = some [.nilf] := by kernel_rfl
theorem tsz67 : tsz Try.prog 67 = some 1 := by kernel_rfl
theorem tby67 : tbytes Try.prog 67 = some 8 := by kernel_rfl
theorem tagg67 : tagg Try.prog 67 = some false := by kernel_rfl
theorem tz67 : zeroCellsOf Try.prog 67 = some [.nilf] := by kernel_rfl
theorem tsz68 : tsz Try.prog 68 = some 1 := by kernel_rfl
theorem tby68 : tbytes Try.prog 68 = some 8 := by kernel_rfl
theorem tagg68 : tagg Try.prog 68 = some false := by kernel_rfl
theorem tz68 : zeroCellsOf Try.prog 68 = some [.nilf] := by kernel_rfl
theorem tsz69 : tsz Try.prog 69 = some 1 := by kernel_rfl
theorem tby69 : tbytes Try.prog 69 = some 8 := by kernel_rfl
theorem tagg69 : tagg Try.prog 69 = some false := by kernel_rfl
theorem tz69 : zeroCellsOf Try.prog 69 = some [.nilf] := by kernel_rfl
theorem tsz70 : tsz Try.prog 70 = some 1 := by kernel_rfl
theorem tby70 : tbytes Try.prog 70 = some 8 := by kernel_rfl
theorem tagg70 : tagg Try.prog 70 = some false := by kernel_rfl
theorem tz70 : zeroCellsOf Try.prog 70 = some [.nilf] := by kernel_rfl
theorem tsz71 : tsz Try.prog 71 = some 1 := by kernel_rfl
theorem tby71 : tbytes Try.prog 71 = some 8 := by kernel_rfl
theorem tagg71 : tagg Try.prog 71 = some false := by kernel_rfl
theorem tz71 : zeroCellsOf Try.prog 71 = some [.nilf] := by kernel_rfl
theorem tsz72 : tsz Try.prog 72 = some 1 := by kernel_rfl
theorem tby72 : tbytes Try.prog 72 = some 8 := by kernel_rfl
theorem tagg72 : tagg Try.prog 72 = some false := by kernel_rfl
theorem tz72 : zeroCellsOf Try.prog 72 = some [.nilf] := by kernel_rfl
theorem tsz73 : tsz Try.prog 73 = some 1 := by kernel_rfl
theorem tby73 : tbytes Try.prog 73 = some 0 := by kernel_rfl
theorem tagg73 : tagg Try.prog 73 = some false := by kernel_rfl
theorem tsz74 : tsz Try.prog 74 = some 1 := by kernel_rfl
theorem tby74 : tbytes Try.prog 74 = some 8 := by kernel_rfl
theorem tagg74 : tagg Try.prog 74 = some false := by kernel_rfl
theorem tz74 : zeroCellsOf Try.prog 74 = some [.nilf] := by kernel_rfl
theorem tsz75 : tsz Try.prog 75 = some 1 := by kernel_rfl
theorem tby75 : tbytes Try.prog 75 = some 8 := by kernel_rfl
theorem tagg75 : tagg Try.prog 75 = some false := by kernel_rfl
theorem tz75 : zeroCellsOf Try.prog 75 = some [.nilf] := by kernel_rfl
theorem tsz76 : tsz Try.prog 76 = some 1 := by kernel_rfl
theorem tby76 : tbytes Try.prog 76 = some 8 := by kernel_rfl
theorem tagg76 : tagg Try.prog 76 = some false := by kernel_rfl
theorem tz76 : zeroCellsOf Try.prog 76 = some [.nilf] := by kernel_rfl
theorem tsz77 : tsz Try.prog 77 = some 1 := by kernel_rfl
theorem tby77 : tbytes Try.prog 77 = some 8 := by kernel_rfl
theorem tagg77 : tagg Try.prog 77 = some false := by kernel_rfl
theorem tz77 : zeroCellsOf Try.prog 77 = some [.nilf] := by kernel_rfl
theorem tsz78 : tsz Try.prog 78 = some 1 := by kernel_rfl
theorem tby78 : tbytes Try.prog 78 = some 8 := by kernel_rfl
theorem tagg78 : tagg Try.prog 78 = some false := by kernel_rfl
theorem tz78 : zeroCellsOf Try.prog 78 = some [.nilf] := by kernel_rfl
theorem tsz79 : tsz Try.prog 79 = some 1 := by kernel_rfl
theorem tby79 : tbytes Try.prog 79 = some 8 := by kernel_rfl
theorem tagg79 : tagg Try.prog 79 = some false := by kernel_rfl
theorem tz79 : zeroCellsOf Try.prog 79 = some [.nilf] := by kernel_rfl
theorem tsz80 : tsz Try.prog 80 = some 1 := by kernel_rfl
theorem tby80 : tbytes Try.prog 80 = some 8 := by kernel_rfl
theorem tagg80 : tagg Try.prog 80 = some false := by kernel_rfl
theorem tz80 : zeroCellsOf Try.prog 80 = some [.nilf] := by kernel_rfl
theorem tsz81 : tsz Try.prog 81 = some 1 := by kernel_rfl
theorem tby81 : tbytes Try.prog 81 = some 8 := by kernel_rfl
theorem tagg81 : tagg Try.prog 81 = some false := by kernel_rfl
theorem tz81 : zeroCellsOf Try.prog 81 = some [.nilf] := by kernel_rfl
theorem tsz82 : tsz Try.prog 82 = some 4 := by kernel_rfl
theorem tby82 : tbytes Try.prog 82 = some 40 := by kernel_rfl
theorem tagg82 : tagg Try.prog 82 = some true := by kernel_rfl
theorem tz82 : zeroCellsOf Try.prog 82 = some [.nilp, .nilp, .nilp, .str []] := by kernel_rfl
theorem tsz83 : tsz Try.prog 83 = some 4 := by kernel_rfl
theorem tby83 : tbytes Try.prog 83 = some 40 := by kernel_rfl
theorem tagg83 : tagg Try.prog 83 = some true := by kernel_rfl
theorem tz83 : zeroCellsOf Try.prog 83 = some [.nilp, .nilp, .nilp, .str []] := by kernel_rfl
theorem tsz84 : tsz Try.prog 84 = some 0 := by kernel_rfl
theorem tby84 : tbytes Try.prog 84 = some 0 := by kernel_rfl
theorem tagg84 : tagg Try.prog 84 = some true := by kernel_rfl
theorem tz84 : zeroCellsOf Try.prog 84 = some [] := by kernel_rfl
theorem tsz85 : tsz Try.prog 85 = some 0 := by kernel_rfl
theorem tby85 : tbytes Try.prog 85 = some 0 := by kernel_rfl
theorem tagg85 : tagg Try.prog 85 = some true := by kernel_rfl
theorem tz85 : zeroCellsOf Try.prog 85 = some [] := by kernel_rfl
theorem tsz86 : tsz Try.prog 86 = some 0 := by kernel_rfl
theorem tby86 : tbytes Try.prog 86 = some 0 := by kernel_rfl
theorem tagg86 : tagg Try.prog 86 = some true := by kernel_rfl
theorem tz86 : zeroCellsOf Try.prog 86 = some [] := by kernel_rfl
theorem tsz87 : tsz Try.prog 87 = some 1 := by kernel_rfl
theorem tby87 : tbytes Try.prog 87 = some 8 := by kernel_rfl
theorem tagg87 : tagg Try.prog 87 = some false := by kernel_rfl
theorem tz87 : zeroCellsOf Try.prog 87 = some [.nilf] := by kernel_rfl
theorem tsz88 : tsz Try.prog 88 = some 1 := by kernel_rfl
theorem tby88 : tbytes Try.prog 88 = some 4 := by kernel_rfl
theorem tagg88 : tagg Try.prog 88 = some false := by kernel_rfl
theorem tz88 : zeroCellsOf Try.prog 88 = some [.int .u32 0] := by kernel_rfl
theorem tsz89 : tsz Try.prog 89 = some 1 := by kernel_rfl
theorem tby89 : tbytes Try.prog 89 = some 1 := by kernel_rfl
theorem tagg89 : tagg Try.prog 89 = some false := by kernel_rfl
theorem tz89 : zeroCellsOf Try.prog 89 = some [.int .u8 0] := by kernel_rfl
theorem tsz90 : tsz Try.prog 90 = some 1 := by kernel_rfl
theorem tby90 : tbytes Try.prog 90 = some 1 := by kernel_rfl
theorem tagg90 : tagg Try.prog 90 = some false := by kernel_rfl
theorem tz90 : zeroCellsOf Try.prog 90 = some [.int .u8 0] := by kernel_rfl
theorem tsz91 : tsz Try.prog 91 = some 1 := by kernel_rfl
theorem tby91 : tbytes Try.prog 91 = some 8 := by kernel_rfl
theorem tagg91 : tagg Try.prog 91 = some false := by kernel_rfl
theorem tz91 : zeroCellsOf Try.prog 91 = some [.nilf] := by kernel_rfl
theorem tsz92 : tsz Try.prog 92 = some 1 := by kernel_rfl
theorem tby92 : tbytes Try.prog 92 = some 8 := by kernel_rfl
theorem tagg92 : tagg Try.prog 92 = some false := by kernel_rfl
theorem tz92 : zeroCellsOf Try.prog 92 = some [.nilp] := by kernel_rfl
theorem tsz93 : tsz Try.prog 93 = some 1 := by kernel_rfl
theorem tby93 : tbytes Try.prog 93 = some 4 := by kernel_rfl
theorem tagg93 : tagg Try.prog 93 = some false := by kernel_rfl
theorem tz93 : zeroCellsOf Try.prog 93 = some [.int .i32 0] := by kernel_rfl
theorem tsz94 : tsz Try.prog 94 = some 1 := by kernel_rfl
theorem tby94 : tbytes Try.prog 94 = some 4 := by kernel_rfl
theorem tagg94 : tagg Try.prog 94 = some false := by kernel_rfl
theorem tz94 : zeroCellsOf Try.prog 94 = some [.int .i32 0] := by kernel_rfl
theorem tsz95 : tsz Try.prog 95 = some 11 := by kernel_rfl
theorem tby95 : tbytes Try.prog 95 = some 48 := by kernel_rfl
theorem tagg95 : tagg Try.prog 95 = some true := by kernel_rfl
theorem tz95 : zeroCellsOf Try.prog 95 = some [.int .u64 0, .int .u64 0, .int .u32 0, .int .u8 0, .int .u8 0, .int .u8 0, .int .u8 0, .nilf, .nilp, .int .i32 0, .int .i32 0] := by kernel_rfl
theorem tsz96 : tsz Try.prog 96 = some 11 := by kernel_rfl
theorem tby96 : tbytes Try.prog 96 = some 48 := by kernel_rfl
theorem tagg96 : tagg Try.prog 96 = some true := by kernel_rfl
theorem tz96 : zeroCellsOf Try.prog 96 = some [.int .u64 0, .int .u64 0, .int .u32 0, .int .u8 0, .int .u8 0, .int .u8 0, .int .u8 0, .nilf, .nilp, .int .i32 0, .int .i32 0] := by kernel_rfl
theorem tsz97 : tsz Try.prog 97 = some 1 := by kernel_rfl
theorem tby97 : tbytes Try.prog 97 = some 8 := by kernel_rfl
theorem tagg97 : tagg Try.prog 97 = some false := by kernel_rfl
theorem tz97 : zeroCellsOf Try.prog 97 = some [.nilp] := by kernel_rfl
attribute [go_sem] tsz0 tby0 tagg0 Try.underlying0 tsz1 tby1 tagg1 Try.underlying1 tz1 tsz2 tby2 tagg2 Try.underlying2 tz2 tsz3 tby3 tagg3 Try.underlying3 tz3 tsz4 tby4 tagg4 Try.underlying4 tz4 tsz5 tby5 tagg5 Try.underlying5 tz5 tsz6 tby6 tagg6 Try.underlying6 tz6 tsz7 tby7 tagg7 Try.underlying7 tz7 tsz8 tby8 tagg8 Try.underlying8 tz8 tsz9 tby9 tagg9 Try.underlying9 tz9 tsz10 tby10 tagg10 Try.underlying10 tz10 tsz11 tby11 tagg11 Try.underlying11 tz11 tsz12 tby12 tagg12 Try.underlying12 tz12 tsz13 tby13 tagg13 Try.underlying13 tz13 tsz14 tby14 tagg14 Try.underlying14 tz14 tsz15 tby15 tagg15 Try.underlying15 tz15 tsz16 tby16 tagg16 Try.underlying16 tz16 tsz17 tby17 tagg17 Try.underlying17 tz17 tsz18 tby18 tagg18 Try.underlying18 tz18 tsz19 tby19 tagg19 Try.underlying19 tz19 tsz20 tby20 tagg20 Try.underlying20 tz20 tsz21 tby21 tagg21 Try.underlying21 tz21 tsz22 tby22 tagg22 Try.underlying22 tz22 tsz23 tby23 tagg23 Try.underlying23 tz23 fld23_0 fld23_1 fld23_2 fld23_3 bld23 std23 egt23 tsz24 tby24 tagg24 Try.underlying24 tz24 tsz25 tby25 tagg25 Try.underlying25 tz25 tsz26 tby26 tagg26 Try.underlying26 tz26 tsz27 tby27 tagg27 Try.underlying27 tz27 fld27_0 fld27_1 fld27_2 fld27_3 fld27_4 fld27_5 bld27 std27 egt27 tsz28 tby28 tagg28 Try.underlying28 tz28 tsz29 tby29 tagg29 Try.underlying29 tz29 fld29_0 fld29_1 fld29_2 fld29_3 bld29 std29 egt29 tsz30 tby30 tagg30 Try.underlying30 tz30 tsz31 tby31 tagg31 Try.underlying31 tz31 tsz32 tby32 tagg32 Try.underlying32 tz32 tsz33 tby33 tagg33 Try.underlying33 tz33 tsz34 tby34 tagg34 Try.underlying34 tz34 tsz35 tby35 tagg35 Try.underlying35 tz35 tsz36 tby36 tagg36 Try.underlying36 tz36 tsz37 tby37 tagg37 Try.underlying37 tz37 fld37_0 fld37_1 fld37_2 fld37_3 fld37_4 bld37 std37 egt37 tsz38 tby38 tagg38 Try.underlying38 tz38 tsz39 tby39 tagg39 Try.underlying39 tz39 fld39_0 fld39_1 fld39_2 fld39_3 fld39_4 bld39 std39 egt39 tsz40 tby40 tagg40 Try.underlying40 tz40 tsz41 tby41 tagg41 Try.underlying41 tz41 tsz42 tby42 tagg42 Try.underlying42 tz42 tsz43 tby43 tagg43 Try.underlying43 tz43 tsz44 tby44 tagg44 Try.underlying44 tsz45 tby45 tagg45 Try.underlying45 tz45 tsz46 tby46 tagg46 Try.underlying46 tz46 tsz47 tby47 tagg47 Try.underlying47 tz47 tsz48 tby48 tagg48 Try.underlying48 tz48 tsz49 tby49 tagg49 Try.underlying49 tz49 tsz50 tby50 tagg50 Try.underlying50 tz50 fld50_0 fld50_1 bld50 std50 egt50 tsz51 tby51 tagg51 Try.underlying51 tz51 tsz52 tby52 tagg52 Try.underlying52 tz52 fld52_0 fld52_1 fld52_2 fld52_3 fld52_4 fld52_5 fld52_6 bld52 std52 egt52 tsz53 tby53 tagg53 Try.underlying53 tz53 tsz54 tby54 tagg54 Try.underlying54 tz54 tsz55 tby55 tagg55 Try.underlying55 tz55 tsz56 tby56 tagg56 Try.underlying56 tz56 tsz57 tby57 tagg57 Try.underlying57 tz57 tsz58 tby58 tagg58 Try.underlying58 tz58 tsz59 tby59 tagg59 Try.underlying59 tz59 tsz60 tby60 tagg60 Try.underlying60 tz60 tsz61 tby61 tagg61 Try.underlying61 tz61 tsz62 tby62 tagg62 Try.underlying62 tz62 tsz63 tby63 tagg63 Try.underlying63 tz63 fld63_0 fld63_1 fld63_2 bld63 std63 egt63 tsz64 tby64 tagg64 Try.underlying64 tz64 tsz65 tby65 tagg65 Try.underlying65 tz65 tsz66 tby66 tagg66 Try.underlying66 tz66 tsz67 tby67 tagg67 Try.underlying67 tz67 tsz68 tby68 tagg68 Try.underlying68 tz68 tsz69 tby69 tagg69 Try.underlying69 tz69 tsz70 tby70 tagg70 Try.underlying70 tz70 tsz71 tby71 tagg71 Try.underlying71 tz71 tsz72 tby72 tagg72 Try.underlying72 tz72 tsz73 tby73 tagg73 Try.underlying73 tsz74 tby74 tagg74 Try.underlying74 tz74 tsz75 tby75 tagg75 Try.underlying75 tz75 tsz76 tby76 tagg76 Try.underlying76 tz76 tsz77 tby77 tagg77 Try.underlying77 tz77 tsz78 tby78 tagg78 Try.underlying78 tz78 tsz79 tby79 tagg79 Try.underlying79 tz79 tsz80 tby80 tagg80 Try.underlying80 tz80 tsz81 tby81 tagg81 Try.underlying81 tz81 tsz82 tby82 tagg82 Try.underlying82 tz82 tsz83 tby83 tagg83 Try.underlying83 tz83 tsz84 tby84 tagg84 Try.underlying84 tz84 tsz85 tby85 tagg85 Try.underlying85 tz85 tsz86 tby86 tagg86 Try.underlying86 tz86 tsz87 tby87 tagg87 Try.underlying87 tz87 tsz88 tby88 tagg88 Try.underlying88 tz88 tsz89 tby89 tagg89 Try.underlying89 tz89 tsz90 tby90 tagg90 Try.underlying90 tz90 tsz91 tby91 tagg91 Try.underlying91 tz91 tsz92 tby92 tagg92 Try.underlying92 tz92 tsz93 tby93 tagg93 Try.underlying93 tz93 tsz94 tby94 tagg94 Try.underlying94 tz94 tsz95 tby95 tagg95 Try.underlying95 tz95 tsz96 tby96 tagg96 Try.underlying96 tz96 tsz97 tby97 tagg97 Try.underlying97 tz97
theorem mixed : Try.prog.follows .mixedOrders = true := by kernel_rfl
end Go.Proofs.TryTy
