/- The library at this program; which plans its drawn regions have; calls that are known. No condition. -/
import Derived.Test.YtbdhilbngaemcaaGreatDoorAZ
import Derived.Shelf.LaysM
import Derived.Shelf.Strings.Search2
import Derived.Shelf.Strings.IndexAnyAll
import Derived.Shelf.Strconv.Itoa3
import Derived.Test.YtbdhilbngaemcaaGreatDoorChecked
import Derived.KernelRfl
import Derived.Recover
import Derived.Test.YtbdhilbngaemcaaGreatDoorAI
set_option linter.unusedVariables false
set_option linter.unusedSimpArgs false
namespace Go.Proofs
open Go.Shelf
def Tryz.lays219_ren : Go.Shelf.Ren := ⟨fun | 219 => 327 | 217 => 388 | 225 => 389 | 224 => 390 | 267 => 391 | 266 => 420 | 314 => 421 | n => n, fun | 9 => 9 | 3 => 3 | 4 => 4 | 5 => 5 | 46 => 216 | 146 => 506 | 51 => 22 | n => n, fun | 1 => 0 | n => n⟩
theorem Tryz.lays219 : Go.Proofs.Lays.n219 Tryz.prog Tryz.lays219_ren := {
  mixed := by kernel_rfl
  f217 := Tryz.func388.trans (congrArg some (by kernel_rfl))
  f219 := Tryz.func327.trans (congrArg some (by kernel_rfl))
  f224 := Tryz.func390.trans (congrArg some (by kernel_rfl))
  f225 := Tryz.func389.trans (congrArg some (by kernel_rfl))
  f266 := Tryz.func420.trans (congrArg some (by kernel_rfl))
  f267 := Tryz.func391.trans (congrArg some (by kernel_rfl))
  f314 := Tryz.func421.trans (congrArg some (by kernel_rfl))
  t3 := Tryz.underlying3
  a3 := Tryz.isAgg3
  z3 := Tryz.sizeOf3
  v3 := Tryz.zeroValue3
  t4 := Tryz.underlying4
  a4 := Tryz.isAgg4
  z4 := Tryz.sizeOf4
  v4 := Tryz.zeroValue4
  t5 := Tryz.underlying5
  a5 := Tryz.isAgg5
  z5 := Tryz.sizeOf5
  v5 := Tryz.zeroValue5
  t9 := Tryz.underlying9
  a9 := Tryz.isAgg9
  z9 := Tryz.sizeOf9
  v9 := Tryz.zeroValue9
  t46 := Tryz.underlying216
  a46 := Tryz.isAgg216
  z46 := Tryz.sizeOf216
  v46 := Tryz.zeroValue216
  t51 := Tryz.underlying22
  a51 := Tryz.isAgg22
  z51 := Tryz.sizeOf22
  v51 := Tryz.zeroValue22
  t146 := Tryz.underlying506
  a146 := Tryz.isAgg506
  z146 := Tryz.sizeOf506
  v146 := Tryz.zeroValue506
  g1 := by kernel_rfl }
def Tryz.lays153_ren : Go.Shelf.Ren := ⟨fun | 153 => 269 | 152 => 347 | 226 => 348 | 227 => 320 | 228 => 349 | 137 => 407 | 119 => 408 | 224 => 390 | 225 => 389 | 217 => 388 | 266 => 420 | n => n, fun | 9 => 9 | 3 => 3 | 4 => 4 | 5 => 5 | 21 => 21 | 117 => 444 | 116 => 443 | 0 => 0 | 46 => 216 | 124 => 447 | n => n, fun | n => n⟩
theorem Tryz.lays153 : Go.Proofs.Lays.n153 Tryz.prog Tryz.lays153_ren := {
  mixed := by kernel_rfl
  f119 := Tryz.func408.trans (congrArg some (by kernel_rfl))
  f137 := Tryz.func407.trans (congrArg some (by kernel_rfl))
  f152 := Tryz.func347.trans (congrArg some (by kernel_rfl))
  f153 := Tryz.func269.trans (congrArg some (by kernel_rfl))
  f217 := Tryz.func388.trans (congrArg some (by kernel_rfl))
  f224 := Tryz.func390.trans (congrArg some (by kernel_rfl))
  f225 := Tryz.func389.trans (congrArg some (by kernel_rfl))
  f226 := Tryz.func348.trans (congrArg some (by kernel_rfl))
  f227 := Tryz.func320.trans (congrArg some (by kernel_rfl))
  f228 := Tryz.func349.trans (congrArg some (by kernel_rfl))
  f266 := Tryz.func420.trans (congrArg some (by kernel_rfl))
  t0 := Tryz.underlying0
  a0 := Tryz.isAgg0
  z0 := Tryz.sizeOf0
  v0 := Tryz.zeroValue0
  t3 := Tryz.underlying3
  a3 := Tryz.isAgg3
  z3 := Tryz.sizeOf3
  v3 := Tryz.zeroValue3
  t4 := Tryz.underlying4
  a4 := Tryz.isAgg4
  z4 := Tryz.sizeOf4
  v4 := Tryz.zeroValue4
  t5 := Tryz.underlying5
  a5 := Tryz.isAgg5
  z5 := Tryz.sizeOf5
  v5 := Tryz.zeroValue5
  t9 := Tryz.underlying9
  a9 := Tryz.isAgg9
  z9 := Tryz.sizeOf9
  v9 := Tryz.zeroValue9
  t21 := Tryz.underlying21
  a21 := Tryz.isAgg21
  z21 := Tryz.sizeOf21
  v21 := Tryz.zeroValue21
  t46 := Tryz.underlying216
  a46 := Tryz.isAgg216
  z46 := Tryz.sizeOf216
  v46 := Tryz.zeroValue216
  t116 := Tryz.underlying443
  a116 := Tryz.isAgg443
  z116 := Tryz.sizeOf443
  t117 := Tryz.underlying444
  a117 := Tryz.isAgg444
  z117 := Tryz.sizeOf444
  v117 := Tryz.zeroValue444
  t124 := Tryz.underlying447
  a124 := Tryz.isAgg447
  z124 := Tryz.sizeOf447
  v124 := Tryz.zeroValue447 }
def Tryz.lays171_ren : Go.Shelf.Ren := ⟨fun | 171 => 79 | 243 => 120 | 246 => 173 | 283 => 256 | 284 => 257 | 285 => 258 | 286 => 259 | 129 => 338 | 317 => 337 | 318 => 339 | 319 => 340 | 320 => 341 | 337 => 403 | 338 => 404 | n => n, fun | 3 => 3 | 9 => 9 | 2 => 2 | 4 => 4 | 171 => 377 | 0 => 0 | 53 => 378 | 37 => 66 | 5 => 5 | 173 => 381 | 212 => 454 | 51 => 22 | 20 => 20 | 213 => 455 | 46 => 216 | 232 => 513 | 233 => 514 | n => n, fun | 17 => 1 | 18 => 2 | 19 => 3 | n => n⟩
theorem Tryz.lays171 : Go.Proofs.LaysM.n171 Tryz.prog Tryz.lays171_ren := {
  mixed := by kernel_rfl
  f129 := Tryz.func338.trans (congrArg some (by kernel_rfl))
  f171 := Tryz.func79.trans (congrArg some (by kernel_rfl))
  f243 := Tryz.func120.trans (congrArg some (by kernel_rfl))
  f246 := Tryz.func173.trans (congrArg some (by kernel_rfl))
  f283 := Tryz.func256.trans (congrArg some (by kernel_rfl))
  f284 := Tryz.func257.trans (congrArg some (by kernel_rfl))
  f285 := Tryz.func258.trans (congrArg some (by kernel_rfl))
  f286 := Tryz.func259.trans (congrArg some (by kernel_rfl))
  f317 := Tryz.func337.trans (congrArg some (by kernel_rfl))
  f318 := Tryz.func339.trans (congrArg some (by kernel_rfl))
  f319 := Tryz.func340.trans (congrArg some (by kernel_rfl))
  f320 := Tryz.func341.trans (congrArg some (by kernel_rfl))
  f337 := Tryz.func403.trans (congrArg some (by kernel_rfl))
  f338 := Tryz.func404.trans (congrArg some (by kernel_rfl))
  t0 := Tryz.underlying0
  a0 := Tryz.isAgg0
  z0 := Tryz.sizeOf0
  v0 := Tryz.zeroValue0
  t2 := Tryz.underlying2
  a2 := Tryz.isAgg2
  z2 := Tryz.sizeOf2
  v2 := Tryz.zeroValue2
  t3 := Tryz.underlying3
  a3 := Tryz.isAgg3
  z3 := Tryz.sizeOf3
  v3 := Tryz.zeroValue3
  t4 := Tryz.underlying4
  a4 := Tryz.isAgg4
  z4 := Tryz.sizeOf4
  v4 := Tryz.zeroValue4
  t5 := Tryz.underlying5
  a5 := Tryz.isAgg5
  z5 := Tryz.sizeOf5
  v5 := Tryz.zeroValue5
  t9 := Tryz.underlying9
  a9 := Tryz.isAgg9
  z9 := Tryz.sizeOf9
  v9 := Tryz.zeroValue9
  t20 := Tryz.underlying20
  a20 := Tryz.isAgg20
  z20 := Tryz.sizeOf20
  v20 := Tryz.zeroValue20
  t37 := Tryz.underlying66
  a37 := Tryz.isAgg66
  z37 := Tryz.sizeOf66
  v37 := Tryz.zeroValue66
  t46 := Tryz.underlying216
  a46 := Tryz.isAgg216
  z46 := Tryz.sizeOf216
  v46 := Tryz.zeroValue216
  t51 := Tryz.underlying22
  a51 := Tryz.isAgg22
  z51 := Tryz.sizeOf22
  v51 := Tryz.zeroValue22
  t53 := Tryz.underlying378
  a53 := Tryz.isAgg378
  z53 := Tryz.sizeOf378
  v53 := Tryz.zeroValue378
  t171 := Tryz.underlying377
  a171 := Tryz.isAgg377
  z171 := Tryz.sizeOf377
  v171 := Tryz.zeroValue377
  t173 := Tryz.underlying381
  a173 := Tryz.isAgg381
  z173 := Tryz.sizeOf381
  v173 := Tryz.zeroValue381
  t212 := Tryz.underlying454
  a212 := Tryz.isAgg454
  z212 := Tryz.sizeOf454
  v212 := Tryz.zeroValue454
  t213 := Tryz.underlying455
  a213 := Tryz.isAgg455
  z213 := Tryz.sizeOf455
  t232 := Tryz.underlying513
  a232 := Tryz.isAgg513
  z232 := Tryz.sizeOf513
  v232 := Tryz.zeroValue513
  t233 := Tryz.underlying514
  a233 := Tryz.isAgg514
  z233 := Tryz.sizeOf514
  v233 := Tryz.zeroValue514
  g17 := by kernel_rfl
  g18 := by kernel_rfl
  g19 := by kernel_rfl
  i0 := by kernel_rfl
  i2 := by kernel_rfl
  i3 := by kernel_rfl
  i4 := by kernel_rfl
  i5 := by kernel_rfl
  i9 := by kernel_rfl
  i20 := by kernel_rfl
  i37 := by kernel_rfl
  i46 := by kernel_rfl
  i51 := by kernel_rfl
  i53 := by kernel_rfl
  i171 := by kernel_rfl
  i173 := by kernel_rfl
  i212 := by kernel_rfl
  i232 := by kernel_rfl
  i233 := by kernel_rfl
  m17 := by kernel_rfl
  m18 := by kernel_rfl
  m19 := by kernel_rfl }
open Go Go.AH
set_option maxRecDepth 100000
theorem ent420 : Ent Tryz.prog 420 Extern.BytealgIndexByte.indexByte := ⟨Tryz.f420, Tryz.func420, by kernel_rfl, by kernel_rfl, by kernel_rfl, by kernel_rfl⟩
theorem ent423 : Ent Tryz.prog 423 Extern.BytealgCount.count := ⟨Tryz.f423, Tryz.func423, by kernel_rfl, by kernel_rfl, by kernel_rfl, by kernel_rfl⟩
theorem ent428 : Ent Tryz.prog 428 Extern.BytealgCompare.compare := ⟨Tryz.f428, Tryz.func428, by kernel_rfl, by kernel_rfl, by kernel_rfl, by kernel_rfl⟩
theorem ent78 : Ent Tryz.prog 78 Extern.AbiNoEscape.same := ⟨Tryz.f78, Tryz.func78, by kernel_rfl, by kernel_rfl, by kernel_rfl, by kernel_rfl⟩
theorem ent175 : Ent Tryz.prog 175 (Extern.BytealgMakeNoZero.makeNoZero #[3] #[66]) := ⟨Tryz.f175, Tryz.func175, by kernel_rfl, by kernel_rfl, by kernel_rfl, by kernel_rfl⟩
theorem ent185 : Ent Tryz.prog 185 (Extern.SlicesOverlaps.overlaps #[172, 172] #[4]) := ⟨Tryz.f185, Tryz.func185, by kernel_rfl, by kernel_rfl, by kernel_rfl, by kernel_rfl⟩
theorem ent241 : Ent Tryz.prog 241 (Extern.SlicesOverlaps.overlaps #[36, 36] #[4]) := ⟨Tryz.f241, Tryz.func241, by kernel_rfl, by kernel_rfl, by kernel_rfl, by kernel_rfl⟩
theorem call327 : Callable Tryz.prog 327 := ⟨Tryz.f327, Tryz.func327, by kernel_rfl, by kernel_rfl⟩
theorem call79 : Callable Tryz.prog 79 := ⟨Tryz.f79, Tryz.func79, by kernel_rfl, by kernel_rfl⟩
theorem k327 (s sub : ByteArray) (m : Int) (w : World) (hs : s.size < 4294967281) (hm : w.cell? ⟨0, 0, none⟩ = some (.int .i64 m)) : Calls Tryz.prog 327 #[.string s, .string sub] w fun e w' => e = .returned (.int .i64 (Lib.index s.data.toList sub.data.toList)) ∧ w' = w :=
  Any.stringslite_Index Tryz.lays219 s sub m w hs hm
theorem k79 (n : Int) (w : World) (h0 : -9223372036854775808 ≤ n) (h1 : n ≤ 9223372036854775807) (hw : ∃ e fz, w.heap[1]? = some (.cells pow10V.toArray e fz)) :
    Calls Tryz.prog 79 #[.int .i64 n] w fun e w' => e = .returned (.string ⟨(Lib.itoa n).toArray⟩) ∧ ∃ k os, w' = Go.Sort.grow (w.drewN k) os := by
  refine Any.strconv_Itoa Tryz.lays171 n h0 h1 w ?_
  obtain ⟨e, fz, hw⟩ := hw
  have hg : Tryz.prog.globalNamed "internal/strconv.uint64pow10" = some 1 := by kernel_rfl
  unfold Lib.TabIs World.var?
  rw [hg]
  show (match w.heap[1]? with | some (.cells cs _ _) => some cs | _ => none) = _
  rw [hw]
  show some pow10V.toArray = _
  congr 1
theorem call269 : Callable Tryz.prog 269 := ⟨Tryz.f269, Tryz.func269, by kernel_rfl, by kernel_rfl⟩
theorem k269 (s chars : ByteArray) (w : World) (hs : s.size < 4294967281) (hcs : chars.size < 4294967281) (has : ∀ (j : Nat) b, s.data.toList[j]? = some b → b.toNat < 128) (hac : ∀ (j : Nat) b, chars.data.toList[j]? = some b → b.toNat < 128) :
    Calls Tryz.prog 269 #[.string s, .string chars] w fun e w' => e = .returned (.int .i64 (Lib.indexAny s.data.toList chars.data.toList)) ∧ Go.RowKit.Below w.heap.size w w' :=
  Any.strings_IndexAny_laid Tryz.lays153 (by kernel_rfl) s chars w hs hcs has hac
/-- Calls of the library that are known. -/
def spIdx2 (args : List AV) (h : Heap) : Option OutH := match spIdxB args h with
  | some o => some o
  | none => spIdxN args h
def spT (f : FuncId) (args : List AV) (h : Heap) : Option OutH :=
  bif Nat.beq f 420 then spIdx2 args h else bif Nat.beq f 423 then spCount args h else bif Nat.beq f 428 then spCmpF args h else bif Nat.beq f 78 then spSame args h else
  bif Nat.beq f 175 then spMkNZ 5 args h else bif Nat.beq f 185 then spOver args h else bif Nat.beq f 241 then spOver args h else bif Nat.beq f 327 then spIndex args h else bif Nat.beq f 79 then spItoaB args h else bif Nat.beq f 269 then spIdxAny args h else none
theorem bifc {α : Type} {b : Bool} {x y : α} {P : α → Prop} (h1 : b = true → P x) (h2 : b = false → P y) : P (bif b then x else y) := by cases b; exact h2 rfl; exact h1 rfl
theorem spT_ok : CallOk Tryz.prog spT := by
  intro f args h r h' e
  unfold spT at e
  have key : ∀ {n : Nat} {x y : Option OutH}, (bif Nat.beq f n then x else y) = some (r, h') → (f = n ∧ x = some (r, h')) ∨ y = some (r, h') := by
    intro n x y q
    cases hb : Nat.beq f n with
    | true => rw [hb] at q; exact .inl ⟨Nat.eq_of_beq_eq_true hb, q⟩
    | false => rw [hb] at q; exact .inr q
  rcases key e with ⟨rfl, q⟩ | e
  · unfold spIdx2 at q
    split at q
    · cases q; exact spIdxB_ok ent420 (by assumption)
    · exact spIdxN_ok ent420 q
  rcases key e with ⟨rfl, q⟩ | e
  · exact spCount_ok ent423 q
  rcases key e with ⟨rfl, q⟩ | e
  · exact spCmpF_ok ent428 q
  rcases key e with ⟨rfl, q⟩ | e
  · exact spSame_ok ent78 q
  rcases key e with ⟨rfl, q⟩ | e
  · exact spMkNZ_ok (e := 5) Tryz.underlying66 ent175 q
  rcases key e with ⟨rfl, q⟩ | e
  · exact spOver_ok Tryz.underlying172 _ Tryz.sizeOf178 ent185 q
  rcases key e with ⟨rfl, q⟩ | e
  · exact spOver_ok Tryz.underlying36 _ Tryz.sizeOf78 ent241 q
  rcases key e with ⟨rfl, q⟩ | e
  · exact spIndex_ok call327 k327 q
  rcases key e with ⟨rfl, q⟩ | e
  · exact spItoaB_ok call79 k79 q
  rcases key e with ⟨rfl, q⟩ | e
  · exact spIdxAny_ok call269 k269 q
  · cases e
end Go.Proofs
namespace Go.Proofs
open Go Go.AH
set_option maxRecDepth 100000
set_option linter.unusedSimpArgs false
/-- The closure that recovers, in a frame that returns: it turns nothing. -/
theorem catch41 (p q : Value) (w : World) : CallsD Tryz.prog 41 #[p, q] .returning w fun e u' w' => e = .returned (.tuple #[]) ∧ u' = .returning ∧ w' = w := by
  refine callsD_of_wpS Tryz.func41 rfl fun c₀ cs hu => ?_
  apply wpS_seq
  apply wpS_region
  simp [wpOpsS, go_sem, recoverD, hu, Tryz.ntmps41, Exit.thenS]
  apply wpS_seq
  apply wpS_region
  simp [wpOpsS, go_sem, Exit.thenS]
  refine wpS_cond (t := false) (by simp [Act.eval, Array.replicate]) ?_
  simp only [Bool.false_eq_true, if_false]
  refine wpS_of_wp (wp_skip ?_)
  cases c₀
  simp_all [bodyPostS, results, Tryz.results41, Exit.thenS]
theorem call41 : Callable Tryz.prog 41 := ⟨Tryz.f41, Tryz.func41, by kernel_rfl, by kernel_rfl⟩
def dspT (f : FuncId) (caps : List AV) (h : Heap) : Option Heap := bif Nat.beq f 41 then (match caps with
  | [_, _] => some h
  | _ => none) else none
theorem dspT_ok (n : FuncId) (caps : List AV) (h h' : Heap) (e : dspT n caps h = some h') : ADefer Tryz.prog n caps h (fun h'' => h'' = h') := by
  unfold dspT at e
  cases hb : Nat.beq n 41 with
  | false => rw [hb] at e; cases e
  | true =>
    rw [hb] at e
    have hn := Nat.eq_of_beq_eq_true hb
    subst hn
    simp only [cond_true] at e
    split at e <;> simp only [Option.some.injEq, reduceCtorEq] at e
    rename_i x y
    subst e
    refine ⟨call41, fun F β w cs s rl => ?_⟩
    obtain ⟨u, us, e1, ru, v, vs', e2, rv, e3⟩ := rl
    have e3' : vs' = [] := e3
    subst e3' e2
    have hvs : cs = #[u, v] := by rw [← Array.toArray_toList (xs := cs), e1]
    subst hvs
    refine (catch41 u v w).mono ?_
    rintro e u' w' ⟨rfl, rfl, rfl⟩
    exact ⟨_, β, h, rfl, rfl, rfl, Goes.refl s⟩
end Go.Proofs
namespace Go.AH
open Go
set_option maxRecDepth 20000
def pl7_14 : RPlan := .chain ⟨[6, 9], [[0, 1, 2, 3, 4, 5], [7, 8], []], [[0, 1, 2, 3, 4, 5], [0, 7, 8], []], [[], [], [1], [1, 2], [1, 2, 3], [], [1, 2, 3, 4, 5], [0, 1, 2, 3, 4, 5, 6], [0, 1, 2, 3, 4, 5, 6, 7], [0, 1, 2, 3, 4, 5, 6, 7, 8]]⟩
def pl12_1 : RPlan := .tree (.two [0, 1, 3, 4, 7, 8, 10, 11, 13, 14] [0, 1, 3, 4, 7, 8, 10, 11, 13, 14] 2 (.two [] [3, 4, 7, 8, 10, 11, 13, 14] 5 (.two [] [7, 8, 10, 11, 13, 14] 6 (.two [] [7, 8, 10, 11, 13, 14] 9 (.two [] [10, 11, 13, 14] 12 (.two [] [13, 14] 15 (.one [] [] 16 (.one [17] [17] 18 (.fin [19] [19]))) 16 (.one [] [13, 14] 15 (.one [17] [17] 18 (.fin [19] [19])))) 16 (.one [] [10, 11, 13, 14] 12 (.one [] [13, 14] 15 (.one [17] [17] 18 (.fin [19] [19]))))) 16 (.one [] [7, 8, 10, 11, 13, 14] 9 (.one [] [10, 11, 13, 14] 12 (.one [] [13, 14] 15 (.one [17] [17] 18 (.fin [19] [19])))))) 16 (.one [] [7, 8, 10, 11, 13, 14] 6 (.one [] [7, 8, 10, 11, 13, 14] 9 (.one [] [10, 11, 13, 14] 12 (.one [] [13, 14] 15 (.one [17] [17] 18 (.fin [19] [19]))))))) 16 (.one [] [3, 4, 7, 8, 10, 11, 13, 14] 5 (.one [] [7, 8, 10, 11, 13, 14] 6 (.one [] [7, 8, 10, 11, 13, 14] 9 (.one [] [10, 11, 13, 14] 12 (.one [] [13, 14] 15 (.one [17] [17] 18 (.fin [19] [19])))))))) 16 (.one [] [0, 1, 3, 4, 7, 8, 10, 11, 13, 14] 2 (.one [] [3, 4, 7, 8, 10, 11, 13, 14] 5 (.one [] [7, 8, 10, 11, 13, 14] 6 (.one [] [7, 8, 10, 11, 13, 14] 9 (.one [] [10, 11, 13, 14] 12 (.one [] [13, 14] 15 (.one [17] [17] 18 (.fin [19] [19]))))))))) [[], [0], [0, 1], [], [3], [0, 1, 2, 3, 4], [0, 1, 2, 3, 4, 5], [], [7], [0, 1, 2, 3, 4, 5, 6, 7, 8], [], [10], [0, 1, 2, 3, 4, 5, 6, 7, 8, 9, 10, 11], [], [13], [0, 1, 2, 3, 4, 5, 6, 7, 8, 9, 10, 11, 12, 13, 14], [], [0, 1, 2, 3, 4, 5, 6, 7, 8, 9, 10, 11, 12, 13, 14, 15, 16], [0, 1, 2, 3, 4, 5, 6, 7, 8, 9, 10, 11, 12, 13, 14, 15, 16, 17], [0, 1, 2, 3, 4, 5, 6, 7, 8, 9, 10, 11, 12, 13, 14, 15, 16, 17, 18]] [2, 5, 6, 9, 12, 15, 16, 18]
def pl15_7 : RPlan := .chain ⟨[2, 8], [[0, 1, 4, 5, 6, 7], [3], [9, 10]], [[0, 1, 4, 5, 6, 7], [3, 4, 5, 6, 7], [3, 9, 10]], [[], [0], [0, 1], [0, 1, 2], [], [], [4, 5], [4, 5, 6], [0, 1, 2, 4, 5, 6, 7], [0, 1, 2, 3, 4, 5, 6, 7, 8], [0, 1, 2, 3, 4, 5, 6, 7, 8, 9]]⟩
def pl16_5 : RPlan := .chain ⟨[17], [[0, 1, 2, 3, 4, 5, 6, 7, 8, 9, 10, 11, 12, 13, 14, 15, 16], []], [[0, 1, 2, 3, 4, 5, 6, 7, 8, 9, 10, 11, 12, 13, 14, 15, 16], []], [[], [], [1], [], [1, 2, 3], [1, 2, 3, 4], [1, 2, 3, 4, 5], [1, 2, 3, 4, 5, 6], [], [8], [8, 9], [], [8, 9, 10, 11], [8, 9, 10, 11, 12], [8, 9, 10, 11, 12, 13], [1, 2, 3, 4, 5, 6, 7, 8, 9, 10, 11, 12, 13, 14], [0, 1, 2, 3, 4, 5, 6, 7, 8, 9, 10, 11, 12, 13, 14, 15], [0, 1, 2, 3, 4, 5, 6, 7, 8, 9, 10, 11, 12, 13, 14, 15, 16]]⟩
def pl19_2 : RPlan := .chain ⟨[0], [[1, 2, 3], [4, 5]], [[1, 2, 3], [1, 2, 3, 4, 5]], [[], [], [1], [1, 2], [0, 1, 2, 3], [0, 1, 2, 3, 4]]⟩
def pl21_3 : RPlan := .chain ⟨[0, 4], [[1, 2], [3], [5]], [[1, 2], [1, 2, 3], [5]], [[], [], [1], [0, 1, 2], [0, 1, 2, 3], [0, 1, 2, 3, 4]]⟩
def pl21_12 : RPlan := .chain ⟨[5, 6, 7, 8], [[0, 1, 2, 3, 4], [], [], [], []], [[0, 1, 2, 3, 4], [0, 1, 2], [0], [], []], [[], [], [1], [], [3], [3, 4], [1, 2, 3, 4, 5], [0, 1, 2, 3, 4, 5, 6], [0, 1, 2, 3, 4, 5, 6, 7]]⟩
def pl21_16 : RPlan := .chain ⟨[8, 13, 14, 15, 16], [[0, 1, 2, 3, 4, 5, 6, 7, 9, 10, 11, 12], [], [], [], [], []], [[0, 1, 2, 3, 4, 5, 6, 7, 9, 10, 11, 12], [0, 1, 2, 3, 9, 10, 11, 12], [0, 1, 2, 3], [0], [], []], [[], [], [1], [1, 2], [], [], [5], [5, 6], [4, 5, 6, 7], [], [], [10], [10, 11], [4, 5, 6, 7, 8, 9, 10, 11, 12], [1, 2, 3, 4, 5, 6, 7, 8, 9, 10, 11, 12, 13], [0, 1, 2, 3, 4, 5, 6, 7, 8, 9, 10, 11, 12, 13, 14], [0, 1, 2, 3, 4, 5, 6, 7, 8, 9, 10, 11, 12, 13, 14, 15]]⟩
def pl21_21 : RPlan := .chain ⟨[3, 7, 8, 9, 10], [[0, 1, 2, 4, 5, 6], [], [], [], [], []], [[0, 1, 2, 4, 5, 6], [0, 4, 5, 6], [0], [0], [], []], [[], [], [1], [1, 2], [], [], [5], [1, 2, 3, 4, 5, 6], [1, 2, 3, 4, 5, 6, 7], [0, 1, 2, 3, 4, 5, 6, 7, 8], [0, 1, 2, 3, 4, 5, 6, 7, 8, 9]]⟩
def pl21_24 : RPlan := .chain ⟨[3, 10, 11, 12], [[0, 1, 2, 4, 5, 6, 7, 8, 9], [], [], [], []], [[0, 1, 2, 4, 5, 6, 7, 8, 9], [0, 4, 5, 6, 7, 8, 9], [0], [], []], [[], [], [1], [1, 2], [], [4], [4, 5], [], [7], [7, 8], [1, 2, 3, 4, 5, 6, 7, 8, 9], [0, 1, 2, 3, 4, 5, 6, 7, 8, 9, 10], [0, 1, 2, 3, 4, 5, 6, 7, 8, 9, 10, 11]]⟩
def pl22_1 : RPlan := .chain ⟨[10], [[0, 1, 2, 3, 4, 5, 6, 7, 8, 9], [11]], [[0, 1, 2, 3, 4, 5, 6, 7, 8, 9], [11]], [[], [0], [0, 1], [0, 1, 2], [0, 1, 2, 3], [], [5], [5, 6], [5, 6, 7], [5, 6, 7, 8], [0, 1, 2, 3, 4, 5, 6, 7, 8, 9], [0, 1, 2, 3, 4, 5, 6, 7, 8, 9, 10]]⟩
def pl25_5 : RPlan := .chain ⟨[6], [[0, 1, 2, 3, 4, 5], [7]], [[0, 1, 2, 3, 4, 5], [7]], [[], [], [0, 1], [0, 1, 2], [0, 1, 2, 3], [], [0, 1, 2, 3, 4, 5], [0, 1, 2, 3, 4, 5, 6]]⟩
def pl25_6 : RPlan := .chain ⟨[], [[0, 1, 2, 3, 4, 5, 6, 7, 8, 9, 10, 11, 12, 13, 14, 15, 16, 17, 18, 19]], [[0, 1, 2, 3, 4, 5, 6, 7, 8, 9, 10, 11, 12, 13, 14, 15, 16, 17, 18, 19]], [[], [0], [0, 1], [0, 1, 2], [0, 1, 2, 3], [0, 1, 2, 3, 4], [0, 1, 2, 3, 4], [0, 1, 2, 3, 4, 5, 6], [0, 1, 2, 3, 4, 5, 6, 7], [0, 1, 2, 3, 4, 5, 6, 7, 8], [0, 1, 2, 3, 4, 5, 6, 7, 8, 9], [0, 1, 2, 3, 4], [0, 1, 2, 3, 4], [0, 1, 2, 3, 4, 11, 12], [0, 1, 2, 3, 4, 11, 12, 13], [0, 1, 2, 3, 4, 11, 12, 13, 14], [0, 1, 2, 3, 4, 11, 12, 13, 14, 15], [0, 1, 2, 3, 4, 5, 6, 7, 8, 9, 10, 11, 12, 13, 14, 15, 16], [0, 1, 2, 3, 4, 5, 6, 7, 8, 9, 10, 11, 12, 13, 14, 15, 16, 17], [0, 1, 2, 3, 4, 5, 6, 7, 8, 9, 10, 11, 12, 13, 14, 15, 16, 17, 18]]⟩
def pl28_6 : RPlan := .chain ⟨[10], [[0, 1, 2, 3, 4, 5, 6, 7, 8, 9], [11, 12]], [[0, 1, 2, 3, 4, 5, 6, 7, 8, 9], [11, 12]], [[], [0], [0, 1], [0, 1, 2], [0, 1, 2], [0, 1, 2], [0, 1, 2, 5], [0, 1, 2, 4, 5, 6], [0, 1, 2, 4, 5, 6, 7], [0, 1, 2, 4, 5, 6, 7, 8], [0, 1, 2, 3, 4, 5, 6, 7, 8, 9], [0, 1, 2, 3, 4, 5, 6, 7, 8, 9, 10], [0, 1, 2, 3, 4, 5, 6, 7, 8, 9, 10, 11]]⟩
def pl32_2 : RPlan := .chain ⟨[3, 6, 9, 11, 14], [[0, 1, 2, 4, 5, 7, 8, 10], [], [], [], [12, 13], [15]], [[0, 1, 2, 4, 5, 7, 8, 10], [0, 4, 5, 7, 8, 10], [0, 7, 8, 10], [0, 10], [0, 12, 13], [15]], [[], [], [1], [1, 2], [], [4], [1, 2, 3, 4, 5], [], [7], [1, 2, 3, 4, 5, 6, 7, 8], [], [1, 2, 3, 4, 5, 6, 7, 8, 9, 10], [1, 2, 3, 4, 5, 6, 7, 8, 9, 10, 11], [0, 1, 2, 3, 4, 5, 6, 7, 8, 9, 10, 11, 12], [0, 1, 2, 3, 4, 5, 6, 7, 8, 9, 10, 11, 12, 13], [0, 1, 2, 3, 4, 5, 6, 7, 8, 9, 10, 11, 12, 13, 14]]⟩
def pl50_6 : RPlan := .chain ⟨[3, 6], [[0, 1, 2, 4, 5], [], [7]], [[0, 1, 2, 4, 5], [4, 5], [7]], [[], [0], [], [0, 1, 2], [], [], [0, 1, 2, 3, 4, 5], [0, 1, 2, 3, 4, 5, 6]]⟩
def pl53_2 : RPlan := .chain ⟨[18], [[0, 1, 2, 3, 4, 5, 6, 7, 8, 9, 10, 11, 12, 13, 14, 15, 16, 17], [19, 20]], [[0, 1, 2, 3, 4, 5, 6, 7, 8, 9, 10, 11, 12, 13, 14, 15, 16, 17], [14, 15, 19, 20]], [[], [0], [0, 1], [0, 1, 2], [0, 1, 2, 3], [0, 1, 2, 3, 4], [0, 1, 2, 3, 4, 5], [0, 1, 2, 3, 4, 5, 6], [0, 1, 2, 3, 4, 5, 6, 7], [0, 1, 2, 3, 4, 5, 6, 7, 8], [0, 1, 2, 3, 4, 5, 6, 7, 8, 9], [0, 1, 2, 3, 4, 5, 6, 7, 8, 9, 10], [0, 1, 2, 3, 4, 5, 6, 7, 8, 9, 10, 11], [0, 1, 2, 3, 4, 5, 6, 7, 8, 9, 10, 11, 12], [0, 1, 2, 3, 4, 5, 6, 7, 8, 9, 10, 11, 12, 13], [0, 1, 2, 3, 4, 5, 6, 7, 8, 9, 10, 11, 12, 13, 14], [0, 1, 2, 3, 4, 5, 6, 7, 8, 9, 10, 11, 12, 13], [0, 1, 2, 3, 4, 5, 6, 7, 8, 9, 10, 11, 12, 13, 16], [0, 1, 2, 3, 4, 5, 6, 7, 8, 9, 10, 11, 12, 13, 16, 17], [0, 1, 2, 3, 4, 5, 6, 7, 8, 9, 10, 11, 12, 13, 14, 15, 16, 17, 18], [0, 1, 2, 3, 4, 5, 6, 7, 8, 9, 10, 11, 12, 13, 14, 15, 16, 17, 18, 19]]⟩
def pl54_5 : RPlan := .chain ⟨[], [[0, 1, 2, 3, 4, 5, 6]], [[0, 1, 2, 3, 4, 5, 6]], [[], [], [0, 1], [0, 1, 2], [0, 1, 2, 3], [], [0, 1, 2, 3, 4, 5]]⟩
def pl58_7 : RPlan := .chain ⟨[8], [[0, 1, 2, 3, 4, 5, 6, 7, 9, 10, 11, 12], [13, 14, 15]], [[0, 1, 2, 3, 4, 5, 6, 7, 9, 10, 11, 12], [9, 10, 11, 12, 13, 14, 15]], [[], [0], [0, 1], [0, 1, 2], [0, 1, 2, 3], [0, 1, 2, 3, 4], [0, 1, 2, 3, 4, 5], [0, 1, 2, 3, 4, 5, 6], [0, 1, 2, 3, 4, 5, 6, 7], [0, 1, 2, 3, 4, 5, 6], [0, 1, 2, 3, 4, 5, 6], [0, 1, 2, 3, 4, 5, 6, 10], [0, 1, 2, 3, 4, 5, 6, 9, 10, 11], [0, 1, 2, 3, 4, 5, 6, 7, 8, 9, 10, 11, 12], [0, 1, 2, 3, 4, 5, 6, 7, 8, 9, 10, 11, 12, 13], [0, 1, 2, 3, 4, 5, 6, 7, 8, 9, 10, 11, 12, 13, 14]]⟩
def pl59_3 : RPlan := .chain ⟨[6], [[0, 1, 2, 3, 4, 5], [7]], [[0, 1, 2, 3, 4, 5], [7]], [[], [0], [0, 1], [0, 1, 2], [], [], [0, 1, 2, 3, 4, 5], [0, 1, 2, 3, 4, 5, 6]]⟩
def pl65_2 : RPlan := .chain ⟨[10, 11], [[0, 1, 2, 3, 4, 5, 6, 7, 8, 9], [], [12, 13, 14, 15, 16]], [[0, 1, 2, 3, 4, 5, 6, 7, 8, 9], [0, 1, 2, 3, 4, 5, 6], [12, 13, 14, 15, 16]], [[], [0], [0, 1], [0, 1, 2], [], [4], [4, 5], [], [7], [7, 8], [7, 8, 9], [0, 1, 2, 3, 4, 5, 6, 7, 8, 9, 10], [0, 1, 2, 3, 4, 5, 6, 7, 8, 9, 10, 11], [0, 1, 2, 3, 4, 5, 6, 7, 8, 9, 10, 11, 12], [0, 1, 2, 3, 4, 5, 6, 7, 8, 9, 10, 11, 12], [0, 1, 2, 3, 4, 5, 6, 7, 8, 9, 10, 11, 12, 13], [0, 1, 2, 3, 4, 5, 6, 7, 8, 9, 10, 11, 12, 13, 14, 15]]⟩
def pl66_2 : RPlan := .tree (.two [0, 1, 2, 3, 4, 5, 6, 7, 8, 9, 11] [0, 1, 2, 3, 4, 5, 6, 7, 8, 9, 11] 10 (.one [] [0, 1, 2, 3, 4, 5, 6, 11] 12 (.one [] [0, 1, 2, 3, 4, 5, 6] 13 (.fin [14, 15, 16, 17, 18] [14, 15, 16, 17, 18]))) 12 (.one [] [0, 1, 2, 3, 4, 5, 6, 7, 8, 9] 10 (.one [] [0, 1, 2, 3, 4, 5, 6] 13 (.fin [14, 15, 16, 17, 18] [14, 15, 16, 17, 18])))) [[], [0], [0, 1], [0, 1, 2], [], [4], [4, 5], [], [7], [7, 8], [7, 8, 9], [], [11], [0, 1, 2, 3, 4, 5, 6, 7, 8, 9, 10, 11, 12], [0, 1, 2, 3, 4, 5, 6, 7, 8, 9, 10, 11, 12, 13], [0, 1, 2, 3, 4, 5, 6, 7, 8, 9, 10, 11, 12, 13, 14], [0, 1, 2, 3, 4, 5, 6, 7, 8, 9, 10, 11, 12, 13, 14], [0, 1, 2, 3, 4, 5, 6, 7, 8, 9, 10, 11, 12, 13, 14, 15], [0, 1, 2, 3, 4, 5, 6, 7, 8, 9, 10, 11, 12, 13, 14, 15, 16, 17]] [10, 12, 13]
def pl67_2 : RPlan := .chain ⟨[7, 8], [[0, 1, 2, 3, 4, 5, 6], [], [9]], [[0, 1, 2, 3, 4, 5, 6], [0, 1, 2, 3], [9]], [[], [0], [0, 1], [0, 1, 2], [], [4], [4, 5], [4, 5, 6], [0, 1, 2, 3, 4, 5, 6, 7], [0, 1, 2, 3, 4, 5, 6, 7, 8]]⟩
def pl68_2 : RPlan := .chain ⟨[7, 20], [[0, 1, 2, 3, 4, 5, 6, 8, 9, 10, 11, 12, 13, 14, 15, 16, 17, 18, 19], [], [21, 22, 23, 24, 25]], [[0, 1, 2, 3, 4, 5, 6, 8, 9, 10, 11, 12, 13, 14, 15, 16, 17, 18, 19], [0, 1, 2, 3, 8, 9, 10, 11, 12, 13, 14, 15, 16, 17, 18, 19], [21, 22, 23, 24, 25]], [[], [0], [0, 1], [0, 1, 2], [], [4], [4, 5], [4, 5, 6], [], [8], [8, 9], [], [11], [11, 12], [], [14], [], [16], [16, 17], [16, 17, 18], [0, 1, 2, 3, 4, 5, 6, 7, 8, 9, 10, 11, 12, 13, 14, 15, 16, 17, 18, 19], [0, 1, 2, 3, 4, 5, 6, 7, 8, 9, 10, 11, 12, 13, 14, 15, 16, 17, 18, 19, 20], [0, 1, 2, 3, 4, 5, 6, 7, 8, 9, 10, 11, 12, 13, 14, 15, 16, 17, 18, 19, 20, 21], [0, 1, 2, 3, 4, 5, 6, 7, 8, 9, 10, 11, 12, 13, 14, 15, 16, 17, 18, 19, 20, 21], [0, 1, 2, 3, 4, 5, 6, 7, 8, 9, 10, 11, 12, 13, 14, 15, 16, 17, 18, 19, 20, 21, 22], [0, 1, 2, 3, 4, 5, 6, 7, 8, 9, 10, 11, 12, 13, 14, 15, 16, 17, 18, 19, 20, 21, 22, 23, 24]]⟩
def pl69_4 : RPlan := .chain ⟨[4, 9, 11], [[0, 1, 2, 3, 5, 6, 7, 8], [], [10], [12]], [[0, 1, 2, 3, 5, 6, 7, 8], [0, 5, 6, 7, 8], [0, 5, 10], [12]], [[], [], [1], [1, 2], [1, 2, 3], [], [], [6], [6, 7], [1, 2, 3, 4, 6, 7, 8], [1, 2, 3, 4, 5, 6, 7, 8, 9], [0, 1, 2, 3, 4, 5, 6, 7, 8, 9, 10], [0, 1, 2, 3, 4, 5, 6, 7, 8, 9, 10, 11]]⟩
def pl70_2 : RPlan := .chain ⟨[4, 11, 13], [[0, 1, 2, 3, 5, 6, 7, 8, 9, 10], [], [12], [14]], [[0, 1, 2, 3, 5, 6, 7, 8, 9, 10], [0, 5, 6, 7, 8, 9, 10], [0, 5, 6, 7, 12], [14]], [[], [], [1], [1, 2], [1, 2, 3], [], [5], [5, 6], [], [8], [8, 9], [1, 2, 3, 4, 8, 9, 10], [1, 2, 3, 4, 5, 6, 7, 8, 9, 10, 11], [0, 1, 2, 3, 4, 5, 6, 7, 8, 9, 10, 11, 12], [0, 1, 2, 3, 4, 5, 6, 7, 8, 9, 10, 11, 12, 13]]⟩
def pl71_2 : RPlan := .tree (.two [0, 1, 2, 3, 4, 5, 6, 8, 9, 10, 12, 13, 14, 15] [0, 1, 2, 3, 4, 5, 6, 8, 9, 10, 12, 13, 14, 15] 7 (.one [] [0, 1, 2, 3, 8, 9, 10, 12, 13, 14, 15] 11 (.one [] [0, 1, 2, 3, 12, 13, 14, 15] 16 (.fin [17] [17]))) 11 (.one [] [0, 1, 2, 3, 4, 5, 6, 12, 13, 14, 15] 7 (.one [] [0, 1, 2, 3, 12, 13, 14, 15] 16 (.fin [17] [17])))) [[], [0], [0, 1], [0, 1, 2], [], [4], [4, 5], [4, 5, 6], [], [8], [8, 9], [8, 9, 10], [], [12], [12, 13], [12, 13, 14], [0, 1, 2, 3, 4, 5, 6, 7, 8, 9, 10, 11, 12, 13, 14, 15], [0, 1, 2, 3, 4, 5, 6, 7, 8, 9, 10, 11, 12, 13, 14, 15, 16]] [7, 11, 16]
def pl72_2 : RPlan := .chain ⟨[7, 12], [[0, 1, 2, 3, 4, 5, 6, 8, 9, 10, 11], [], [13]], [[0, 1, 2, 3, 4, 5, 6, 8, 9, 10, 11], [0, 1, 2, 3, 8, 9, 10, 11], [13]], [[], [0], [0, 1], [0, 1, 2], [], [4], [4, 5], [4, 5, 6], [], [8], [8, 9], [8, 9, 10], [0, 1, 2, 3, 4, 5, 6, 7, 8, 9, 10, 11], [0, 1, 2, 3, 4, 5, 6, 7, 8, 9, 10, 11, 12]]⟩
def pl73_2 : RPlan := .chain ⟨[7, 12], [[0, 1, 2, 3, 4, 5, 6, 8, 9, 10, 11], [], [13]], [[0, 1, 2, 3, 4, 5, 6, 8, 9, 10, 11], [0, 1, 2, 3, 8, 9, 10, 11], [13]], [[], [0], [0, 1], [0, 1, 2], [], [4], [4, 5], [4, 5, 6], [], [8], [8, 9], [8, 9, 10], [0, 1, 2, 3, 4, 5, 6, 7, 8, 9, 10, 11], [0, 1, 2, 3, 4, 5, 6, 7, 8, 9, 10, 11, 12]]⟩
def pl74_2 : RPlan := .chain ⟨[3, 7], [[0, 1, 2, 4, 5, 6], [], [8, 9]], [[0, 1, 2, 4, 5, 6], [4, 5, 6], [8, 9]], [[], [0], [0, 1], [0, 1, 2], [], [4], [4, 5], [0, 1, 2, 3, 4, 5, 6], [0, 1, 2, 3, 4, 5, 6, 7], [0, 1, 2, 3, 4, 5, 6, 7, 8]]⟩
def pl74_8 : RPlan := .chain ⟨[6, 11], [[0, 1, 2, 3, 4, 5, 7, 8, 9, 10], [], [12]], [[0, 1, 2, 3, 4, 5, 7, 8, 9, 10], [0, 1, 2, 3, 4, 7, 8, 9, 10], [12]], [[], [0], [0, 1], [0, 1, 2], [], [], [5], [], [7], [7, 8], [7, 8, 9], [0, 1, 2, 3, 4, 5, 6, 7, 8, 9, 10], [0, 1, 2, 3, 4, 5, 6, 7, 8, 9, 10, 11]]⟩
def pl75_2 : RPlan := .chain ⟨[8], [[0, 1, 2, 3, 4, 5, 6, 7], [9]], [[0, 1, 2, 3, 4, 5, 6, 7], [9]], [[], [], [1], [1, 2], [], [4], [4, 5], [], [0, 1, 2, 3, 4, 5, 6, 7], [0, 1, 2, 3, 4, 5, 6, 7, 8]]⟩
def pl76_2 : RPlan := .chain ⟨[11], [[0, 1, 2, 3, 4, 5, 6, 7, 8, 9, 10], [12]], [[0, 1, 2, 3, 4, 5, 6, 7, 8, 9, 10], [12]], [[], [], [1], [1, 2], [], [4], [4, 5], [], [7], [7, 8], [7, 8, 9], [0, 1, 2, 3, 4, 5, 6, 7, 8, 9, 10], [0, 1, 2, 3, 4, 5, 6, 7, 8, 9, 10, 11]]⟩
def pl77_2 : RPlan := .chain ⟨[7, 12], [[0, 1, 2, 3, 4, 5, 6, 8, 9, 10, 11], [], [13]], [[0, 1, 2, 3, 4, 5, 6, 8, 9, 10, 11], [0, 1, 2, 3, 8, 9, 10, 11], [13]], [[], [0], [0, 1], [0, 1, 2], [], [4], [4, 5], [4, 5, 6], [], [8], [8, 9], [8, 9, 10], [0, 1, 2, 3, 4, 5, 6, 7, 8, 9, 10, 11], [0, 1, 2, 3, 4, 5, 6, 7, 8, 9, 10, 11, 12]]⟩
def pl84_6 : RPlan := .chain ⟨[2, 8], [[0, 1, 4, 5, 6, 7], [3], [9, 10]], [[0, 1, 4, 5, 6, 7], [3, 4, 5, 6, 7], [3, 9, 10]], [[], [0], [0, 1], [0, 1, 2], [], [], [4, 5], [4, 5, 6], [0, 1, 2, 4, 5, 6, 7], [0, 1, 2, 3, 4, 5, 6, 7, 8], [0, 1, 2, 3, 4, 5, 6, 7, 8, 9]]⟩
def pl85_5 : RPlan := .chain ⟨[15], [[0, 1, 2, 3, 4, 5, 6, 7, 8, 9, 10, 11, 12, 13, 14], []], [[0, 1, 2, 3, 4, 5, 6, 7, 8, 9, 10, 11, 12, 13, 14], []], [[], [], [1], [1, 2], [1, 2, 3], [1, 2, 3, 4], [1, 2, 3, 4, 5], [], [7], [7, 8], [7, 8, 9], [7, 8, 9, 10], [7, 8, 9, 10, 11], [1, 2, 3, 4, 5, 6, 7, 8, 9, 10, 11, 12], [0, 1, 2, 3, 4, 5, 6, 7, 8, 9, 10, 11, 12, 13], [0, 1, 2, 3, 4, 5, 6, 7, 8, 9, 10, 11, 12, 13, 14]]⟩
def pl86_3 : RPlan := .chain ⟨[], [[0, 1, 2, 3, 4, 5, 6, 7, 8, 9, 10, 11, 12]], [[0, 1, 2, 3, 4, 5, 6, 7, 8, 9, 10, 11, 12]], [[], [0], [0, 1], [0, 1, 2], [0, 1, 2, 3], [], [5], [5, 6], [5, 6, 7], [5, 6, 7, 8], [0, 1, 2, 3, 4, 5, 6, 7, 8, 9], [], [0, 1, 2, 3, 4, 5, 6, 7, 8, 9, 10, 11]]⟩
def pl94_8 : RPlan := .chain ⟨[], [[0, 1, 2, 3, 4, 5, 6, 7, 8]], [[0, 1, 2, 3, 4, 5, 6, 7, 8]], [[], [], [0, 1], [0, 1, 2], [], [], [4, 5], [4, 5, 6], [0, 1, 2, 3, 4, 5, 6, 7]]⟩
def pl94_10 : RPlan := .chain ⟨[], [[0, 1, 2, 3, 4, 5, 6, 7, 8]], [[0, 1, 2, 3, 4, 5, 6, 7, 8]], [[], [], [0, 1], [0, 1, 2], [], [], [4, 5], [4, 5, 6], [0, 1, 2, 3, 4, 5, 6, 7]]⟩
def pl95_7 : RPlan := .chain ⟨[13], [[0, 1, 2, 3, 4, 5, 6, 7, 8, 9, 10, 11, 12], []], [[0, 1, 2, 3, 4, 5, 6, 7, 8, 9, 10, 11, 12], []], [[], [], [1], [1, 2], [0, 1, 2, 3], [0, 1, 2, 3, 4], [], [], [], [8], [6, 7, 8, 9], [0, 1, 2, 3, 4, 5, 6, 7, 8, 9, 10], [0, 1, 2, 3, 4, 5, 6, 7, 8, 9, 10, 11], [0, 1, 2, 3, 4, 5, 6, 7, 8, 9, 10, 11, 12]]⟩
def pl100_1 : RPlan := .chain ⟨[2, 15], [[0, 1], [3, 4, 5, 6, 7, 8, 9, 10, 11, 12, 13, 14], [16, 17, 18]], [[0, 1], [3, 4, 5, 6, 7, 8, 9, 10, 11, 12, 13, 14], [10, 16, 17, 18]], [[], [0], [0, 1], [0, 1, 2], [0, 1, 2, 3], [0, 1, 2, 3, 4], [0, 1, 2, 3, 4, 5], [0, 1, 2, 3, 4, 5, 6], [0, 1, 2, 3, 4, 5, 6, 7], [0, 1, 2, 3, 4, 5, 6, 7, 8], [0, 1, 2, 3, 4, 5, 6, 7, 8, 9], [0, 1, 2, 3, 4, 5, 6, 7, 8, 9], [0, 1, 2, 3, 4, 5, 6, 7, 8, 9, 11], [0, 1, 2, 3, 4, 5, 6, 7, 8, 9], [0, 1, 2, 3, 4, 5, 6, 7, 8, 9, 13], [0, 1, 2, 3, 4, 5, 6, 7, 8, 9, 11, 12, 13, 14], [0, 1, 2, 3, 4, 5, 6, 7, 8, 9, 10, 11, 12, 13, 14, 15], [0, 1, 2, 3, 4, 5, 6, 7, 8, 9, 10, 11, 12, 13, 14, 15, 16], [0, 1, 2, 3, 4, 5, 6, 7, 8, 9, 10, 11, 12, 13, 14, 15, 16, 17]]⟩
def pl101_5 : RPlan := .chain ⟨[8, 9, 12], [[0, 1, 2, 3, 4, 5, 6, 7], [], [10, 11], []], [[0, 1, 2, 3, 4, 5, 6, 7], [0, 1, 2, 3, 4, 5], [0, 10, 11], []], [[], [], [1], [1, 2], [1, 2, 3], [], [], [6], [6, 7], [1, 2, 3, 4, 5, 6, 7, 8], [0, 1, 2, 3, 4, 5, 6, 7, 8, 9], [0, 1, 2, 3, 4, 5, 6, 7, 8, 9, 10], [0, 1, 2, 3, 4, 5, 6, 7, 8, 9, 10, 11]]⟩
def pl102_6 : RPlan := .tree (.two [0, 1, 2, 3, 4, 5, 6] [0, 1, 2, 3, 4, 5, 6] 7 (.one [] [] 8 (.one [] [] 9 (.fin [] []))) 8 (.one [] [0, 1, 2, 3, 4, 5, 6] 7 (.one [] [] 9 (.fin [] [])))) [[], [], [], [], [3], [3, 4], [3, 4, 5], [0, 1, 2, 3, 4, 5, 6], [], [0, 1, 2, 3, 4, 5, 6, 7, 8]] [7, 8, 9]
def pl102_7 : RPlan := .chain ⟨[6], [[0, 1, 2, 3, 4, 5], []], [[0, 1, 2, 3, 4, 5], []], [[], [0], [0, 1], [0, 1, 2], [], [], [0, 1, 2, 3, 4, 5]]⟩
def pl102_8 : RPlan := .chain ⟨[6, 8, 9], [[0, 1, 2, 3, 4, 5], [7], [], []], [[0, 1, 2, 3, 4, 5], [0, 1, 2, 3, 7], [0], []], [[], [], [], [2], [], [4], [4, 5], [1, 2, 3, 4, 5, 6], [1, 2, 3, 4, 5, 6, 7], [0, 1, 2, 3, 4, 5, 6, 7, 8]]⟩
def pl106_1 : RPlan := .chain ⟨[8, 10], [[0, 1, 2, 3, 4, 5, 6, 7], [9], [11]], [[0, 1, 2, 3, 4, 5, 6, 7], [0, 1, 2, 3, 4, 5, 6, 9], [11]], [[], [0], [0, 1], [0, 1, 2], [0, 1, 2, 3], [], [], [], [7], [0, 1, 2, 3, 4, 5, 6, 7, 8], [0, 1, 2, 3, 4, 5, 6, 7, 8, 9], [0, 1, 2, 3, 4, 5, 6, 7, 8, 9, 10]]⟩
def pl106_10 : RPlan := .chain ⟨[5], [[0, 1, 2, 3, 4], [6, 7]], [[0, 1, 2, 3, 4], [0, 1, 2, 3, 6, 7]], [[], [0], [0, 1], [0, 1, 2], [], [4], [0, 1, 2, 3, 4, 5], [0, 1, 2, 3, 4, 5, 6]]⟩
def pl107_5 : RPlan := .chain ⟨[11], [[0, 1, 2, 3, 4, 5, 6, 7, 8, 9, 10], [12]], [[0, 1, 2, 3, 4, 5, 6, 7, 8, 9, 10], [12]], [[], [0], [0, 1], [0, 1, 2], [], [4], [], [], [7], [7, 8], [7, 8, 9], [0, 1, 2, 3, 4, 5, 6, 7, 8, 9, 10], [0, 1, 2, 3, 4, 5, 6, 7, 8, 9, 10, 11]]⟩
def pl109_1 : RPlan := .chain ⟨[12, 13], [[0, 1, 2, 3, 4, 5, 6, 7, 8, 9, 10, 11], [], []], [[0, 1, 2, 3, 4, 5, 6, 7, 8, 9, 10, 11], [0], []], [[], [], [1], [1, 2], [1, 2, 3], [], [], [], [], [8], [8, 9], [8, 9, 10], [1, 2, 3, 4, 5, 6, 7, 8, 9, 10, 11], [0, 1, 2, 3, 4, 5, 6, 7, 8, 9, 10, 11, 12]]⟩
def pl113_1 : RPlan := .chain ⟨[2, 5, 7, 8], [[0, 1, 4], [3], [6], [], [9]], [[0, 1, 4], [3, 4], [3, 6], [], [9]], [[], [0], [0, 1], [0, 1, 2], [], [0, 1, 2, 4], [0, 1, 2, 4, 5], [0, 1, 2, 3, 4, 5, 6], [0, 1, 2, 3, 4, 5, 6, 7], [0, 1, 2, 3, 4, 5, 6, 7, 8]]⟩
def pl116_9 : RPlan := .chain ⟨[9], [[0, 1, 2, 3, 4, 5, 6, 7, 8], []], [[0, 1, 2, 3, 4, 5, 6, 7, 8], []], [[], [], [1], [1, 2], [1, 2, 3], [0, 1, 2, 3, 4], [], [], [], [0, 1, 2, 3, 4, 5, 6, 7, 8]]⟩
def pl118_3 : RPlan := .chain ⟨[7, 9, 14], [[0, 1, 2, 3, 4, 5, 6, 10, 11, 12, 13], [8], [], [15]], [[0, 1, 2, 3, 4, 5, 6, 10, 11, 12, 13], [0, 1, 2, 3, 4, 5, 8, 10, 11, 12, 13], [0, 1, 2, 3, 4, 10, 11, 12, 13], [15]], [[], [0], [0, 1], [0, 1, 2], [], [], [], [6], [5, 6, 7], [5, 6, 7, 8], [], [10], [10, 11], [10, 11, 12], [0, 1, 2, 3, 4, 5, 6, 7, 8, 9, 10, 11, 12, 13], [0, 1, 2, 3, 4, 5, 6, 7, 8, 9, 10, 11, 12, 13, 14]]⟩
def pl119_2 : RPlan := .chain ⟨[10, 11], [[0, 1, 2, 3, 4, 5, 6, 7, 8, 9], [], []], [[0, 1, 2, 3, 4, 5, 6, 7, 8, 9], [0], []], [[], [], [1], [1, 2], [1, 2, 3], [], [5], [5, 6], [5, 6, 7], [], [1, 2, 3, 4, 5, 6, 7, 8, 9], [0, 1, 2, 3, 4, 5, 6, 7, 8, 9, 10]]⟩
def pl119_6 : RPlan := .chain ⟨[], [[0, 1, 2, 3, 4, 5, 6, 7, 8, 9, 10, 11, 12, 13, 14, 15, 16, 17, 18, 19, 20, 21, 22]], [[0, 1, 2, 3, 4, 5, 6, 7, 8, 9, 10, 11, 12, 13, 14, 15, 16, 17, 18, 19, 20, 21, 22]], [[], [0], [0, 1], [0, 1, 2], [0, 1, 2, 3], [0, 1, 2, 3, 4], [0, 1, 2, 3, 4, 5], [0, 1, 2, 3, 4, 5, 6], [0, 1, 2, 3, 4, 5, 6, 7], [0, 1, 2, 3, 4, 5, 6, 7, 8], [0, 1, 2, 3, 4, 5, 6, 7, 8, 9], [0, 1, 2, 3, 4, 5, 6, 7, 8, 9, 10], [0, 1, 2, 3, 4, 5, 6, 7, 8, 9, 10, 11], [0, 1, 2, 3, 4, 5, 6, 7, 8, 9, 10, 11, 12], [0, 1, 2, 3, 4, 5, 6, 7, 8, 9, 10, 11, 12, 13], [0, 1, 2, 3, 4, 5, 6, 7, 8, 9, 10, 11, 12, 13, 14], [0, 1, 2, 3, 4, 5, 6, 7, 8, 9, 10, 11, 12, 13, 14, 15], [0, 1, 2, 3, 4, 5, 6, 7, 8, 9, 10, 11, 12], [0, 1, 2, 3, 4, 5, 6, 7, 8, 9, 10, 11, 12, 17], [0, 1, 2, 3, 4, 5, 6, 7, 8, 9, 10, 11, 12, 17, 18], [0, 1, 2, 3, 4, 5, 6, 7, 8, 9, 10, 11, 12, 17, 18, 19], [0, 1, 2, 3, 4, 5, 6, 7, 8, 9, 10, 11, 12, 13, 14, 15, 16, 17, 18, 19, 20], [0, 1, 2, 3, 4, 5, 6, 7, 8, 9, 10, 11, 12, 13, 14, 15, 16, 17, 18, 19, 20, 21]]⟩
def pl125_0 : RPlan := .chain ⟨[8], [[0, 1, 2, 3, 4, 5, 6, 7, 9, 10, 11, 12, 13], [14, 15]], [[0, 1, 2, 3, 4, 5, 6, 7, 9, 10, 11, 12, 13], [9, 10, 11, 12, 13, 14, 15]], [[], [0], [0, 1], [0, 1, 2], [0, 1, 2, 3], [0, 1, 2, 3, 4], [], [0, 1, 2, 3, 4, 5, 6], [0, 1, 2, 3, 4, 5, 6, 7], [], [9], [9, 10], [9, 10, 11], [9, 10, 11, 12], [0, 1, 2, 3, 4, 5, 6, 7, 8, 9, 10, 11, 12, 13], [0, 1, 2, 3, 4, 5, 6, 7, 8, 9, 10, 11, 12, 13, 14]]⟩
def pl132_3 : RPlan := .chain ⟨[3], [[0, 1, 2], []], [[0, 1, 2], []], [[], [0], [], [0, 1, 2]]⟩
def pl136_5 : RPlan := .chain ⟨[2, 3], [[0, 1], [], [4, 5]], [[0, 1], [0], [0, 4, 5]], [[], [], [1], [1, 2], [0, 1, 2, 3], [0, 1, 2, 3, 4]]⟩
def pl138_2 : RPlan := .chain ⟨[5], [[0, 1, 2, 3, 4], [6, 7, 8, 9]], [[0, 1, 2, 3, 4], [6, 7, 8, 9]], [[], [0], [0, 1], [0, 1, 2], [], [0, 1, 2, 3, 4], [0, 1, 2, 3, 4, 5], [0, 1, 2, 3, 4, 5], [0, 1, 2, 3, 4, 5, 6, 7], [0, 1, 2, 3, 4, 5, 6, 7, 8]]⟩
def pl139_11 : RPlan := .chain ⟨[8], [[0, 1, 2, 3, 4, 5, 6, 7], []], [[0, 1, 2, 3, 4, 5, 6, 7], []], [[], [], [], [1, 2], [0, 1, 2, 3], [], [], [5, 6], [0, 1, 2, 3, 4, 5, 6, 7]]⟩
def pl139_15 : RPlan := .chain ⟨[8], [[0, 1, 2, 3, 4, 5, 6, 7], []], [[0, 1, 2, 3, 4, 5, 6, 7], []], [[], [], [], [1, 2], [0, 1, 2, 3], [], [], [5, 6], [0, 1, 2, 3, 4, 5, 6, 7]]⟩
def pl141_2 : RPlan := .tree (.two [0, 1, 2, 4] [0, 1, 2, 4] 3 (.two [] [0, 4] 5 (.one [6] [0, 6] 7 (.one [] [0, 6] 8 (.fin [] []))) 7 (.one [] [0, 4] 5 (.one [6] [0, 6] 8 (.fin [] [])))) 7 (.one [] [0, 1, 2, 4] 3 (.one [] [0, 4] 5 (.one [6] [0, 6] 8 (.fin [] []))))) [[], [], [], [1, 2], [], [1, 2, 3, 4], [0, 1, 2, 3, 4, 5], [], [0, 1, 2, 3, 4, 5, 6, 7]] [3, 5, 7, 8]
def pl142_4 : RPlan := .chain ⟨[6, 7, 10], [[0, 1, 2, 3, 4, 5], [], [8, 9], []], [[0, 1, 2, 3, 4, 5], [0, 1, 2, 3, 4], [0, 8, 9], []], [[], [], [1], [1, 2], [1, 2, 3], [], [5], [1, 2, 3, 4, 5, 6], [0, 1, 2, 3, 4, 5, 6, 7], [0, 1, 2, 3, 4, 5, 6, 7, 8], [0, 1, 2, 3, 4, 5, 6, 7, 8, 9]]⟩
def pl143_2 : RPlan := .chain ⟨[4], [[0, 1, 2, 3], [5]], [[0, 1, 2, 3], [0, 1, 5]], [[], [0], [], [2], [2, 3], [0, 1, 2, 3, 4]]⟩
def pl151_6 : RPlan := .tree (.two [0, 1, 2, 3, 4, 5, 6, 7, 8, 9, 10] [0, 1, 2, 3, 4, 5, 6, 7, 8, 9, 10] 11 (.one [12, 13, 14] [12, 13, 14] 15 (.one [16] [12, 13, 14, 16] 17 (.fin [] []))) 15 (.one [] [0, 1, 2, 3, 4, 5, 6, 7, 8, 9, 10] 11 (.one [12, 13, 14, 16] [12, 13, 14, 16] 17 (.fin [] [])))) [[], [0], [0, 1], [0, 1, 2], [], [4], [], [], [7], [7, 8], [7, 8, 9], [0, 1, 2, 3, 4, 5, 6, 7, 8, 9, 10], [0, 1, 2, 3, 4, 5, 6, 7, 8, 9, 10, 11], [0, 1, 2, 3, 4, 5, 6, 7, 8, 9, 10, 11, 12], [0, 1, 2, 3, 4, 5, 6, 7, 8, 9, 10, 11, 12], [], [0, 1, 2, 3, 4, 5, 6, 7, 8, 9, 10, 11, 12, 13, 15], [0, 1, 2, 3, 4, 5, 6, 7, 8, 9, 10, 11, 12, 13, 14, 15, 16]] [11, 15, 17]
def pl153_1 : RPlan := .tree (.two [0, 1, 2, 3, 4, 5, 6, 8] [0, 1, 2, 3, 4, 5, 6, 8] 7 (.one [] [0, 1, 8] 9 (.one [10] [0, 1, 10] 11 (.fin [] []))) 9 (.one [] [0, 1, 2, 3, 4, 5, 6] 7 (.one [10] [0, 1, 10] 11 (.fin [] [])))) [[], [0], [], [2], [], [4], [2, 3, 4, 5], [2, 3, 4, 5, 6], [], [8], [0, 1, 2, 3, 4, 5, 6, 7, 8, 9], [0, 1, 2, 3, 4, 5, 6, 7, 8, 9, 10]] [7, 9, 11]
def pl157_8 : RPlan := .chain ⟨[7, 10, 11], [[0, 1, 2, 3, 4, 5, 6, 8, 9], [], [], [12]], [[0, 1, 2, 3, 4, 5, 6, 8, 9], [0, 1, 8, 9], [], [12]], [[], [], [], [2], [2, 3], [2, 3, 4], [], [2, 3, 4, 5, 6], [], [], [0, 1, 2, 3, 4, 5, 6, 7, 8, 9], [0, 1, 2, 3, 4, 5, 6, 7, 8, 9, 10], [0, 1, 2, 3, 4, 5, 6, 7, 8, 9, 10, 11]]⟩
def pl159_1 : RPlan := .chain ⟨[5, 14], [[0, 1, 2, 3, 4, 6, 7, 8, 9, 10, 11, 12, 13], [], [15, 16]], [[0, 1, 2, 3, 4, 6, 7, 8, 9, 10, 11, 12, 13], [6, 7, 8, 9, 10, 11, 12, 13], [15, 16]], [[], [0], [0, 1], [0, 1, 2], [0, 1, 2, 3], [0, 1, 2, 3, 4], [], [6], [6, 7], [6, 7, 8], [], [10], [10, 11], [10, 11, 12], [0, 1, 2, 3, 4, 5, 6, 7, 8, 9, 10, 11, 12, 13], [0, 1, 2, 3, 4, 5, 6, 7, 8, 9, 10, 11, 12, 13, 14], [0, 1, 2, 3, 4, 5, 6, 7, 8, 9, 10, 11, 12, 13, 14, 15]]⟩
def pl159_2 : RPlan := .chain ⟨[9], [[0, 1, 2, 3, 4, 5, 6, 7, 8], [10, 11, 12, 13, 14]], [[0, 1, 2, 3, 4, 5, 6, 7, 8], [10, 11, 12, 13, 14]], [[], [0], [0, 1], [0, 1, 2], [], [4], [4, 5], [4, 5, 6], [], [0, 1, 2, 3, 4, 5, 6, 7, 8], [0, 1, 2, 3, 4, 5, 6, 7, 8, 9], [0, 1, 2, 3, 4, 5, 6, 7, 8, 9, 10], [0, 1, 2, 3, 4, 5, 6, 7, 8, 9, 10], [0, 1, 2, 3, 4, 5, 6, 7, 8, 9, 10, 11], [0, 1, 2, 3, 4, 5, 6, 7, 8, 9, 10, 11, 12, 13]]⟩
def pl159_4 : RPlan := .tree (.two [0, 1, 2, 3, 4, 5, 6, 7, 8, 9] [0, 1, 2, 3, 4, 5, 6, 7, 8, 9] 10 (.one [11, 12, 13] [11, 12, 13] 14 (.one [] [11, 12, 13] 15 (.fin [16] [13, 16]))) 14 (.one [] [0, 1, 2, 3, 4, 5, 6, 7, 8, 9] 10 (.one [11, 12, 13] [11, 12, 13] 15 (.fin [16] [13, 16])))) [[], [0], [0, 1], [0, 1, 2], [], [4], [4, 5], [4, 5, 6], [], [], [0, 1, 2, 3, 4, 5, 6, 7, 8, 9], [0, 1, 2, 3, 4, 5, 6, 7, 8, 9, 10], [0, 1, 2, 3, 4, 5, 6, 7, 8, 9, 10, 11], [0, 1, 2, 3, 4, 5, 6, 7, 8, 9, 10, 11], [], [0, 1, 2, 3, 4, 5, 6, 7, 8, 9, 10, 11, 12, 14], [0, 1, 2, 3, 4, 5, 6, 7, 8, 9, 10, 11, 12, 13, 14, 15]] [10, 14, 15]
def pl159_8 : RPlan := .chain ⟨[9, 10], [[0, 1, 2, 3, 4, 5, 6, 7, 8], [], []], [[0, 1, 2, 3, 4, 5, 6, 7, 8], [0, 1, 2, 3, 4, 5, 6, 7, 8], []], [[], [0], [0, 1], [0, 1, 2], [], [4], [4, 5], [4, 5, 6], [0, 1, 2, 3, 4, 5, 6, 7], [], [0, 1, 2, 3, 4, 5, 6, 7, 8, 9]]⟩
def pl159_9 : RPlan := .chain ⟨[9, 18, 23], [[0, 1, 2, 3, 4, 5, 6, 7, 8], [10, 11, 12, 13, 14, 15, 16, 17, 19, 20, 21, 22], [], [24]], [[0, 1, 2, 3, 4, 5, 6, 7, 8], [10, 11, 12, 13, 14, 15, 16, 17, 19, 20, 21, 22], [12, 13, 14, 15, 19, 20, 21, 22], [24]], [[], [], [1], [1, 2], [1, 2, 3], [], [5], [5, 6], [5, 6, 7], [0, 1, 2, 3, 4, 5, 6, 7, 8], [0, 1, 2, 3, 4, 5, 6, 7, 8, 9], [0, 1, 2, 3, 4, 5, 6, 7, 8, 9, 10], [0, 1, 2, 3, 4, 5, 6, 7, 8, 9, 10, 11], [0, 1, 2, 3, 4, 5, 6, 7, 8, 9, 10, 11, 12], [0, 1, 2, 3, 4, 5, 6, 7, 8, 9, 10, 11, 12, 13], [0, 1, 2, 3, 4, 5, 6, 7, 8, 9, 10, 11, 12, 13, 14], [0, 1, 2, 3, 4, 5, 6, 7, 8, 9, 10, 11], [0, 1, 2, 3, 4, 5, 6, 7, 8, 9, 10, 11], [0, 1, 2, 3, 4, 5, 6, 7, 8, 9, 10, 11, 16, 17], [0, 1, 2, 3, 4, 5, 6, 7, 8, 9, 10, 11], [0, 1, 2, 3, 4, 5, 6, 7, 8, 9, 10, 11, 19], [0, 1, 2, 3, 4, 5, 6, 7, 8, 9, 10, 11, 19, 20], [0, 1, 2, 3, 4, 5, 6, 7, 8, 9, 10, 11, 19, 20, 21], [0, 1, 2, 3, 4, 5, 6, 7, 8, 9, 10, 11, 12, 13, 14, 15, 16, 17, 18, 19, 20, 21, 22], [0, 1, 2, 3, 4, 5, 6, 7, 8, 9, 10, 11, 12, 13, 14, 15, 16, 17, 18, 19, 20, 21, 22, 23]]⟩
def pl159_12 : RPlan := .chain ⟨[8, 9, 11], [[0, 1, 2, 3, 4, 5, 6, 7], [], [10], []], [[0, 1, 2, 3, 4, 5, 6, 7], [0, 1, 2, 3, 4, 5], [0, 1, 2, 3, 4, 5, 10], []], [[], [], [], [2], [2, 3], [2, 3, 4], [], [], [6, 7], [6, 7, 8], [2, 3, 4, 5, 6, 7, 8, 9], [0, 1, 2, 3, 4, 5, 6, 7, 8, 9, 10]]⟩
def pl167_11 : RPlan := .chain ⟨[8], [[0, 1, 2, 3, 4, 5, 6, 7], []], [[0, 1, 2, 3, 4, 5, 6, 7], []], [[], [], [], [1, 2], [0, 1, 2, 3], [], [], [5, 6], [0, 1, 2, 3, 4, 5, 6, 7]]⟩
def pl167_15 : RPlan := .chain ⟨[8], [[0, 1, 2, 3, 4, 5, 6, 7], []], [[0, 1, 2, 3, 4, 5, 6, 7], []], [[], [], [], [1, 2], [0, 1, 2, 3], [], [], [5, 6], [0, 1, 2, 3, 4, 5, 6, 7]]⟩
def pl169_1 : RPlan := .chain ⟨[2, 4], [[0, 1, 3], [], [5, 6, 7, 8, 9]], [[0, 1, 3], [3], [5, 6, 7, 8, 9]], [[], [], [0, 1], [], [0, 1, 2, 3], [0, 1, 2, 3, 4], [0, 1, 2, 3, 4, 5], [0, 1, 2, 3, 4, 5], [0, 1, 2, 3, 4, 5, 6], [0, 1, 2, 3, 4, 5, 6, 7, 8]]⟩
def pl169_4 : RPlan := .chain ⟨[6, 17], [[0, 1, 2, 3, 4, 5, 7, 8, 9, 10, 11, 12, 13, 14, 15, 16], [], []], [[0, 1, 2, 3, 4, 5, 7, 8, 9, 10, 11, 12, 13, 14, 15, 16], [0, 1, 2, 3, 7, 8, 9, 10, 11, 12, 13, 14, 15, 16], []], [[], [0], [0, 1], [0, 1, 2], [], [], [4, 5], [], [7], [7, 8], [7, 8, 9], [], [7, 8, 9, 10, 11], [], [13], [13, 14], [13, 14, 15], [0, 1, 2, 3, 4, 5, 6, 7, 8, 9, 10, 11, 12, 13, 14, 15, 16]]⟩
def pl170_14 : RPlan := .chain ⟨[13, 27], [[0, 1, 2, 3, 4, 5, 6, 7, 8, 9, 10, 11, 12], [14, 15, 16, 17, 18, 19, 20, 21, 22, 23, 24, 25, 26], [28, 29, 30]], [[0, 1, 2, 3, 4, 5, 6, 7, 8, 9, 10, 11, 12], [14, 15, 16, 17, 18, 19, 20, 21, 22, 23, 24, 25, 26], [28, 29, 30]], [[], [0], [0, 1], [0, 1, 2], [], [4], [4, 5], [4, 5, 6], [0, 1, 2, 3, 4, 5, 6, 7], [], [9], [9, 10], [9, 10, 11], [0, 1, 2, 3, 4, 5, 6, 7, 8, 9, 10, 11, 12], [0, 1, 2, 3, 4, 5, 6, 7, 8, 9, 10, 11, 12, 13], [0, 1, 2, 3, 4, 5, 6, 7, 8, 9, 10, 11, 12, 13, 14], [0, 1, 2, 3, 4, 5, 6, 7, 8, 9, 10, 11, 12, 13, 14, 15], [0, 1, 2, 3, 4, 5, 6, 7, 8, 9, 10, 11, 12, 13, 14, 15, 16], [0, 1, 2, 3, 4, 5, 6, 7, 8, 9, 10, 11, 12, 13, 14, 15, 16, 17], [0, 1, 2, 3, 4, 5, 6, 7, 8, 9, 10, 11, 12, 13, 14], [0, 1, 2, 3, 4, 5, 6, 7, 8, 9, 10, 11, 12, 13, 14, 19], [0, 1, 2, 3, 4, 5, 6, 7, 8, 9, 10, 11, 12, 13, 14, 19, 20], [0, 1, 2, 3, 4, 5, 6, 7, 8, 9, 10, 11, 12, 13, 14, 19, 20, 21], [0, 1, 2, 3, 4, 5, 6, 7, 8, 9, 10, 11, 12, 13, 14, 15, 16, 17, 18, 19, 20, 21, 22], [0, 1, 2, 3, 4, 5, 6, 7, 8, 9, 10, 11, 12, 13, 14, 15, 16, 17, 18, 19, 20, 21, 22, 23], [0, 1, 2, 3, 4, 5, 6, 7, 8, 9, 10, 11, 12, 13, 14], [0, 1, 2, 3, 4, 5, 6, 7, 8, 9, 10, 11, 12, 13, 14, 25], [0, 1, 2, 3, 4, 5, 6, 7, 8, 9, 10, 11, 12, 13, 14, 15, 16, 17, 18, 19, 20, 21, 22, 23, 24, 25, 26], [0, 1, 2, 3, 4, 5, 6, 7, 8, 9, 10, 11, 12, 13, 14, 15, 16, 17, 18, 19, 20, 21, 22, 23, 24, 25, 26, 27], [0, 1, 2, 3, 4, 5, 6, 7, 8, 9, 10, 11, 12, 13, 14, 15, 16, 17, 18, 19, 20, 21, 22, 23, 24, 25, 26, 27, 28], [0, 1, 2, 3, 4, 5, 6, 7, 8, 9, 10, 11, 12, 13, 14, 15, 16, 17, 18, 19, 20, 21, 22, 23, 24, 25, 26, 27, 28, 29]]⟩
def pl180_5 : RPlan := .chain ⟨[15, 17], [[0, 1, 2, 3, 4, 5, 6, 7, 8, 9, 10, 11, 12, 13, 14], [16], []], [[0, 1, 2, 3, 4, 5, 6, 7, 8, 9, 10, 11, 12, 13, 14], [2, 3, 4, 10, 11, 12, 13, 16], []], [[], [0], [], [2], [2, 3], [], [5], [5, 6], [5, 6, 7], [5, 6, 7, 8], [], [10], [10, 11], [10, 11, 12], [0, 1, 5, 6, 7, 8, 9], [0, 1, 5, 6, 7, 8, 9, 14], [0, 1, 2, 3, 4, 5, 6, 7, 8, 9, 10, 11, 12, 13, 14, 15], [0, 1, 2, 3, 4, 5, 6, 7, 8, 9, 10, 11, 12, 13, 14, 15, 16]]⟩
def pl190_4 : RPlan := .chain ⟨[], [[0, 1, 2, 3, 4, 5, 6, 7]], [[0, 1, 2, 3, 4, 5, 6, 7]], [[], [], [0, 1], [], [], [3, 4], [0, 1, 2], [0, 1, 2, 3, 4, 5, 6]]⟩
def pl191_6 : RPlan := .chain ⟨[4], [[0, 1, 2, 3], [5, 6, 7]], [[0, 1, 2, 3], [0, 1, 2, 5, 6, 7]], [[], [], [0, 1], [], [3], [0, 1, 2, 3, 4], [0, 1, 2, 3, 4, 5], [0, 1, 2, 3, 4, 5, 6]]⟩
def pl194_1 : RPlan := .tree (.two [0, 1, 2, 3, 4] [0, 1, 2, 3, 4] 5 (.two [] [0, 1, 2, 3] 6 (.one [7, 8, 9] [7, 8, 9] 10 (.one [] [7, 8, 9] 11 (.fin [12] [9, 12]))) 10 (.one [] [0, 1, 2, 3] 6 (.one [7, 8, 9] [7, 8, 9] 11 (.fin [12] [9, 12])))) 10 (.one [] [0, 1, 2, 3, 4] 5 (.one [] [0, 1, 2, 3] 6 (.one [7, 8, 9] [7, 8, 9] 11 (.fin [12] [9, 12]))))) [[], [0], [0, 1], [0, 1, 2], [], [4], [0, 1, 2, 3, 4, 5], [0, 1, 2, 3, 4, 5, 6], [0, 1, 2, 3, 4, 5, 6, 7], [0, 1, 2, 3, 4, 5, 6, 7], [], [0, 1, 2, 3, 4, 5, 6, 7, 8, 10], [0, 1, 2, 3, 4, 5, 6, 7, 8, 9, 10, 11]] [5, 6, 10, 11]
def pl197_1 : RPlan := .chain ⟨[9, 11], [[0, 1, 2, 3, 4, 5, 6, 7, 8], [10], []], [[0, 1, 2, 3, 4, 5, 6, 7, 8], [4, 5, 6, 7, 10], []], [[], [0], [0, 1], [0, 1, 2], [], [4], [4, 5], [4, 5, 6], [0, 1, 2, 3], [0, 1, 2, 3, 8], [0, 1, 2, 3, 4, 5, 6, 7, 8, 9], [0, 1, 2, 3, 4, 5, 6, 7, 8, 9, 10]]⟩
def pl206_3 : RPlan := .chain ⟨[5, 6], [[0, 1, 2, 3, 4], [], [7]], [[0, 1, 2, 3, 4], [0, 1, 2, 3], [7]], [[], [0], [0, 1], [0, 1, 2], [], [4], [0, 1, 2, 3, 4, 5], [0, 1, 2, 3, 4, 5, 6]]⟩
def pl207_4 : RPlan := .chain ⟨[6, 8], [[0, 1, 2, 3, 4, 5], [7], []], [[0, 1, 2, 3, 4, 5], [0, 1, 2, 3, 7], []], [[], [0], [0, 1], [0, 1, 2], [], [], [4, 5], [0, 1, 2, 3, 4, 5, 6], [0, 1, 2, 3, 4, 5, 6, 7]]⟩
def pl207_7 : RPlan := .chain ⟨[8, 10], [[0, 1, 2, 3, 4, 5, 6, 7], [9], []], [[0, 1, 2, 3, 4, 5, 6, 7], [0, 1, 2, 3, 9], []], [[], [0], [0, 1], [0, 1, 2], [], [], [], [6], [4, 5, 6, 7], [0, 1, 2, 3, 4, 5, 6, 7, 8], [0, 1, 2, 3, 4, 5, 6, 7, 8, 9]]⟩
def pl207_9 : RPlan := .chain ⟨[6, 8], [[0, 1, 2, 3, 4, 5], [7], []], [[0, 1, 2, 3, 4, 5], [0, 1, 2, 3, 7], []], [[], [0], [0, 1], [0, 1, 2], [], [], [4, 5], [0, 1, 2, 3, 4, 5, 6], [0, 1, 2, 3, 4, 5, 6, 7]]⟩
def pl207_11 : RPlan := .chain ⟨[9, 11], [[0, 1, 2, 3, 4, 5, 6, 7, 8], [10], []], [[0, 1, 2, 3, 4, 5, 6, 7, 8], [0, 1, 2, 3, 10], []], [[], [0], [0, 1], [0, 1, 2], [], [], [], [], [], [4, 5, 6, 7, 8], [0, 1, 2, 3, 4, 5, 6, 7, 8, 9], [0, 1, 2, 3, 4, 5, 6, 7, 8, 9, 10]]⟩
def pl210_11 : RPlan := .chain ⟨[10], [[0, 1, 2, 3, 4, 5, 6, 7, 8, 9], []], [[0, 1, 2, 3, 4, 5, 6, 7, 8, 9], []], [[], [0], [0, 1], [0, 1, 2], [], [], [5], [5, 6], [5, 6, 7], [5, 6, 7, 8], [0, 1, 2, 3, 4, 5, 6, 7, 8, 9]]⟩
def pl211_1 : RPlan := .chain ⟨[9], [[0, 1, 2, 3, 4, 5, 6, 7, 8], [10]], [[0, 1, 2, 3, 4, 5, 6, 7, 8], [10]], [[], [0], [0, 1], [], [3], [3, 4], [], [6], [6, 7], [0, 1, 2, 3, 4, 5, 6, 7, 8], [0, 1, 2, 3, 4, 5, 6, 7, 8, 9]]⟩
def pl217_1 : RPlan := .chain ⟨[], [[0, 1, 2, 3, 4, 5, 6, 7, 8, 9, 10, 11, 12, 13, 14]], [[0, 1, 2, 3, 4, 5, 6, 7, 8, 9, 10, 11, 12, 13, 14]], [[], [0], [0, 1], [0, 1, 2], [0, 1, 2, 3], [0, 1, 2, 3, 4], [0, 1, 2, 3, 4, 5], [0, 1, 2, 3, 4, 5, 6], [0, 1, 2, 3, 4, 5, 6, 7], [0, 1, 2, 3, 4, 5, 6, 7, 8], [0, 1, 2, 3, 4, 5], [0, 1, 2, 3, 4, 5, 10], [0, 1, 2, 3, 4, 5, 6, 7, 8, 9, 10, 11], [0, 1, 2, 3, 4, 5, 6, 7, 8, 9, 10, 11, 12], [0, 1, 2, 3, 4, 5, 6, 7, 8, 9, 10, 11, 12, 13]]⟩
def pl218_24 : RPlan := .chain ⟨[5, 6, 7, 9], [[0, 1, 2, 3, 4], [], [], [8], []], [[0, 1, 2, 3, 4], [0, 1, 2, 3], [0, 1, 2, 3], [0, 8], []], [[], [], [1], [1, 2], [], [4], [4, 5], [1, 2, 3, 4, 5, 6], [0, 1, 2, 3, 4, 5, 6, 7], [0, 1, 2, 3, 4, 5, 6, 7, 8]]⟩
def pl218_29 : RPlan := .chain ⟨[5], [[0, 1, 2, 3, 4], [6]], [[0, 1, 2, 3, 4], [1, 2, 3, 4, 6]], [[], [], [1], [1, 2], [1, 2, 3], [0], [0, 1, 2, 3, 4, 5]]⟩
def pl220_1 : RPlan := .chain ⟨[6], [[0, 1, 2, 3, 4, 5], [7]], [[0, 1, 2, 3, 4, 5], [7]], [[], [0], [0, 1], [0, 1, 2], [], [], [0, 1, 2, 3, 4, 5], [0, 1, 2, 3, 4, 5, 6]]⟩
def pl222_6 : RPlan := .chain ⟨[9], [[0, 1, 2, 3, 4, 5, 6, 7, 8], []], [[0, 1, 2, 3, 4, 5, 6, 7, 8], []], [[], [0], [0, 1], [0, 1, 2], [], [4], [0, 1, 2, 3, 4, 5], [0, 1, 2, 3, 4, 5, 6], [0, 1, 2, 3, 4, 5, 6, 7], [0, 1, 2, 3, 4, 5, 6, 7, 8]]⟩
def pl222_7 : RPlan := .chain ⟨[10], [[0, 1, 2, 3, 4, 5, 6, 7, 8, 9], []], [[0, 1, 2, 3, 4, 5, 6, 7, 8, 9], []], [[], [], [1], [1, 2], [1, 2, 3], [], [5], [1, 2, 3, 4, 5, 6], [0, 1, 2, 3, 4, 5, 6, 7], [0, 1, 2, 3, 4, 5, 6, 7, 8], [0, 1, 2, 3, 4, 5, 6, 7, 8, 9]]⟩
def pl222_11 : RPlan := .chain ⟨[20], [[0, 1, 2, 3, 4, 5, 6, 7, 8, 9, 10, 11, 12, 13, 14, 15, 16, 17, 18, 19], []], [[0, 1, 2, 3, 4, 5, 6, 7, 8, 9, 10, 11, 12, 13, 14, 15, 16, 17, 18, 19], []], [[], [0], [0, 1], [0, 1, 2], [], [4], [4, 5], [4, 5, 6], [], [8], [8, 9], [8, 9, 10], [8, 9, 10, 11], [], [13], [], [15], [15, 16], [15, 16, 17], [], [0, 1, 2, 3, 4, 5, 6, 7, 8, 9, 10, 11, 12, 13, 14, 15, 16, 17, 18, 19]]⟩
def pl225_1 : RPlan := .chain ⟨[9, 10], [[0, 1, 2, 3, 4, 5, 6, 7, 8], [], []], [[0, 1, 2, 3, 4, 5, 6, 7, 8], [0, 1, 2, 3, 4, 5, 6, 7, 8], []], [[], [0], [0, 1], [0, 1, 2], [], [4], [4, 5], [4, 5, 6], [0, 1, 2, 3, 4, 5, 6, 7], [], [0, 1, 2, 3, 4, 5, 6, 7, 8, 9]]⟩
def pl225_3 : RPlan := .chain ⟨[21, 22], [[0, 1, 2, 3, 4, 5, 6, 7, 8, 9, 10, 11, 12, 13, 14, 15, 16, 17, 18, 19, 20], [], [23, 24]], [[0, 1, 2, 3, 4, 5, 6, 7, 8, 9, 10, 11, 12, 13, 14, 15, 16, 17, 18, 19, 20], [0, 1, 2, 3, 4, 5, 6, 7, 8, 9, 10, 11, 12], [23, 24]], [[], [0], [0, 1], [0, 1, 2], [], [4], [4, 5], [4, 5, 6], [], [8], [8, 9], [8, 9, 10], [8, 9, 10, 11], [], [13], [13, 14], [13, 14, 15], [], [17], [17, 18], [17, 18, 19], [13, 14, 15, 16, 17, 18, 19, 20], [0, 1, 2, 3, 4, 5, 6, 7, 8, 9, 10, 11, 12, 13, 14, 15, 16, 17, 18, 19, 20, 21], [0, 1, 2, 3, 4, 5, 6, 7, 8, 9, 10, 11, 12, 13, 14, 15, 16, 17, 18, 19, 20, 21, 22], [0, 1, 2, 3, 4, 5, 6, 7, 8, 9, 10, 11, 12, 13, 14, 15, 16, 17, 18, 19, 20, 21, 22, 23]]⟩
def pl225_5 : RPlan := .chain ⟨[9], [[0, 1, 2, 3, 4, 5, 6, 7, 8], [10, 11]], [[0, 1, 2, 3, 4, 5, 6, 7, 8], [10, 11]], [[], [], [1], [1, 2], [1, 2, 3], [], [5], [5, 6], [5, 6, 7], [0, 1, 2, 3, 4, 5, 6, 7, 8], [0, 1, 2, 3, 4, 5, 6, 7, 8, 9], [0, 1, 2, 3, 4, 5, 6, 7, 8, 9, 10]]⟩
def pl227_4 : RPlan := .chain ⟨[], [[0, 1, 2, 3, 4, 5, 6, 7, 8, 9, 10]], [[0, 1, 2, 3, 4, 5, 6, 7, 8, 9, 10]], [[], [0], [0, 1], [0, 1, 2], [0, 1, 2, 3], [], [5], [5, 6], [5, 6, 7], [0, 1, 2, 3, 4, 5, 6, 7, 8], [0, 1, 2, 3, 4, 5, 6, 7, 8, 9]]⟩
def pl227_7 : RPlan := .chain ⟨[18], [[0, 1, 2, 3, 4, 5, 6, 7, 8, 9, 10, 11, 12, 13, 14, 15, 16, 17], []], [[0, 1, 2, 3, 4, 5, 6, 7, 8, 9, 10, 11, 12, 13, 14, 15, 16, 17], []], [[], [], [1], [1, 2], [1, 2, 3], [], [5], [5, 6], [5, 6, 7], [5, 6, 7, 8], [], [10], [10, 11], [10, 11, 12], [10, 11, 12, 13], [1, 2, 3, 4, 5, 6, 7, 8, 9, 10, 11, 12, 13, 14], [0, 1, 2, 3, 4, 5, 6, 7, 8, 9, 10, 11, 12, 13, 14, 15], [0, 1, 2, 3, 4, 5, 6, 7, 8, 9, 10, 11, 12, 13, 14, 15, 16], [0, 1, 2, 3, 4, 5, 6, 7, 8, 9, 10, 11, 12, 13, 14, 15, 16, 17]]⟩
def pl227_8 : RPlan := .chain ⟨[7, 11, 12, 15], [[0, 1, 2, 3, 4, 5, 6, 9], [8, 10], [], [13, 14], []], [[0, 1, 2, 3, 4, 5, 6, 9], [0, 1, 2, 3, 4, 5, 8, 9, 10], [0, 1, 2, 3, 4], [0, 13, 14], []], [[], [], [1], [1, 2], [1, 2, 3], [], [], [6], [5, 6, 7], [], [5, 6, 7, 8, 9], [5, 6, 7, 8, 9, 10], [1, 2, 3, 4, 5, 6, 7, 8, 9, 10, 11], [0, 1, 2, 3, 4, 5, 6, 7, 8, 9, 10, 11, 12], [0, 1, 2, 3, 4, 5, 6, 7, 8, 9, 10, 11, 12, 13], [0, 1, 2, 3, 4, 5, 6, 7, 8, 9, 10, 11, 12, 13, 14]]⟩
def pl229_1 : RPlan := .chain ⟨[], [[0, 1, 2, 3, 4, 5, 6, 7, 8, 9, 10]], [[0, 1, 2, 3, 4, 5, 6, 7, 8, 9, 10]], [[], [0], [0, 1], [0, 1, 2], [], [0, 1, 2, 3, 4], [0, 1, 2, 3, 4, 5], [0, 1, 2, 3, 4, 5, 6], [0, 1, 2, 3, 4, 5, 6], [0, 1, 2, 3, 4, 5, 6, 7], [0, 1, 2, 3, 4, 5, 6, 7, 8, 9]]⟩
def pl230_1 : RPlan := .chain ⟨[14, 24], [[0, 1, 2, 3, 4, 5, 6, 7, 8, 9, 10, 11, 12, 13, 15, 16, 17, 18, 19, 20, 21, 22], [23], []], [[0, 1, 2, 3, 4, 5, 6, 7, 8, 9, 10, 11, 12, 13, 15, 16, 17, 18, 19, 20, 21, 22], [0, 1, 2, 3, 4, 5, 6, 7, 8, 9, 15, 16, 17, 18, 19, 20, 21, 22, 23], []], [[], [0], [0, 1], [0, 1, 2], [], [4], [4, 5], [4, 5, 6], [0, 1, 2, 3, 4, 5, 6, 7], [0, 1, 2, 3, 4, 5, 6, 7, 8], [], [10], [10, 11], [10, 11, 12], [10, 11, 12, 13], [], [15], [15, 16], [15, 16, 17], [], [19], [19, 20], [19, 20, 21], [0, 1, 2, 3, 4, 5, 6, 7, 8, 9, 10, 11, 12, 13, 14, 15, 16, 17, 18, 19, 20, 21, 22], [0, 1, 2, 3, 4, 5, 6, 7, 8, 9, 10, 11, 12, 13, 14, 15, 16, 17, 18, 19, 20, 21, 22, 23]]⟩
def pl231_0 : RPlan := .chain ⟨[9, 10], [[0, 1, 2, 3, 4, 5, 6, 7, 8], [], []], [[0, 1, 2, 3, 4, 5, 6, 7, 8], [0, 1, 2, 3, 4, 5, 6, 7, 8], []], [[], [0], [0, 1], [0, 1, 2], [], [4], [4, 5], [4, 5, 6], [0, 1, 2, 3, 4, 5, 6, 7], [], [0, 1, 2, 3, 4, 5, 6, 7, 8, 9]]⟩
def pl231_2 : RPlan := .chain ⟨[5], [[0, 1, 2, 3, 4], []], [[0, 1, 2, 3, 4], []], [[], [], [1], [1, 2], [1, 2, 3], [0, 1, 2, 3, 4]]⟩
def pl231_10 : RPlan := .chain ⟨[24], [[0, 1, 2, 3, 4, 5, 6, 7, 8, 9, 10, 11, 12, 13, 14, 15, 16, 17, 18, 19, 20, 21, 22, 23], []], [[0, 1, 2, 3, 4, 5, 6, 7, 8, 9, 10, 11, 12, 13, 14, 15, 16, 17, 18, 19, 20, 21, 22, 23], []], [[], [], [], [2], [2, 3], [2, 3, 4], [], [6], [6, 7], [6, 7, 8], [], [10], [10, 11], [10, 11, 12], [10, 11, 12, 13], [], [15], [15, 16], [15, 16, 17], [15, 16, 17, 18], [10, 11, 12, 13, 14, 15, 16, 17, 18, 19], [], [6, 7, 8, 9, 10, 11, 12, 13, 14, 15, 16, 17, 18, 19, 20, 21], [2, 3, 4, 5, 6, 7, 8, 9, 10, 11, 12, 13, 14, 15, 16, 17, 18, 19, 20, 21, 22], [0, 1, 2, 3, 4, 5, 6, 7, 8, 9, 10, 11, 12, 13, 14, 15, 16, 17, 18, 19, 20, 21, 22, 23]]⟩
def pl232_0 : RPlan := .chain ⟨[14, 17], [[0, 1, 2, 3, 4, 5, 6, 7, 8, 9, 10, 11, 12, 13], [15, 16], []], [[0, 1, 2, 3, 4, 5, 6, 7, 8, 9, 10, 11, 12, 13], [1, 11, 15, 16], []], [[], [], [], [], [3], [3, 4], [3, 4, 5], [], [7], [7, 8], [7, 8, 9], [3, 4, 5, 6, 7, 8, 9, 10], [0, 2, 3, 4, 5, 6, 7, 8, 9, 10], [0, 2, 3, 4, 5, 6, 7, 8, 9, 10, 12], [0, 2, 3, 4, 5, 6, 7, 8, 9, 10, 12, 13], [0, 1, 2, 3, 4, 5, 6, 7, 8, 9, 10, 11, 12, 13, 14], [0, 1, 2, 3, 4, 5, 6, 7, 8, 9, 10, 11, 12, 13, 14, 15], [0, 1, 2, 3, 4, 5, 6, 7, 8, 9, 10, 11, 12, 13, 14, 15, 16]]⟩
def pl233_1 : RPlan := .chain ⟨[2, 6, 11], [[0, 1, 4, 5, 8, 9, 10], [3], [7], [12]], [[0, 1, 4, 5, 8, 9, 10], [3, 4, 5, 8, 9, 10], [3, 7, 8, 9, 10], [12]], [[], [0], [0, 1], [0, 1, 2], [], [4], [0, 1, 2, 4, 5], [0, 1, 2, 4, 5, 6], [], [8], [8, 9], [0, 1, 2, 3, 4, 5, 6, 7, 8, 9, 10], [0, 1, 2, 3, 4, 5, 6, 7, 8, 9, 10, 11]]⟩
def pl233_4 : RPlan := .chain ⟨[9, 11, 12, 13, 15], [[0, 1, 2, 3, 4, 5, 6, 7, 8], [10], [], [], [14], []], [[0, 1, 2, 3, 4, 5, 6, 7, 8], [0, 1, 2, 3, 4, 5, 6, 7, 10], [0, 1, 2, 3, 4, 5, 6, 7], [0, 1, 2, 3, 4, 5, 6, 7], [0, 1, 2, 3, 4, 5, 6, 14], []], [[], [0], [0, 1], [], [3], [3, 4], [0, 1, 2, 3, 4, 5], [], [], [8], [8, 9], [8, 9, 10], [8, 9, 10, 11], [7, 8, 9, 10, 11, 12], [0, 1, 2, 3, 4, 5, 6, 7, 8, 9, 10, 11, 12, 13], [0, 1, 2, 3, 4, 5, 6, 7, 8, 9, 10, 11, 12, 13, 14]]⟩
def pl234_1 : RPlan := .chain ⟨[23], [[0, 1, 2, 3, 4, 5, 6, 7, 8, 9, 10, 11, 12, 13, 14, 15, 16, 17, 18, 19, 20, 21, 22], []], [[0, 1, 2, 3, 4, 5, 6, 7, 8, 9, 10, 11, 12, 13, 14, 15, 16, 17, 18, 19, 20, 21, 22], []], [[], [0], [0, 1], [0, 1, 2], [], [4], [4, 5], [4, 5, 6], [0, 1, 2, 3, 4, 5, 6, 7], [0, 1, 2, 3, 4, 5, 6, 7, 8], [], [10], [10, 11], [10, 11, 12], [], [14], [14, 15], [14, 15, 16], [], [18], [18, 19], [18, 19, 20], [0, 1, 2, 3, 4, 5, 6, 7, 8, 9, 10, 11, 12, 13, 14, 15, 16, 17, 18, 19, 20, 21], [0, 1, 2, 3, 4, 5, 6, 7, 8, 9, 10, 11, 12, 13, 14, 15, 16, 17, 18, 19, 20, 21, 22]]⟩
def pl238_4 : RPlan := .chain ⟨[3, 6], [[0, 1, 2, 4, 5], [], [7]], [[0, 1, 2, 4, 5], [4, 5], [7]], [[], [], [1], [0, 1, 2], [], [4], [0, 1, 2, 3, 4, 5], [0, 1, 2, 3, 4, 5, 6]]⟩
def pl246_1 : RPlan := .chain ⟨[2, 6, 11], [[0, 1], [3, 4, 5], [7, 8, 9, 10, 12, 13], [14, 15, 16]], [[0, 1], [3, 4, 5], [7, 8, 9, 10, 12, 13], [12, 13, 14, 15, 16]], [[], [0], [0, 1], [0, 1, 2], [0, 1, 2, 3], [0, 1, 2, 3, 4], [0, 1, 2, 3, 4, 5], [0, 1, 2, 3, 4, 5, 6], [0, 1, 2, 3, 4, 5, 6, 7], [0, 1, 2, 3, 4, 5, 6, 7, 8], [0, 1, 2, 3, 4, 5, 6, 7, 8, 9], [0, 1, 2, 3, 4, 5, 6, 7, 8, 9, 10], [0, 1, 2, 3, 4, 5, 6, 7, 8], [0, 1, 2, 3, 4, 5, 6, 7, 8, 12], [0, 1, 2, 3, 4, 5, 6, 7, 8, 9, 10, 11, 12, 13], [0, 1, 2, 3, 4, 5, 6, 7, 8, 9, 10, 11, 12, 13, 14], [0, 1, 2, 3, 4, 5, 6, 7, 8, 9, 10, 11, 12, 13, 14, 15]]⟩
def pl248_5 : RPlan := .chain ⟨[], [[0, 1, 2, 3, 4, 5, 6, 7, 8, 9, 10]], [[0, 1, 2, 3, 4, 5, 6, 7, 8, 9, 10]], [[], [0], [0, 1], [0, 1, 2], [], [0, 1, 2, 3, 4], [0, 1, 2, 3, 4, 5], [0, 1, 2, 3, 4, 5, 6], [0, 1, 2, 3, 4, 5, 6], [0, 1, 2, 3, 4, 5, 6, 7], [0, 1, 2, 3, 4, 5, 6, 7, 8, 9]]⟩
def pl248_6 : RPlan := .chain ⟨[], [[0, 1, 2, 3, 4, 5, 6, 7, 8, 9, 10, 11, 12, 13]], [[0, 1, 2, 3, 4, 5, 6, 7, 8, 9, 10, 11, 12, 13]], [[], [0], [0, 1], [0, 1, 2], [0, 1, 2, 3], [0, 1, 2, 3, 4], [0, 1, 2, 3, 4, 5], [0, 1, 2, 3, 4, 5, 6], [0, 1, 2], [0, 1, 2, 8], [0, 1, 2, 8, 9], [0, 1, 2, 8, 9, 10], [0, 1, 2, 3, 4, 5, 6, 7, 8, 9, 10, 11], [0, 1, 2, 3, 4, 5, 6, 7, 8, 9, 10, 11, 12]]⟩
def pl248_8 : RPlan := .chain ⟨[6], [[0, 1, 2, 3, 4, 5], []], [[0, 1, 2, 3, 4, 5], []], [[], [0], [0, 1], [0, 1, 2], [], [], [0, 1, 2, 3, 4, 5]]⟩
def pl250_0 : RPlan := .chain ⟨[], [[0, 1, 2, 3, 4, 5, 6, 7, 8, 9]], [[0, 1, 2, 3, 4, 5, 6, 7, 8, 9]], [[], [0], [0, 1], [0, 1, 2], [0, 1, 2, 3], [], [5], [5, 6], [5, 6, 7], [0, 1, 2, 3, 4, 5, 6, 7, 8]]⟩
def pl250_2 : RPlan := .chain ⟨[6, 7, 8, 11], [[0, 1, 2, 3, 4, 5], [], [], [9, 10], []], [[0, 1, 2, 3, 4, 5], [0, 1, 2, 3, 4], [0, 1, 2, 3, 4], [0, 9, 10], []], [[], [], [1], [1, 2], [1, 2, 3], [], [5], [5, 6], [1, 2, 3, 4, 5, 6, 7], [0, 1, 2, 3, 4, 5, 6, 7, 8], [0, 1, 2, 3, 4, 5, 6, 7, 8, 9], [0, 1, 2, 3, 4, 5, 6, 7, 8, 9, 10]]⟩
def pl252_1 : RPlan := .chain ⟨[1], [[0, 2, 3], [4, 5]], [[0, 2, 3], [2, 3, 4, 5]], [[], [0], [], [2], [0, 1, 2, 3], [0, 1, 2, 3, 4]]⟩
def pl255_2 : RPlan := .chain ⟨[], [[0, 1, 2, 3, 4, 5, 6, 7, 8, 9]], [[0, 1, 2, 3, 4, 5, 6, 7, 8, 9]], [[], [0], [0, 1], [0, 1, 2], [], [4], [4, 5], [4, 5, 6], [4, 5, 6, 7], [0, 1, 2, 3, 4, 5, 6, 7, 8]]⟩
def pl255_4 : RPlan := .chain ⟨[21, 22], [[0, 1, 2, 3, 4, 5, 6, 7, 8, 9, 10, 11, 12, 13, 14, 15, 16, 17, 18, 19, 20], [], []], [[0, 1, 2, 3, 4, 5, 6, 7, 8, 9, 10, 11, 12, 13, 14, 15, 16, 17, 18, 19, 20], [], []], [[], [], [], [2], [2, 3], [2, 3, 4], [2, 3, 4, 5], [], [7], [7, 8], [7, 8, 9], [7, 8, 9, 10], [7, 8, 9, 10, 11], [], [13], [13, 14], [13, 14, 15], [13, 14, 15, 16], [7, 8, 9, 10, 11, 12, 13, 14, 15, 16, 17], [], [], [0, 1, 2, 3, 4, 5, 6, 7, 8, 9, 10, 11, 12, 13, 14, 15, 16, 17, 18, 19, 20], [0, 1, 2, 3, 4, 5, 6, 7, 8, 9, 10, 11, 12, 13, 14, 15, 16, 17, 18, 19, 20, 21]]⟩
def pl258_7 : RPlan := .chain ⟨[12, 14], [[0, 1, 2, 3, 4, 5, 6, 7, 8, 9, 10, 11], [13], []], [[0, 1, 2, 3, 4, 5, 6, 7, 8, 9, 10, 11], [3, 4, 5, 9, 10, 13], []], [[], [], [1], [], [], [4], [], [6], [6, 7], [], [9], [0, 1, 2, 6, 7, 8], [0, 1, 2, 6, 7, 8, 11], [0, 1, 2, 3, 4, 5, 6, 7, 8, 9, 10, 11, 12], [0, 1, 2, 3, 4, 5, 6, 7, 8, 9, 10, 11, 12, 13]]⟩
def pl258_8 : RPlan := .chain ⟨[12, 14], [[0, 1, 2, 3, 4, 5, 6, 7, 8, 9, 10, 11], [13], []], [[0, 1, 2, 3, 4, 5, 6, 7, 8, 9, 10, 11], [3, 4, 5, 9, 10, 13], []], [[], [], [1], [], [], [4], [], [6], [6, 7], [], [9], [0, 1, 2, 6, 7, 8], [0, 1, 2, 6, 7, 8, 11], [0, 1, 2, 3, 4, 5, 6, 7, 8, 9, 10, 11, 12], [0, 1, 2, 3, 4, 5, 6, 7, 8, 9, 10, 11, 12, 13]]⟩
def pl258_9 : RPlan := .chain ⟨[12, 14], [[0, 1, 2, 3, 4, 5, 6, 7, 8, 9, 10, 11], [13], []], [[0, 1, 2, 3, 4, 5, 6, 7, 8, 9, 10, 11], [3, 4, 5, 9, 10, 13], []], [[], [], [1], [], [], [4], [], [6], [6, 7], [], [9], [0, 1, 2, 6, 7, 8], [0, 1, 2, 6, 7, 8, 11], [0, 1, 2, 3, 4, 5, 6, 7, 8, 9, 10, 11, 12], [0, 1, 2, 3, 4, 5, 6, 7, 8, 9, 10, 11, 12, 13]]⟩
def pl258_10 : RPlan := .chain ⟨[12, 14], [[0, 1, 2, 3, 4, 5, 6, 7, 8, 9, 10, 11], [13], []], [[0, 1, 2, 3, 4, 5, 6, 7, 8, 9, 10, 11], [3, 4, 5, 9, 10, 13], []], [[], [], [1], [], [], [4], [], [6], [6, 7], [], [9], [0, 1, 2, 6, 7, 8], [0, 1, 2, 6, 7, 8, 11], [0, 1, 2, 3, 4, 5, 6, 7, 8, 9, 10, 11, 12], [0, 1, 2, 3, 4, 5, 6, 7, 8, 9, 10, 11, 12, 13]]⟩
def pl258_17 : RPlan := .chain ⟨[12, 14], [[0, 1, 2, 3, 4, 5, 6, 7, 8, 9, 10, 11], [13], []], [[0, 1, 2, 3, 4, 5, 6, 7, 8, 9, 10, 11], [3, 4, 5, 9, 10, 13], []], [[], [], [1], [], [], [4], [], [6], [6, 7], [], [9], [0, 1, 2, 6, 7, 8], [0, 1, 2, 6, 7, 8, 11], [0, 1, 2, 3, 4, 5, 6, 7, 8, 9, 10, 11, 12], [0, 1, 2, 3, 4, 5, 6, 7, 8, 9, 10, 11, 12, 13]]⟩
def pl258_18 : RPlan := .chain ⟨[12, 14], [[0, 1, 2, 3, 4, 5, 6, 7, 8, 9, 10, 11], [13], []], [[0, 1, 2, 3, 4, 5, 6, 7, 8, 9, 10, 11], [3, 4, 5, 9, 10, 13], []], [[], [], [1], [], [], [4], [], [6], [6, 7], [], [9], [0, 1, 2, 6, 7, 8], [0, 1, 2, 6, 7, 8, 11], [0, 1, 2, 3, 4, 5, 6, 7, 8, 9, 10, 11, 12], [0, 1, 2, 3, 4, 5, 6, 7, 8, 9, 10, 11, 12, 13]]⟩
def pl258_23 : RPlan := .chain ⟨[12, 14], [[0, 1, 2, 3, 4, 5, 6, 7, 8, 9, 10, 11], [13], []], [[0, 1, 2, 3, 4, 5, 6, 7, 8, 9, 10, 11], [3, 4, 5, 9, 10, 13], []], [[], [], [1], [], [], [4], [], [6], [6, 7], [], [9], [0, 1, 2, 6, 7, 8], [0, 1, 2, 6, 7, 8, 11], [0, 1, 2, 3, 4, 5, 6, 7, 8, 9, 10, 11, 12], [0, 1, 2, 3, 4, 5, 6, 7, 8, 9, 10, 11, 12, 13]]⟩
def pl260_3 : RPlan := .chain ⟨[], [[0, 1, 2, 3, 4, 5, 6, 7, 8, 9, 10, 11]], [[0, 1, 2, 3, 4, 5, 6, 7, 8, 9, 10, 11]], [[], [], [0, 1], [], [], [], [5], [4, 5, 6], [3, 4, 5, 6, 7], [0, 1, 2], [0, 1, 2, 3, 4, 5, 6, 7, 8, 9], [0, 1, 2, 3, 4, 5, 6, 7, 8, 9, 10]]⟩
def pl262_5 : RPlan := .chain ⟨[6], [[0, 1, 2, 3, 4, 5], [7]], [[0, 1, 2, 3, 4, 5], [7]], [[], [], [], [1, 2], [1, 2, 3], [], [0, 1, 2, 3, 4, 5], [0, 1, 2, 3, 4, 5, 6]]⟩
def pl262_8 : RPlan := .chain ⟨[11], [[0, 1, 2, 3, 4, 5, 6, 7, 8, 9, 10], [12, 13, 14, 15]], [[0, 1, 2, 3, 4, 5, 6, 7, 8, 9, 10], [0, 12, 13, 14, 15]], [[], [], [], [1, 2], [1, 2, 3], [1, 2, 3, 4], [1, 2, 3, 4], [1, 2, 3, 4], [1, 2, 3, 4, 6, 7], [1, 2, 3, 4, 6, 7, 8], [1, 2, 3, 4], [1, 2, 3, 4, 5, 6, 7, 8, 9, 10], [1, 2, 3, 4, 5, 6, 7, 8, 9, 10, 11], [1, 2, 3, 4, 5, 6, 7, 8, 9, 10, 11, 12], [0, 1, 2, 3, 4, 5, 6, 7, 8, 9, 10, 11], [0, 1, 2, 3, 4, 5, 6, 7, 8, 9, 10, 11, 12, 13, 14]]⟩
def pl264_1 : RPlan := .chain ⟨[4, 9, 10, 11], [[0, 1, 2, 3, 5, 6, 7, 8], [], [], [], [12]], [[0, 1, 2, 3, 5, 6, 7, 8], [5, 6, 7, 8], [], [], [12]], [[], [0], [], [2], [0, 1, 2, 3], [], [5], [], [7], [0, 1, 2, 3, 4, 5, 6, 7, 8], [0, 1, 2, 3, 4, 5, 6, 7, 8, 9], [0, 1, 2, 3, 4, 5, 6, 7, 8, 9, 10], [0, 1, 2, 3, 4, 5, 6, 7, 8, 9, 10, 11]]⟩
def pl275_6 : RPlan := .chain ⟨[6, 10], [[0, 1, 2, 3, 4, 5, 7, 8, 9], [], [11, 12, 13, 14, 15]], [[0, 1, 2, 3, 4, 5, 7, 8, 9], [0, 1, 2, 3, 7, 8, 9], [11, 12, 13, 14, 15]], [[], [0], [0, 1], [0, 1, 2], [], [], [4, 5], [], [7], [7, 8], [0, 1, 2, 3, 4, 5, 6, 7, 8, 9], [0, 1, 2, 3, 4, 5, 6, 7, 8, 9, 10], [0, 1, 2, 3, 4, 5, 6, 7, 8, 9, 10, 11], [0, 1, 2, 3, 4, 5, 6, 7, 8, 9, 10, 11], [0, 1, 2, 3, 4, 5, 6, 7, 8, 9, 10, 11, 12], [0, 1, 2, 3, 4, 5, 6, 7, 8, 9, 10, 11, 12, 13, 14]]⟩
def pl276_2 : RPlan := .chain ⟨[4], [[0, 1, 2, 3], []], [[0, 1, 2, 3], []], [[], [0], [], [2], [0, 1, 2, 3]]⟩
def pl276_3 : RPlan := .chain ⟨[2], [[0, 1], [3]], [[0, 1], [0, 3]], [[], [], [1], [0, 1, 2]]⟩
def pl277_2 : RPlan := .chain ⟨[12], [[0, 1, 2, 3, 4, 5, 6, 7, 8, 9, 10, 11], [13, 14, 15]], [[0, 1, 2, 3, 4, 5, 6, 7, 8, 9, 10, 11], [10, 13, 14, 15]], [[], [0], [0, 1], [0, 1, 2], [0, 1, 2, 3], [0, 1, 2, 3, 4], [0, 1, 2, 3, 4, 5], [0, 1, 2, 3, 4, 5, 6], [0, 1, 2, 3, 4, 5, 6, 7], [0, 1, 2, 3, 4, 5, 6, 7, 8], [0, 1, 2, 3, 4, 5, 6, 7, 8, 9], [0, 1, 2, 3, 4, 5, 6, 7, 8, 9], [0, 1, 2, 3, 4, 5, 6, 7, 8, 9, 11], [0, 1, 2, 3, 4, 5, 6, 7, 8, 9, 10, 11, 12], [0, 1, 2, 3, 4, 5, 6, 7, 8, 9, 10, 11, 12, 13], [0, 1, 2, 3, 4, 5, 6, 7, 8, 9, 10, 11, 12, 13, 14]]⟩
def pl288_4 : RPlan := .chain ⟨[], [[0, 1, 2, 3, 4, 5]], [[0, 1, 2, 3, 4, 5]], [[], [], [], [1, 2], [1, 2, 3], [0, 1, 2, 3, 4]]⟩
def pl289_1 : RPlan := .chain ⟨[15], [[0, 1, 2, 3, 4, 5, 6, 7, 8, 9, 10, 11, 12, 13, 14], []], [[0, 1, 2, 3, 4, 5, 6, 7, 8, 9, 10, 11, 12, 13, 14], []], [[], [0], [0, 1], [0, 1, 2], [], [4], [4, 5], [4, 5, 6], [4, 5, 6, 7], [], [9], [9, 10], [9, 10, 11], [9, 10, 11, 12], [0, 1, 2, 3, 4, 5, 6, 7, 8, 9, 10, 11, 12, 13], [0, 1, 2, 3, 4, 5, 6, 7, 8, 9, 10, 11, 12, 13, 14]]⟩
def pl290_5 : RPlan := .chain ⟨[6, 7], [[0, 1, 2, 3, 4, 5], [], []], [[0, 1, 2, 3, 4, 5], [], []], [[], [], [0, 1], [], [], [3, 4], [0, 1, 2, 3, 4, 5], [0, 1, 2, 3, 4, 5, 6]]⟩
def pl292_1 : RPlan := .tree (.two [0, 1, 2, 3, 4, 5] [0, 1, 2, 3, 4, 5] 6 (.one [7, 8, 9, 10] [0, 1, 2, 3, 7, 8, 9, 10] 11 (.one [] [0, 1, 2, 3, 7, 8, 9, 10] 12 (.fin [13] [10, 13]))) 11 (.one [] [0, 1, 2, 3, 4, 5] 6 (.one [7, 8, 9, 10] [0, 1, 2, 3, 7, 8, 9, 10] 12 (.fin [13] [10, 13])))) [[], [0], [0, 1], [0, 1, 2], [], [], [4, 5], [0, 1, 2, 3, 4, 5, 6], [0, 1, 2, 3, 4, 5, 6, 7], [0, 1, 2, 3, 4, 5, 6, 7, 8], [0, 1, 2, 3, 4, 5, 6, 7, 8], [], [0, 1, 2, 3, 4, 5, 6, 7, 8, 9, 11], [0, 1, 2, 3, 4, 5, 6, 7, 8, 9, 10, 11, 12]] [6, 11, 12]
def pl294_1 : RPlan := .chain ⟨[2, 13], [[0, 1, 3, 4, 5, 6, 7, 8, 9], [10, 11, 12], []], [[0, 1, 3, 4, 5, 6, 7, 8, 9], [0, 3, 4, 5, 6, 7, 8, 9, 10, 11, 12], []], [[], [], [1], [], [], [4], [4, 5], [4, 5, 6], [4, 5, 6, 7], [], [1, 2, 3, 4, 5, 6, 7, 8, 9], [0, 1, 2, 3, 4, 5, 6, 7, 8, 9, 10], [0, 1, 2, 3, 4, 5, 6, 7, 8, 9, 10, 11], [0, 1, 2, 3, 4, 5, 6, 7, 8, 9, 10, 11, 12]]⟩
def pl294_3 : RPlan := .chain ⟨[9], [[0, 1, 2, 3, 4, 5, 6, 7, 8], []], [[0, 1, 2, 3, 4, 5, 6, 7, 8], []], [[], [0], [0, 1], [0, 1, 2], [], [4], [4, 5], [4, 5, 6], [0, 1, 2, 3, 4, 5, 6, 7], [0, 1, 2, 3, 4, 5, 6, 7, 8]]⟩
def pl305_3 : RPlan := .chain ⟨[8], [[0, 1, 2, 3, 4, 5, 6, 7], [9, 10, 11, 12, 13, 14, 15]], [[0, 1, 2, 3, 4, 5, 6, 7], [9, 10, 11, 12, 13, 14, 15]], [[], [0], [0, 1], [0, 1, 2], [], [4], [4, 5], [4, 5, 6], [0, 1, 2, 3, 4, 5, 6, 7], [0, 1, 2, 3, 4, 5, 6, 7, 8], [0, 1, 2, 3, 4, 5, 6, 7, 8, 9], [0, 1, 2, 3, 4, 5, 6, 7, 8, 9], [0, 1, 2, 3, 4, 5, 6, 7, 8, 9], [0, 1, 2, 3, 4, 5, 6, 7, 8, 9, 10], [0, 1, 2, 3, 4, 5, 6, 7, 8, 9, 10, 11, 13], [0, 1, 2, 3, 4, 5, 6, 7, 8, 9, 10, 11, 12, 13, 14]]⟩
def pl306_2 : RPlan := .chain ⟨[1, 3, 5, 7, 9, 11], [[0, 2, 4], [], [], [6], [8], [10], []], [[0, 2, 4], [2, 4], [4], [6], [8], [10], []], [[], [0], [], [0, 1, 2], [], [0, 1, 2, 3, 4], [0, 1, 2, 3, 4, 5], [0, 1, 2, 3, 4, 5, 6], [0, 1, 2, 3, 4, 5, 6, 7], [0, 1, 2, 3, 4, 5, 6, 7, 8], [0, 1, 2, 3, 4, 5, 6, 7, 8, 9], [0, 1, 2, 3, 4, 5, 6, 7, 8, 9, 10]]⟩
def pl306_6 : RPlan := .chain ⟨[], [[0, 1, 2, 3, 4, 5, 6]], [[0, 1, 2, 3, 4, 5, 6]], [[], [0], [0, 1], [0, 1, 2], [], [0, 1, 2, 3, 4], [0, 1, 2, 3, 4, 5]]⟩
def pl306_7 : RPlan := .chain ⟨[], [[0, 1, 2, 3, 4, 5, 6, 7, 8, 9, 10, 11]], [[0, 1, 2, 3, 4, 5, 6, 7, 8, 9, 10, 11]], [[], [], [1], [1, 2], [1, 2, 3], [1, 2, 3, 4], [], [6], [6, 7], [6, 7, 8], [1, 2, 3, 4, 5, 6, 7, 8, 9], [0, 1, 2, 3, 4, 5, 6, 7, 8, 9, 10]]⟩
def pl308_6 : RPlan := .chain ⟨[9, 10], [[0, 1, 2, 3, 4, 5, 6, 7, 8], [], [11]], [[0, 1, 2, 3, 4, 5, 6, 7, 8], [0, 1, 2, 3, 4, 5, 6, 7, 8], [8, 11]], [[], [0], [0, 1], [0, 1, 2], [], [0, 1, 2, 3, 4], [0, 1, 2, 3, 4, 5], [0, 1, 2, 3, 4, 5, 6], [0, 1, 2, 3, 4, 5, 6], [], [0, 1, 2, 3, 4, 5, 6, 7, 9], [0, 1, 2, 3, 4, 5, 6, 7, 8, 9, 10]]⟩
def pl308_7 : RPlan := .chain ⟨[17], [[0, 1, 2, 3, 4, 5, 6, 7, 8, 9, 10, 11, 12, 13, 14, 15, 16], [18, 19]], [[0, 1, 2, 3, 4, 5, 6, 7, 8, 9, 10, 11, 12, 13, 14, 15, 16], [18, 19]], [[], [0], [0, 1], [0, 1, 2], [0, 1, 2, 3], [0, 1, 2, 3, 4], [0, 1, 2, 3, 4, 5], [0, 1, 2, 3, 4, 5, 6], [0, 1, 2], [0, 1, 2, 8], [0, 1, 2, 8, 9], [0, 1, 2, 8, 9, 10], [0, 1, 2, 3, 4, 5, 6, 7, 8, 9, 10, 11], [0, 1, 2, 3, 4, 5, 6, 7, 8, 9, 10, 11, 12], [0, 1, 2, 3, 4, 5, 6, 7, 8, 9, 10, 11, 12, 13], [0, 1, 2, 3, 4, 5, 6, 7, 8, 9, 10, 11, 12, 13, 14], [0, 1, 2, 3, 4, 5, 6, 7, 8, 9, 10, 11, 12, 13, 14], [0, 1, 2, 3, 4, 5, 6, 7, 8, 9, 10, 11, 12, 13, 14, 15, 16], [0, 1, 2, 3, 4, 5, 6, 7, 8, 9, 10, 11, 12, 13, 14, 15, 16, 17], [0, 1, 2, 3, 4, 5, 6, 7, 8, 9, 10, 11, 12, 13, 14, 15, 16, 17, 18]]⟩
def pl308_9 : RPlan := .chain ⟨[5], [[0, 1, 2, 3, 4], []], [[0, 1, 2, 3, 4], []], [[], [0], [0, 1], [0, 1, 2], [], [0, 1, 2, 3, 4]]⟩
def pl308_10 : RPlan := .chain ⟨[6, 12], [[0, 1, 2, 3, 4, 5, 7, 8, 9, 10], [11], []], [[0, 1, 2, 3, 4, 5, 7, 8, 9, 10], [0, 1, 2, 3, 4, 7, 8, 9, 10, 11], []], [[], [0], [0, 1], [0, 1, 2], [], [], [5], [], [], [8], [7, 8, 9], [5, 6, 7, 8, 9, 10], [0, 1, 2, 3, 4, 5, 6, 7, 8, 9, 10, 11]]⟩
def pl309_8 : RPlan := .chain ⟨[3, 4, 9, 10], [[0, 1, 2, 5, 6, 7, 8], [], [], [], []], [[0, 1, 2, 5, 6, 7, 8], [0, 5, 6, 7, 8], [5, 6, 7, 8], [5, 6, 7, 8], []], [[], [], [1], [1, 2], [0, 1, 2, 3], [], [], [6], [5, 6, 7], [0, 1, 2, 3, 4], [0, 1, 2, 3, 4, 5, 6, 7, 8, 9]]⟩
def pl315_1 : RPlan := .chain ⟨[2, 5], [[0, 1, 3, 4], [], [6]], [[0, 1, 3, 4], [3, 4], [6]], [[], [], [0, 1], [], [3], [0, 1, 2, 3, 4], [0, 1, 2, 3, 4, 5]]⟩
def pl335_6 : RPlan := .chain ⟨[5], [[0, 1, 2, 3, 4], []], [[0, 1, 2, 3, 4], []], [[], [0], [0, 1], [0, 1, 2], [], [0, 1, 2, 3, 4]]⟩
def pl344_1 : RPlan := .chain ⟨[4, 9, 10, 11], [[0, 1, 2, 3, 5, 6, 7, 8], [], [], [], [12]], [[0, 1, 2, 3, 5, 6, 7, 8], [5, 6, 7, 8], [], [], [12]], [[], [0], [], [2], [0, 1, 2, 3], [], [5], [], [7], [0, 1, 2, 3, 4, 5, 6, 7, 8], [0, 1, 2, 3, 4, 5, 6, 7, 8, 9], [0, 1, 2, 3, 4, 5, 6, 7, 8, 9, 10], [0, 1, 2, 3, 4, 5, 6, 7, 8, 9, 10, 11]]⟩
def pl346_3 : RPlan := .chain ⟨[13, 15], [[0, 1, 2, 3, 4, 5, 6, 7, 8, 9, 10, 11, 12], [14], []], [[0, 1, 2, 3, 4, 5, 6, 7, 8, 9, 10, 11, 12], [2, 3, 14], []], [[], [], [], [], [], [], [4, 5], [4, 5, 6], [], [], [8, 9], [8, 9, 10], [0, 1, 4, 5, 6, 7, 8, 9, 10, 11], [0, 1, 4, 5, 6, 7, 8, 9, 10, 11, 12], [0, 1, 2, 3, 4, 5, 6, 7, 8, 9, 10, 11, 12, 13], [0, 1, 2, 3, 4, 5, 6, 7, 8, 9, 10, 11, 12, 13, 14]]⟩
def pl347_6 : RPlan := .chain ⟨[], [[0, 1, 2, 3, 4, 5, 6]], [[0, 1, 2, 3, 4, 5, 6]], [[], [], [0, 1], [], [], [3, 4], [0, 1, 2, 3, 4, 5]]⟩
def pl347_7 : RPlan := .chain ⟨[7], [[0, 1, 2, 3, 4, 5, 6], [8]], [[0, 1, 2, 3, 4, 5, 6], [8]], [[], [], [1], [0, 1, 2], [], [], [4, 5], [0, 1, 2, 3, 4, 5, 6], [0, 1, 2, 3, 4, 5, 6, 7]]⟩
def pl347_14 : RPlan := .chain ⟨[], [[0, 1, 2, 3, 4, 5, 6, 7, 8, 9, 10]], [[0, 1, 2, 3, 4, 5, 6, 7, 8, 9, 10]], [[], [], [], [1, 2], [0, 1, 2, 3], [], [], [], [6, 7], [5, 6, 7, 8], [0, 1, 2, 3, 4, 5, 6, 7, 8, 9]]⟩
def pl347_31 : RPlan := .chain ⟨[], [[0, 1, 2, 3, 4, 5, 6, 7, 8, 9, 10]], [[0, 1, 2, 3, 4, 5, 6, 7, 8, 9, 10]], [[], [], [], [1, 2], [0, 1, 2, 3], [], [], [], [6, 7], [5, 6, 7, 8], [0, 1, 2, 3, 4, 5, 6, 7, 8, 9]]⟩
def pl356_4 : RPlan := .chain ⟨[4], [[0, 1, 2, 3], []], [[0, 1, 2, 3], []], [[], [0], [], [2], [0, 1, 2, 3]]⟩
def pl359_9 : RPlan := .chain ⟨[4, 8, 9, 10], [[0, 1, 2, 3, 5, 6], [7], [], [], []], [[0, 1, 2, 3, 5, 6], [0, 5, 6, 7], [0], [], []], [[], [], [1], [1, 2], [1, 2, 3], [], [5], [1, 2, 3, 4, 5, 6], [1, 2, 3, 4, 5, 6, 7], [0, 1, 2, 3, 4, 5, 6, 7, 8], [0, 1, 2, 3, 4, 5, 6, 7, 8, 9]]⟩
def pl371_1 : RPlan := .chain ⟨[], [[0, 1, 2, 3, 4, 5, 6, 7, 8, 9, 10, 11, 12, 13, 14, 15, 16, 17, 18]], [[0, 1, 2, 3, 4, 5, 6, 7, 8, 9, 10, 11, 12, 13, 14, 15, 16, 17, 18]], [[], [0], [0, 1], [0, 1, 2], [0, 1, 2, 3], [0, 1, 2, 3, 4], [0, 1, 2, 3, 4, 5], [0, 1, 2, 3, 4, 5], [0, 1, 2, 3, 4, 5, 7], [0, 1, 2, 3, 4, 5, 7, 8], [0, 1, 2, 3, 4, 5, 7, 8, 9], [0, 1, 2, 3, 4, 5, 7, 8, 9, 10], [0, 1, 2, 3, 4, 5], [0, 1, 2, 3, 4, 5, 12], [0, 1, 2, 3, 4, 5, 12, 13], [0, 1, 2, 3, 4, 5, 12, 13, 14], [0, 1, 2, 3, 4, 5, 7, 8, 9, 10, 11, 12, 13, 14, 15], [0, 1, 2, 3, 4, 5, 6, 7, 8, 9, 10, 11, 12, 13, 14, 15, 16], [0, 1, 2, 3, 4, 5, 6, 7, 8, 9, 10, 11, 12, 13, 14, 15, 16, 17]]⟩
def pl371_5 : RPlan := .chain ⟨[], [[0, 1, 2, 3, 4, 5, 6, 7, 8, 9, 10, 11, 12, 13, 14, 15]], [[0, 1, 2, 3, 4, 5, 6, 7, 8, 9, 10, 11, 12, 13, 14, 15]], [[], [0], [0, 1], [0, 1, 2], [], [4], [4, 5], [4, 5, 6], [], [4, 5, 6, 7, 8], [], [10], [10, 11], [10, 11, 12], [0, 1, 2, 3, 4, 5, 6, 7, 8, 9, 10, 11, 12, 13], [0, 1, 2, 3, 4, 5, 6, 7, 8, 9, 10, 11, 12, 13, 14]]⟩
def pl374_3 : RPlan := .chain ⟨[5, 6], [[0, 1, 2, 3, 4], [], []], [[0, 1, 2, 3, 4], [0, 1, 2], []], [[], [0], [0, 1], [], [], [3, 4], [0, 1, 2, 3, 4, 5]]⟩
def pl381_4 : RPlan := .chain ⟨[], [[0, 1, 2, 3, 4, 5]], [[0, 1, 2, 3, 4, 5]], [[], [], [], [1, 2], [1, 2, 3], [0, 1, 2, 3, 4]]⟩
def pl387_3 : RPlan := .chain ⟨[13, 15], [[0, 1, 2, 3, 4, 5, 6, 7, 8, 9, 10, 11, 12], [14], []], [[0, 1, 2, 3, 4, 5, 6, 7, 8, 9, 10, 11, 12], [2, 3, 14], []], [[], [], [], [], [], [], [4, 5], [4, 5, 6], [], [], [8, 9], [8, 9, 10], [0, 1, 4, 5, 6, 7, 8, 9, 10, 11], [0, 1, 4, 5, 6, 7, 8, 9, 10, 11, 12], [0, 1, 2, 3, 4, 5, 6, 7, 8, 9, 10, 11, 12, 13], [0, 1, 2, 3, 4, 5, 6, 7, 8, 9, 10, 11, 12, 13, 14]]⟩
def pl399_7 : RPlan := .chain ⟨[6], [[0, 1, 2, 3, 4, 5], [7]], [[0, 1, 2, 3, 4, 5], [7]], [[], [], [], [1, 2], [1, 2, 3], [], [0, 1, 2, 3, 4, 5], [0, 1, 2, 3, 4, 5, 6]]⟩
def pl401_1 : RPlan := .chain ⟨[12], [[0, 1, 2, 3, 4, 5, 6, 7, 8, 9, 10, 11], [13]], [[0, 1, 2, 3, 4, 5, 6, 7, 8, 9, 10, 11], [13]], [[], [0], [0, 1], [0, 1, 2], [], [0, 1, 2, 3, 4], [], [6], [6, 7], [6, 7, 8], [], [6, 7, 8, 9, 10], [0, 1, 2, 3, 4, 5, 6, 7, 8, 9, 10, 11], [0, 1, 2, 3, 4, 5, 6, 7, 8, 9, 10, 11, 12]]⟩
def pl416_7 : RPlan := .chain ⟨[6], [[0, 1, 2, 3, 4, 5], [7]], [[0, 1, 2, 3, 4, 5], [7]], [[], [], [], [1, 2], [1, 2, 3], [], [0, 1, 2, 3, 4, 5], [0, 1, 2, 3, 4, 5, 6]]⟩
def pl417_1 : RPlan := .chain ⟨[14], [[0, 1, 2, 3, 4, 5, 6, 7, 8, 9, 10, 11, 12, 13], [15]], [[0, 1, 2, 3, 4, 5, 6, 7, 8, 9, 10, 11, 12, 13], [15]], [[], [0], [0, 1], [0, 1, 2], [], [0, 1, 2, 3, 4], [0, 1, 2, 3, 4, 5], [], [7], [7, 8], [7, 8, 9], [], [7, 8, 9, 10, 11], [7, 8, 9, 10, 11, 12], [0, 1, 2, 3, 4, 5, 6, 7, 8, 9, 10, 11, 12, 13], [0, 1, 2, 3, 4, 5, 6, 7, 8, 9, 10, 11, 12, 13, 14]]⟩
def pl427_1 : RPlan := .chain ⟨[4, 9, 14, 21, 28, 29, 30], [[0, 1, 2, 3, 5, 6, 7, 8, 10, 11, 12, 13, 15, 16, 17, 18, 19, 20, 22, 23, 24, 25, 26, 27], [], [], [], [], [], [], [31]], [[0, 1, 2, 3, 5, 6, 7, 8, 10, 11, 12, 13, 15, 16, 17, 18, 19, 20, 22, 23, 24, 25, 26, 27], [5, 6, 7, 8, 10, 11, 12, 13, 15, 16, 17, 18, 19, 20, 22, 23, 24, 25, 26, 27], [10, 11, 12, 13, 15, 16, 17, 18, 19, 20, 22, 23, 24, 25, 26, 27], [15, 16, 17, 18, 19, 20, 22, 23, 24, 25, 26, 27], [22, 23, 24, 25, 26, 27], [], [], [31]], [[], [0], [], [2], [0, 1, 2, 3], [], [5], [], [7], [0, 1, 2, 3, 4, 5, 6, 7, 8], [], [10], [], [12], [0, 1, 2, 3, 4, 5, 6, 7, 8, 9, 10, 11, 12, 13], [], [15], [15, 16], [], [18], [18, 19], [0, 1, 2, 3, 4, 5, 6, 7, 8, 9, 10, 11, 12, 13, 14, 15, 16, 17, 18, 19, 20], [], [22], [22, 23], [], [25], [25, 26], [0, 1, 2, 3, 4, 5, 6, 7, 8, 9, 10, 11, 12, 13, 14, 15, 16, 17, 18, 19, 20, 21, 22, 23, 24, 25, 26, 27], [0, 1, 2, 3, 4, 5, 6, 7, 8, 9, 10, 11, 12, 13, 14, 15, 16, 17, 18, 19, 20, 21, 22, 23, 24, 25, 26, 27, 28], [0, 1, 2, 3, 4, 5, 6, 7, 8, 9, 10, 11, 12, 13, 14, 15, 16, 17, 18, 19, 20, 21, 22, 23, 24, 25, 26, 27, 28, 29], [0, 1, 2, 3, 4, 5, 6, 7, 8, 9, 10, 11, 12, 13, 14, 15, 16, 17, 18, 19, 20, 21, 22, 23, 24, 25, 26, 27, 28, 29, 30]]⟩
def pl431_1 : RPlan := .chain ⟨[4, 9, 10, 11], [[0, 1, 2, 3, 5, 6, 7, 8], [], [], [], [12]], [[0, 1, 2, 3, 5, 6, 7, 8], [5, 6, 7, 8], [], [], [12]], [[], [0], [], [2], [0, 1, 2, 3], [], [5], [], [7], [0, 1, 2, 3, 4, 5, 6, 7, 8], [0, 1, 2, 3, 4, 5, 6, 7, 8, 9], [0, 1, 2, 3, 4, 5, 6, 7, 8, 9, 10], [0, 1, 2, 3, 4, 5, 6, 7, 8, 9, 10, 11]]⟩
def pl436_1 : RPlan := .chain ⟨[4, 9, 14, 15, 16], [[0, 1, 2, 3, 5, 6, 7, 8, 10, 11, 12, 13], [], [], [], [], [17]], [[0, 1, 2, 3, 5, 6, 7, 8, 10, 11, 12, 13], [5, 6, 7, 8, 10, 11, 12, 13], [10, 11, 12, 13], [], [], [17]], [[], [0], [], [2], [0, 1, 2, 3], [], [5], [], [7], [0, 1, 2, 3, 4, 5, 6, 7, 8], [], [10], [], [12], [0, 1, 2, 3, 4, 5, 6, 7, 8, 9, 10, 11, 12, 13], [0, 1, 2, 3, 4, 5, 6, 7, 8, 9, 10, 11, 12, 13, 14], [0, 1, 2, 3, 4, 5, 6, 7, 8, 9, 10, 11, 12, 13, 14, 15], [0, 1, 2, 3, 4, 5, 6, 7, 8, 9, 10, 11, 12, 13, 14, 15, 16]]⟩
def pl442_17 : RPlan := .chain ⟨[13], [[0, 1, 2, 3, 4, 5, 6, 7, 8, 9, 10, 11, 12], [14, 15, 16]], [[0, 1, 2, 3, 4, 5, 6, 7, 8, 9, 10, 11, 12], [14, 15, 16]], [[], [0], [0, 1], [0, 1, 2], [0, 1, 2], [0, 1, 2], [0, 1, 2, 5], [0, 1, 2, 4, 5, 6], [0, 1, 2, 4, 5, 6, 7], [0, 1, 2], [0, 1, 2], [0, 1, 2, 9, 10], [0, 1, 2, 9, 10, 11], [0, 1, 2, 3, 4, 5, 6, 7, 8, 9, 10, 11, 12], [0, 1, 2, 3, 4, 5, 6, 7, 8, 9, 10, 11, 12, 13], [0, 1, 2, 3, 4, 5, 6, 7, 8, 9, 10, 11, 12, 13, 14], [0, 1, 2, 3, 4, 5, 6, 7, 8, 9, 10, 11, 12, 13, 14, 15]]⟩
def pl446_17 : RPlan := .chain ⟨[13], [[0, 1, 2, 3, 4, 5, 6, 7, 8, 9, 10, 11, 12], [14, 15, 16]], [[0, 1, 2, 3, 4, 5, 6, 7, 8, 9, 10, 11, 12], [14, 15, 16]], [[], [0], [0, 1], [0, 1, 2], [0, 1, 2], [0, 1, 2], [0, 1, 2, 5], [0, 1, 2, 4, 5, 6], [0, 1, 2, 4, 5, 6, 7], [0, 1, 2], [0, 1, 2], [0, 1, 2, 9, 10], [0, 1, 2, 9, 10, 11], [0, 1, 2, 3, 4, 5, 6, 7, 8, 9, 10, 11, 12], [0, 1, 2, 3, 4, 5, 6, 7, 8, 9, 10, 11, 12, 13], [0, 1, 2, 3, 4, 5, 6, 7, 8, 9, 10, 11, 12, 13, 14], [0, 1, 2, 3, 4, 5, 6, 7, 8, 9, 10, 11, 12, 13, 14, 15]]⟩
def pl447_4 : RPlan := .chain ⟨[14], [[0, 1, 2, 3, 4, 5, 6, 7, 8, 9, 10, 11, 12, 13], [15, 16]], [[0, 1, 2, 3, 4, 5, 6, 7, 8, 9, 10, 11, 12, 13], [15, 16]], [[], [], [0, 1], [0, 1, 2], [0, 1, 2, 3], [0, 1, 2, 3], [0, 1, 2, 3], [0, 1, 2, 3, 5, 6], [0, 1, 2, 3, 5, 6, 7], [0, 1, 2, 3], [0, 1, 2, 3], [0, 1, 2, 3, 10], [0, 1, 2, 3, 9, 10, 11], [0, 1, 2, 3, 9, 10, 11, 12], [0, 1, 2, 3, 4, 5, 6, 7, 8, 9, 10, 11, 12, 13], [0, 1, 2, 3, 4, 5, 6, 7, 8, 9, 10, 11, 12, 13, 14], [0, 1, 2, 3, 4, 5, 6, 7, 8, 9, 10, 11, 12, 13, 14, 15]]⟩
def pl447_6 : RPlan := .chain ⟨[15, 17], [[0, 1, 2, 3, 4, 5, 6, 7, 8, 9, 10, 11, 12, 13, 14], [16], []], [[0, 1, 2, 3, 4, 5, 6, 7, 8, 9, 10, 11, 12, 13, 14], [2, 3, 4, 16], []], [[], [], [], [], [3], [], [], [6], [5, 6, 7], [5, 6, 7, 8], [], [], [10, 11], [10, 11, 12], [0, 1, 5, 6, 7, 8, 9, 10, 11, 12, 13], [0, 1, 5, 6, 7, 8, 9, 10, 11, 12, 13, 14], [0, 1, 2, 3, 4, 5, 6, 7, 8, 9, 10, 11, 12, 13, 14, 15], [0, 1, 2, 3, 4, 5, 6, 7, 8, 9, 10, 11, 12, 13, 14, 15, 16]]⟩
def pl448_10 : RPlan := .chain ⟨[17, 19], [[0, 1, 2, 3, 4, 5, 6, 7, 8, 9, 10, 11, 12, 13, 14, 15, 16], [18], []], [[0, 1, 2, 3, 4, 5, 6, 7, 8, 9, 10, 11, 12, 13, 14, 15, 16], [2, 3, 4, 5, 18], []], [[], [], [], [], [], [3, 4], [], [], [], [7, 8], [6, 7, 8, 9], [6, 7, 8, 9, 10], [], [], [12, 13], [12, 13, 14], [0, 1, 6, 7, 8, 9, 10, 11, 12, 13, 14, 15], [0, 1, 6, 7, 8, 9, 10, 11, 12, 13, 14, 15, 16], [0, 1, 2, 3, 4, 5, 6, 7, 8, 9, 10, 11, 12, 13, 14, 15, 16, 17], [0, 1, 2, 3, 4, 5, 6, 7, 8, 9, 10, 11, 12, 13, 14, 15, 16, 17, 18]]⟩
def pl449_10 : RPlan := .chain ⟨[17, 19], [[0, 1, 2, 3, 4, 5, 6, 7, 8, 9, 10, 11, 12, 13, 14, 15, 16], [18], []], [[0, 1, 2, 3, 4, 5, 6, 7, 8, 9, 10, 11, 12, 13, 14, 15, 16], [2, 3, 4, 5, 18], []], [[], [], [], [], [], [3, 4], [], [], [], [7, 8], [6, 7, 8, 9], [6, 7, 8, 9, 10], [], [], [12, 13], [12, 13, 14], [0, 1, 6, 7, 8, 9, 10, 11, 12, 13, 14, 15], [0, 1, 6, 7, 8, 9, 10, 11, 12, 13, 14, 15, 16], [0, 1, 2, 3, 4, 5, 6, 7, 8, 9, 10, 11, 12, 13, 14, 15, 16, 17], [0, 1, 2, 3, 4, 5, 6, 7, 8, 9, 10, 11, 12, 13, 14, 15, 16, 17, 18]]⟩
def pl451_3 : RPlan := .chain ⟨[13, 15], [[0, 1, 2, 3, 4, 5, 6, 7, 8, 9, 10, 11, 12], [14], []], [[0, 1, 2, 3, 4, 5, 6, 7, 8, 9, 10, 11, 12], [2, 3, 14], []], [[], [], [], [], [], [], [4, 5], [4, 5, 6], [], [], [8, 9], [8, 9, 10], [0, 1, 4, 5, 6, 7, 8, 9, 10, 11], [0, 1, 4, 5, 6, 7, 8, 9, 10, 11, 12], [0, 1, 2, 3, 4, 5, 6, 7, 8, 9, 10, 11, 12, 13], [0, 1, 2, 3, 4, 5, 6, 7, 8, 9, 10, 11, 12, 13, 14]]⟩
def pl452_5 : RPlan := .chain ⟨[14], [[0, 1, 2, 3, 4, 5, 6, 7, 8, 9, 10, 11, 12, 13], [15, 16, 17]], [[0, 1, 2, 3, 4, 5, 6, 7, 8, 9, 10, 11, 12, 13], [15, 16, 17]], [[], [], [0, 1], [0, 1, 2], [0, 1, 2, 3], [0, 1, 2, 3], [0, 1, 2, 3], [0, 1, 2, 3, 5, 6], [0, 1, 2, 3, 5, 6, 7], [0, 1, 2, 3], [0, 1, 2, 3], [0, 1, 2, 3, 10], [0, 1, 2, 3, 9, 10, 11], [0, 1, 2, 3, 9, 10, 11, 12], [0, 1, 2, 3, 4, 5, 6, 7, 8, 9, 10, 11, 12, 13], [0, 1, 2, 3, 4, 5, 6, 7, 8, 9, 10, 11, 12, 13, 14], [0, 1, 2, 3, 4, 5, 6, 7, 8, 9, 10, 11, 12, 13, 14, 15], [0, 1, 2, 3, 4, 5, 6, 7, 8, 9, 10, 11, 12, 13, 14, 15, 16]]⟩
def pl452_11 : RPlan := .chain ⟨[15, 17], [[0, 1, 2, 3, 4, 5, 6, 7, 8, 9, 10, 11, 12, 13, 14], [16], []], [[0, 1, 2, 3, 4, 5, 6, 7, 8, 9, 10, 11, 12, 13, 14], [2, 3, 4, 16], []], [[], [], [], [], [3], [], [], [6], [5, 6, 7], [5, 6, 7, 8], [], [], [10, 11], [10, 11, 12], [0, 1, 5, 6, 7, 8, 9, 10, 11, 12, 13], [0, 1, 5, 6, 7, 8, 9, 10, 11, 12, 13, 14], [0, 1, 2, 3, 4, 5, 6, 7, 8, 9, 10, 11, 12, 13, 14, 15], [0, 1, 2, 3, 4, 5, 6, 7, 8, 9, 10, 11, 12, 13, 14, 15, 16]]⟩
def pl452_16 : RPlan := .chain ⟨[10], [[0, 1, 2, 3, 4, 5, 6, 7, 8, 9], [11, 12]], [[0, 1, 2, 3, 4, 5, 6, 7, 8, 9], [11, 12]], [[], [], [], [1, 2], [1, 2, 3], [], [], [6], [5, 6, 7], [5, 6, 7, 8], [0, 1, 2, 3, 4, 5, 6, 7, 8, 9], [0, 1, 2, 3, 4, 5, 6, 7, 8, 9, 10], [0, 1, 2, 3, 4, 5, 6, 7, 8, 9, 10, 11]]⟩
def pl452_17 : RPlan := .chain ⟨[15, 17], [[0, 1, 2, 3, 4, 5, 6, 7, 8, 9, 10, 11, 12, 13, 14], [16], []], [[0, 1, 2, 3, 4, 5, 6, 7, 8, 9, 10, 11, 12, 13, 14], [2, 3, 4, 16], []], [[], [], [], [], [3], [], [], [6], [5, 6, 7], [5, 6, 7, 8], [], [], [10, 11], [10, 11, 12], [0, 1, 5, 6, 7, 8, 9, 10, 11, 12, 13], [0, 1, 5, 6, 7, 8, 9, 10, 11, 12, 13, 14], [0, 1, 2, 3, 4, 5, 6, 7, 8, 9, 10, 11, 12, 13, 14, 15], [0, 1, 2, 3, 4, 5, 6, 7, 8, 9, 10, 11, 12, 13, 14, 15, 16]]⟩
def pl452_22 : RPlan := .chain ⟨[10], [[0, 1, 2, 3, 4, 5, 6, 7, 8, 9], [11, 12]], [[0, 1, 2, 3, 4, 5, 6, 7, 8, 9], [11, 12]], [[], [], [], [1, 2], [1, 2, 3], [], [], [6], [5, 6, 7], [5, 6, 7, 8], [0, 1, 2, 3, 4, 5, 6, 7, 8, 9], [0, 1, 2, 3, 4, 5, 6, 7, 8, 9, 10], [0, 1, 2, 3, 4, 5, 6, 7, 8, 9, 10, 11]]⟩
def pl452_23 : RPlan := .chain ⟨[15, 17], [[0, 1, 2, 3, 4, 5, 6, 7, 8, 9, 10, 11, 12, 13, 14], [16], []], [[0, 1, 2, 3, 4, 5, 6, 7, 8, 9, 10, 11, 12, 13, 14], [2, 3, 4, 16], []], [[], [], [], [], [3], [], [], [6], [5, 6, 7], [5, 6, 7, 8], [], [], [10, 11], [10, 11, 12], [0, 1, 5, 6, 7, 8, 9, 10, 11, 12, 13], [0, 1, 5, 6, 7, 8, 9, 10, 11, 12, 13, 14], [0, 1, 2, 3, 4, 5, 6, 7, 8, 9, 10, 11, 12, 13, 14, 15], [0, 1, 2, 3, 4, 5, 6, 7, 8, 9, 10, 11, 12, 13, 14, 15, 16]]⟩
def pl453_1 : RPlan := .chain ⟨[13, 15], [[0, 1, 2, 3, 4, 5, 6, 7, 8, 9, 10, 11, 12], [14], []], [[0, 1, 2, 3, 4, 5, 6, 7, 8, 9, 10, 11, 12], [2, 3, 14], []], [[], [], [], [], [], [], [4, 5], [4, 5, 6], [], [], [8, 9], [8, 9, 10], [0, 1, 4, 5, 6, 7, 8, 9, 10, 11], [0, 1, 4, 5, 6, 7, 8, 9, 10, 11, 12], [0, 1, 2, 3, 4, 5, 6, 7, 8, 9, 10, 11, 12, 13], [0, 1, 2, 3, 4, 5, 6, 7, 8, 9, 10, 11, 12, 13, 14]]⟩
def pl453_3 : RPlan := .chain ⟨[13], [[0, 1, 2, 3, 4, 5, 6, 7, 8, 9, 10, 11, 12], [14, 15, 16]], [[0, 1, 2, 3, 4, 5, 6, 7, 8, 9, 10, 11, 12], [14, 15, 16]], [[], [], [0, 1], [0, 1, 2], [0, 1, 2, 3], [0, 1, 2, 3], [0, 1, 2, 3], [0, 1, 2, 3, 5, 6], [0, 1, 2, 3, 5, 6, 7], [0, 1, 2, 3], [0, 1, 2, 3], [0, 1, 2, 3, 9, 10], [0, 1, 2, 3, 9, 10, 11], [0, 1, 2, 3, 4, 5, 6, 7, 8, 9, 10, 11, 12], [0, 1, 2, 3, 4, 5, 6, 7, 8, 9, 10, 11, 12, 13], [0, 1, 2, 3, 4, 5, 6, 7, 8, 9, 10, 11, 12, 13, 14], [0, 1, 2, 3, 4, 5, 6, 7, 8, 9, 10, 11, 12, 13, 14, 15]]⟩
def pl453_5 : RPlan := .chain ⟨[13], [[0, 1, 2, 3, 4, 5, 6, 7, 8, 9, 10, 11, 12], [14, 15]], [[0, 1, 2, 3, 4, 5, 6, 7, 8, 9, 10, 11, 12], [14, 15]], [[], [], [0, 1], [0, 1, 2], [0, 1, 2, 3], [0, 1, 2, 3], [0, 1, 2, 3], [0, 1, 2, 3, 5, 6], [0, 1, 2, 3, 5, 6, 7], [0, 1, 2, 3], [0, 1, 2, 3], [0, 1, 2, 3, 9, 10], [0, 1, 2, 3, 9, 10, 11], [0, 1, 2, 3, 4, 5, 6, 7, 8, 9, 10, 11, 12], [0, 1, 2, 3, 4, 5, 6, 7, 8, 9, 10, 11, 12, 13], [0, 1, 2, 3, 4, 5, 6, 7, 8, 9, 10, 11, 12, 13, 14]]⟩
def pl453_8 : RPlan := .chain ⟨[13, 15], [[0, 1, 2, 3, 4, 5, 6, 7, 8, 9, 10, 11, 12], [14], []], [[0, 1, 2, 3, 4, 5, 6, 7, 8, 9, 10, 11, 12], [2, 3, 14], []], [[], [], [], [], [], [], [4, 5], [4, 5, 6], [], [], [8, 9], [8, 9, 10], [0, 1, 4, 5, 6, 7, 8, 9, 10, 11], [0, 1, 4, 5, 6, 7, 8, 9, 10, 11, 12], [0, 1, 2, 3, 4, 5, 6, 7, 8, 9, 10, 11, 12, 13], [0, 1, 2, 3, 4, 5, 6, 7, 8, 9, 10, 11, 12, 13, 14]]⟩
def pl454_1 : RPlan := .chain ⟨[13, 15], [[0, 1, 2, 3, 4, 5, 6, 7, 8, 9, 10, 11, 12], [14], []], [[0, 1, 2, 3, 4, 5, 6, 7, 8, 9, 10, 11, 12], [2, 3, 14], []], [[], [], [], [], [], [], [4, 5], [4, 5, 6], [], [], [8, 9], [8, 9, 10], [0, 1, 4, 5, 6, 7, 8, 9, 10, 11], [0, 1, 4, 5, 6, 7, 8, 9, 10, 11, 12], [0, 1, 2, 3, 4, 5, 6, 7, 8, 9, 10, 11, 12, 13], [0, 1, 2, 3, 4, 5, 6, 7, 8, 9, 10, 11, 12, 13, 14]]⟩
def pl454_3 : RPlan := .chain ⟨[13], [[0, 1, 2, 3, 4, 5, 6, 7, 8, 9, 10, 11, 12], [14, 15]], [[0, 1, 2, 3, 4, 5, 6, 7, 8, 9, 10, 11, 12], [14, 15]], [[], [], [0, 1], [0, 1, 2], [0, 1, 2, 3], [0, 1, 2, 3], [0, 1, 2, 3], [0, 1, 2, 3, 5, 6], [0, 1, 2, 3, 5, 6, 7], [0, 1, 2, 3], [0, 1, 2, 3], [0, 1, 2, 3, 9, 10], [0, 1, 2, 3, 9, 10, 11], [0, 1, 2, 3, 4, 5, 6, 7, 8, 9, 10, 11, 12], [0, 1, 2, 3, 4, 5, 6, 7, 8, 9, 10, 11, 12, 13], [0, 1, 2, 3, 4, 5, 6, 7, 8, 9, 10, 11, 12, 13, 14]]⟩
def pl454_5 : RPlan := .chain ⟨[13], [[0, 1, 2, 3, 4, 5, 6, 7, 8, 9, 10, 11, 12], [14, 15, 16]], [[0, 1, 2, 3, 4, 5, 6, 7, 8, 9, 10, 11, 12], [14, 15, 16]], [[], [], [0, 1], [0, 1, 2], [0, 1, 2, 3], [0, 1, 2, 3], [0, 1, 2, 3], [0, 1, 2, 3, 5, 6], [0, 1, 2, 3, 5, 6, 7], [0, 1, 2, 3], [0, 1, 2, 3], [0, 1, 2, 3, 9, 10], [0, 1, 2, 3, 9, 10, 11], [0, 1, 2, 3, 4, 5, 6, 7, 8, 9, 10, 11, 12], [0, 1, 2, 3, 4, 5, 6, 7, 8, 9, 10, 11, 12, 13], [0, 1, 2, 3, 4, 5, 6, 7, 8, 9, 10, 11, 12, 13, 14], [0, 1, 2, 3, 4, 5, 6, 7, 8, 9, 10, 11, 12, 13, 14, 15]]⟩
def pl454_8 : RPlan := .chain ⟨[13, 15], [[0, 1, 2, 3, 4, 5, 6, 7, 8, 9, 10, 11, 12], [14], []], [[0, 1, 2, 3, 4, 5, 6, 7, 8, 9, 10, 11, 12], [2, 3, 14], []], [[], [], [], [], [], [], [4, 5], [4, 5, 6], [], [], [8, 9], [8, 9, 10], [0, 1, 4, 5, 6, 7, 8, 9, 10, 11], [0, 1, 4, 5, 6, 7, 8, 9, 10, 11, 12], [0, 1, 2, 3, 4, 5, 6, 7, 8, 9, 10, 11, 12, 13], [0, 1, 2, 3, 4, 5, 6, 7, 8, 9, 10, 11, 12, 13, 14]]⟩
def pl454_10 : RPlan := .chain ⟨[13, 15], [[0, 1, 2, 3, 4, 5, 6, 7, 8, 9, 10, 11, 12], [14], []], [[0, 1, 2, 3, 4, 5, 6, 7, 8, 9, 10, 11, 12], [2, 3, 14], []], [[], [], [], [], [], [], [4, 5], [4, 5, 6], [], [], [8, 9], [8, 9, 10], [0, 1, 4, 5, 6, 7, 8, 9, 10, 11], [0, 1, 4, 5, 6, 7, 8, 9, 10, 11, 12], [0, 1, 2, 3, 4, 5, 6, 7, 8, 9, 10, 11, 12, 13], [0, 1, 2, 3, 4, 5, 6, 7, 8, 9, 10, 11, 12, 13, 14]]⟩
def pl454_13 : RPlan := .chain ⟨[13], [[0, 1, 2, 3, 4, 5, 6, 7, 8, 9, 10, 11, 12], [14, 15]], [[0, 1, 2, 3, 4, 5, 6, 7, 8, 9, 10, 11, 12], [14, 15]], [[], [], [0, 1], [0, 1, 2], [0, 1, 2, 3], [0, 1, 2, 3], [0, 1, 2, 3], [0, 1, 2, 3, 5, 6], [0, 1, 2, 3, 5, 6, 7], [0, 1, 2, 3], [0, 1, 2, 3], [0, 1, 2, 3, 9, 10], [0, 1, 2, 3, 9, 10, 11], [0, 1, 2, 3, 4, 5, 6, 7, 8, 9, 10, 11, 12], [0, 1, 2, 3, 4, 5, 6, 7, 8, 9, 10, 11, 12, 13], [0, 1, 2, 3, 4, 5, 6, 7, 8, 9, 10, 11, 12, 13, 14]]⟩
def pl454_15 : RPlan := .chain ⟨[13], [[0, 1, 2, 3, 4, 5, 6, 7, 8, 9, 10, 11, 12], [14, 15, 16]], [[0, 1, 2, 3, 4, 5, 6, 7, 8, 9, 10, 11, 12], [14, 15, 16]], [[], [], [0, 1], [0, 1, 2], [0, 1, 2, 3], [0, 1, 2, 3], [0, 1, 2, 3], [0, 1, 2, 3, 5, 6], [0, 1, 2, 3, 5, 6, 7], [0, 1, 2, 3], [0, 1, 2, 3], [0, 1, 2, 3, 9, 10], [0, 1, 2, 3, 9, 10, 11], [0, 1, 2, 3, 4, 5, 6, 7, 8, 9, 10, 11, 12], [0, 1, 2, 3, 4, 5, 6, 7, 8, 9, 10, 11, 12, 13], [0, 1, 2, 3, 4, 5, 6, 7, 8, 9, 10, 11, 12, 13, 14], [0, 1, 2, 3, 4, 5, 6, 7, 8, 9, 10, 11, 12, 13, 14, 15]]⟩
def pl454_18 : RPlan := .chain ⟨[13, 15], [[0, 1, 2, 3, 4, 5, 6, 7, 8, 9, 10, 11, 12], [14], []], [[0, 1, 2, 3, 4, 5, 6, 7, 8, 9, 10, 11, 12], [2, 3, 14], []], [[], [], [], [], [], [], [4, 5], [4, 5, 6], [], [], [8, 9], [8, 9, 10], [0, 1, 4, 5, 6, 7, 8, 9, 10, 11], [0, 1, 4, 5, 6, 7, 8, 9, 10, 11, 12], [0, 1, 2, 3, 4, 5, 6, 7, 8, 9, 10, 11, 12, 13], [0, 1, 2, 3, 4, 5, 6, 7, 8, 9, 10, 11, 12, 13, 14]]⟩
def pl454_21 : RPlan := .chain ⟨[13, 15], [[0, 1, 2, 3, 4, 5, 6, 7, 8, 9, 10, 11, 12], [14], []], [[0, 1, 2, 3, 4, 5, 6, 7, 8, 9, 10, 11, 12], [2, 3, 14], []], [[], [], [], [], [], [], [4, 5], [4, 5, 6], [], [], [8, 9], [8, 9, 10], [0, 1, 4, 5, 6, 7, 8, 9, 10, 11], [0, 1, 4, 5, 6, 7, 8, 9, 10, 11, 12], [0, 1, 2, 3, 4, 5, 6, 7, 8, 9, 10, 11, 12, 13], [0, 1, 2, 3, 4, 5, 6, 7, 8, 9, 10, 11, 12, 13, 14]]⟩
def pl456_4 : RPlan := .chain ⟨[14], [[0, 1, 2, 3, 4, 5, 6, 7, 8, 9, 10, 11, 12, 13], [15, 16]], [[0, 1, 2, 3, 4, 5, 6, 7, 8, 9, 10, 11, 12, 13], [15, 16]], [[], [], [0, 1], [0, 1, 2], [0, 1, 2, 3], [0, 1, 2, 3], [0, 1, 2, 3], [0, 1, 2, 3, 5, 6], [0, 1, 2, 3, 5, 6, 7], [0, 1, 2, 3], [0, 1, 2, 3], [0, 1, 2, 3, 10], [0, 1, 2, 3, 9, 10, 11], [0, 1, 2, 3, 9, 10, 11, 12], [0, 1, 2, 3, 4, 5, 6, 7, 8, 9, 10, 11, 12, 13], [0, 1, 2, 3, 4, 5, 6, 7, 8, 9, 10, 11, 12, 13, 14], [0, 1, 2, 3, 4, 5, 6, 7, 8, 9, 10, 11, 12, 13, 14, 15]]⟩
def pl456_6 : RPlan := .chain ⟨[15, 17], [[0, 1, 2, 3, 4, 5, 6, 7, 8, 9, 10, 11, 12, 13, 14], [16], []], [[0, 1, 2, 3, 4, 5, 6, 7, 8, 9, 10, 11, 12, 13, 14], [2, 3, 4, 16], []], [[], [], [], [], [3], [], [], [6], [5, 6, 7], [5, 6, 7, 8], [], [], [10, 11], [10, 11, 12], [0, 1, 5, 6, 7, 8, 9, 10, 11, 12, 13], [0, 1, 5, 6, 7, 8, 9, 10, 11, 12, 13, 14], [0, 1, 2, 3, 4, 5, 6, 7, 8, 9, 10, 11, 12, 13, 14, 15], [0, 1, 2, 3, 4, 5, 6, 7, 8, 9, 10, 11, 12, 13, 14, 15, 16]]⟩
def pl457_10 : RPlan := .chain ⟨[17, 19], [[0, 1, 2, 3, 4, 5, 6, 7, 8, 9, 10, 11, 12, 13, 14, 15, 16], [18], []], [[0, 1, 2, 3, 4, 5, 6, 7, 8, 9, 10, 11, 12, 13, 14, 15, 16], [2, 3, 4, 5, 18], []], [[], [], [], [], [], [3, 4], [], [], [], [7, 8], [6, 7, 8, 9], [6, 7, 8, 9, 10], [], [], [12, 13], [12, 13, 14], [0, 1, 6, 7, 8, 9, 10, 11, 12, 13, 14, 15], [0, 1, 6, 7, 8, 9, 10, 11, 12, 13, 14, 15, 16], [0, 1, 2, 3, 4, 5, 6, 7, 8, 9, 10, 11, 12, 13, 14, 15, 16, 17], [0, 1, 2, 3, 4, 5, 6, 7, 8, 9, 10, 11, 12, 13, 14, 15, 16, 17, 18]]⟩
def pl458_10 : RPlan := .chain ⟨[17, 19], [[0, 1, 2, 3, 4, 5, 6, 7, 8, 9, 10, 11, 12, 13, 14, 15, 16], [18], []], [[0, 1, 2, 3, 4, 5, 6, 7, 8, 9, 10, 11, 12, 13, 14, 15, 16], [2, 3, 4, 5, 18], []], [[], [], [], [], [], [3, 4], [], [], [], [7, 8], [6, 7, 8, 9], [6, 7, 8, 9, 10], [], [], [12, 13], [12, 13, 14], [0, 1, 6, 7, 8, 9, 10, 11, 12, 13, 14, 15], [0, 1, 6, 7, 8, 9, 10, 11, 12, 13, 14, 15, 16], [0, 1, 2, 3, 4, 5, 6, 7, 8, 9, 10, 11, 12, 13, 14, 15, 16, 17], [0, 1, 2, 3, 4, 5, 6, 7, 8, 9, 10, 11, 12, 13, 14, 15, 16, 17, 18]]⟩
def pl460_3 : RPlan := .chain ⟨[13, 15], [[0, 1, 2, 3, 4, 5, 6, 7, 8, 9, 10, 11, 12], [14], []], [[0, 1, 2, 3, 4, 5, 6, 7, 8, 9, 10, 11, 12], [2, 3, 14], []], [[], [], [], [], [], [], [4, 5], [4, 5, 6], [], [], [8, 9], [8, 9, 10], [0, 1, 4, 5, 6, 7, 8, 9, 10, 11], [0, 1, 4, 5, 6, 7, 8, 9, 10, 11, 12], [0, 1, 2, 3, 4, 5, 6, 7, 8, 9, 10, 11, 12, 13], [0, 1, 2, 3, 4, 5, 6, 7, 8, 9, 10, 11, 12, 13, 14]]⟩
def pl461_5 : RPlan := .chain ⟨[14], [[0, 1, 2, 3, 4, 5, 6, 7, 8, 9, 10, 11, 12, 13], [15, 16, 17]], [[0, 1, 2, 3, 4, 5, 6, 7, 8, 9, 10, 11, 12, 13], [15, 16, 17]], [[], [], [0, 1], [0, 1, 2], [0, 1, 2, 3], [0, 1, 2, 3], [0, 1, 2, 3], [0, 1, 2, 3, 5, 6], [0, 1, 2, 3, 5, 6, 7], [0, 1, 2, 3], [0, 1, 2, 3], [0, 1, 2, 3, 10], [0, 1, 2, 3, 9, 10, 11], [0, 1, 2, 3, 9, 10, 11, 12], [0, 1, 2, 3, 4, 5, 6, 7, 8, 9, 10, 11, 12, 13], [0, 1, 2, 3, 4, 5, 6, 7, 8, 9, 10, 11, 12, 13, 14], [0, 1, 2, 3, 4, 5, 6, 7, 8, 9, 10, 11, 12, 13, 14, 15], [0, 1, 2, 3, 4, 5, 6, 7, 8, 9, 10, 11, 12, 13, 14, 15, 16]]⟩
def pl461_11 : RPlan := .chain ⟨[15, 17], [[0, 1, 2, 3, 4, 5, 6, 7, 8, 9, 10, 11, 12, 13, 14], [16], []], [[0, 1, 2, 3, 4, 5, 6, 7, 8, 9, 10, 11, 12, 13, 14], [2, 3, 4, 16], []], [[], [], [], [], [3], [], [], [6], [5, 6, 7], [5, 6, 7, 8], [], [], [10, 11], [10, 11, 12], [0, 1, 5, 6, 7, 8, 9, 10, 11, 12, 13], [0, 1, 5, 6, 7, 8, 9, 10, 11, 12, 13, 14], [0, 1, 2, 3, 4, 5, 6, 7, 8, 9, 10, 11, 12, 13, 14, 15], [0, 1, 2, 3, 4, 5, 6, 7, 8, 9, 10, 11, 12, 13, 14, 15, 16]]⟩
def pl461_16 : RPlan := .chain ⟨[10], [[0, 1, 2, 3, 4, 5, 6, 7, 8, 9], [11, 12]], [[0, 1, 2, 3, 4, 5, 6, 7, 8, 9], [11, 12]], [[], [], [], [1, 2], [1, 2, 3], [], [], [6], [5, 6, 7], [5, 6, 7, 8], [0, 1, 2, 3, 4, 5, 6, 7, 8, 9], [0, 1, 2, 3, 4, 5, 6, 7, 8, 9, 10], [0, 1, 2, 3, 4, 5, 6, 7, 8, 9, 10, 11]]⟩
def pl461_17 : RPlan := .chain ⟨[15, 17], [[0, 1, 2, 3, 4, 5, 6, 7, 8, 9, 10, 11, 12, 13, 14], [16], []], [[0, 1, 2, 3, 4, 5, 6, 7, 8, 9, 10, 11, 12, 13, 14], [2, 3, 4, 16], []], [[], [], [], [], [3], [], [], [6], [5, 6, 7], [5, 6, 7, 8], [], [], [10, 11], [10, 11, 12], [0, 1, 5, 6, 7, 8, 9, 10, 11, 12, 13], [0, 1, 5, 6, 7, 8, 9, 10, 11, 12, 13, 14], [0, 1, 2, 3, 4, 5, 6, 7, 8, 9, 10, 11, 12, 13, 14, 15], [0, 1, 2, 3, 4, 5, 6, 7, 8, 9, 10, 11, 12, 13, 14, 15, 16]]⟩
def pl461_22 : RPlan := .chain ⟨[10], [[0, 1, 2, 3, 4, 5, 6, 7, 8, 9], [11, 12]], [[0, 1, 2, 3, 4, 5, 6, 7, 8, 9], [11, 12]], [[], [], [], [1, 2], [1, 2, 3], [], [], [6], [5, 6, 7], [5, 6, 7, 8], [0, 1, 2, 3, 4, 5, 6, 7, 8, 9], [0, 1, 2, 3, 4, 5, 6, 7, 8, 9, 10], [0, 1, 2, 3, 4, 5, 6, 7, 8, 9, 10, 11]]⟩
def pl461_23 : RPlan := .chain ⟨[15, 17], [[0, 1, 2, 3, 4, 5, 6, 7, 8, 9, 10, 11, 12, 13, 14], [16], []], [[0, 1, 2, 3, 4, 5, 6, 7, 8, 9, 10, 11, 12, 13, 14], [2, 3, 4, 16], []], [[], [], [], [], [3], [], [], [6], [5, 6, 7], [5, 6, 7, 8], [], [], [10, 11], [10, 11, 12], [0, 1, 5, 6, 7, 8, 9, 10, 11, 12, 13], [0, 1, 5, 6, 7, 8, 9, 10, 11, 12, 13, 14], [0, 1, 2, 3, 4, 5, 6, 7, 8, 9, 10, 11, 12, 13, 14, 15], [0, 1, 2, 3, 4, 5, 6, 7, 8, 9, 10, 11, 12, 13, 14, 15, 16]]⟩
def pl462_1 : RPlan := .chain ⟨[13, 15], [[0, 1, 2, 3, 4, 5, 6, 7, 8, 9, 10, 11, 12], [14], []], [[0, 1, 2, 3, 4, 5, 6, 7, 8, 9, 10, 11, 12], [2, 3, 14], []], [[], [], [], [], [], [], [4, 5], [4, 5, 6], [], [], [8, 9], [8, 9, 10], [0, 1, 4, 5, 6, 7, 8, 9, 10, 11], [0, 1, 4, 5, 6, 7, 8, 9, 10, 11, 12], [0, 1, 2, 3, 4, 5, 6, 7, 8, 9, 10, 11, 12, 13], [0, 1, 2, 3, 4, 5, 6, 7, 8, 9, 10, 11, 12, 13, 14]]⟩
def pl462_3 : RPlan := .chain ⟨[13], [[0, 1, 2, 3, 4, 5, 6, 7, 8, 9, 10, 11, 12], [14, 15, 16]], [[0, 1, 2, 3, 4, 5, 6, 7, 8, 9, 10, 11, 12], [14, 15, 16]], [[], [], [0, 1], [0, 1, 2], [0, 1, 2, 3], [0, 1, 2, 3], [0, 1, 2, 3], [0, 1, 2, 3, 5, 6], [0, 1, 2, 3, 5, 6, 7], [0, 1, 2, 3], [0, 1, 2, 3], [0, 1, 2, 3, 9, 10], [0, 1, 2, 3, 9, 10, 11], [0, 1, 2, 3, 4, 5, 6, 7, 8, 9, 10, 11, 12], [0, 1, 2, 3, 4, 5, 6, 7, 8, 9, 10, 11, 12, 13], [0, 1, 2, 3, 4, 5, 6, 7, 8, 9, 10, 11, 12, 13, 14], [0, 1, 2, 3, 4, 5, 6, 7, 8, 9, 10, 11, 12, 13, 14, 15]]⟩
def pl462_5 : RPlan := .chain ⟨[13], [[0, 1, 2, 3, 4, 5, 6, 7, 8, 9, 10, 11, 12], [14, 15]], [[0, 1, 2, 3, 4, 5, 6, 7, 8, 9, 10, 11, 12], [14, 15]], [[], [], [0, 1], [0, 1, 2], [0, 1, 2, 3], [0, 1, 2, 3], [0, 1, 2, 3], [0, 1, 2, 3, 5, 6], [0, 1, 2, 3, 5, 6, 7], [0, 1, 2, 3], [0, 1, 2, 3], [0, 1, 2, 3, 9, 10], [0, 1, 2, 3, 9, 10, 11], [0, 1, 2, 3, 4, 5, 6, 7, 8, 9, 10, 11, 12], [0, 1, 2, 3, 4, 5, 6, 7, 8, 9, 10, 11, 12, 13], [0, 1, 2, 3, 4, 5, 6, 7, 8, 9, 10, 11, 12, 13, 14]]⟩
def pl462_8 : RPlan := .chain ⟨[13, 15], [[0, 1, 2, 3, 4, 5, 6, 7, 8, 9, 10, 11, 12], [14], []], [[0, 1, 2, 3, 4, 5, 6, 7, 8, 9, 10, 11, 12], [2, 3, 14], []], [[], [], [], [], [], [], [4, 5], [4, 5, 6], [], [], [8, 9], [8, 9, 10], [0, 1, 4, 5, 6, 7, 8, 9, 10, 11], [0, 1, 4, 5, 6, 7, 8, 9, 10, 11, 12], [0, 1, 2, 3, 4, 5, 6, 7, 8, 9, 10, 11, 12, 13], [0, 1, 2, 3, 4, 5, 6, 7, 8, 9, 10, 11, 12, 13, 14]]⟩
def pl463_1 : RPlan := .chain ⟨[13, 15], [[0, 1, 2, 3, 4, 5, 6, 7, 8, 9, 10, 11, 12], [14], []], [[0, 1, 2, 3, 4, 5, 6, 7, 8, 9, 10, 11, 12], [2, 3, 14], []], [[], [], [], [], [], [], [4, 5], [4, 5, 6], [], [], [8, 9], [8, 9, 10], [0, 1, 4, 5, 6, 7, 8, 9, 10, 11], [0, 1, 4, 5, 6, 7, 8, 9, 10, 11, 12], [0, 1, 2, 3, 4, 5, 6, 7, 8, 9, 10, 11, 12, 13], [0, 1, 2, 3, 4, 5, 6, 7, 8, 9, 10, 11, 12, 13, 14]]⟩
def pl463_3 : RPlan := .chain ⟨[13], [[0, 1, 2, 3, 4, 5, 6, 7, 8, 9, 10, 11, 12], [14, 15]], [[0, 1, 2, 3, 4, 5, 6, 7, 8, 9, 10, 11, 12], [14, 15]], [[], [], [0, 1], [0, 1, 2], [0, 1, 2, 3], [0, 1, 2, 3], [0, 1, 2, 3], [0, 1, 2, 3, 5, 6], [0, 1, 2, 3, 5, 6, 7], [0, 1, 2, 3], [0, 1, 2, 3], [0, 1, 2, 3, 9, 10], [0, 1, 2, 3, 9, 10, 11], [0, 1, 2, 3, 4, 5, 6, 7, 8, 9, 10, 11, 12], [0, 1, 2, 3, 4, 5, 6, 7, 8, 9, 10, 11, 12, 13], [0, 1, 2, 3, 4, 5, 6, 7, 8, 9, 10, 11, 12, 13, 14]]⟩
def pl463_5 : RPlan := .chain ⟨[13], [[0, 1, 2, 3, 4, 5, 6, 7, 8, 9, 10, 11, 12], [14, 15, 16]], [[0, 1, 2, 3, 4, 5, 6, 7, 8, 9, 10, 11, 12], [14, 15, 16]], [[], [], [0, 1], [0, 1, 2], [0, 1, 2, 3], [0, 1, 2, 3], [0, 1, 2, 3], [0, 1, 2, 3, 5, 6], [0, 1, 2, 3, 5, 6, 7], [0, 1, 2, 3], [0, 1, 2, 3], [0, 1, 2, 3, 9, 10], [0, 1, 2, 3, 9, 10, 11], [0, 1, 2, 3, 4, 5, 6, 7, 8, 9, 10, 11, 12], [0, 1, 2, 3, 4, 5, 6, 7, 8, 9, 10, 11, 12, 13], [0, 1, 2, 3, 4, 5, 6, 7, 8, 9, 10, 11, 12, 13, 14], [0, 1, 2, 3, 4, 5, 6, 7, 8, 9, 10, 11, 12, 13, 14, 15]]⟩
def pl463_8 : RPlan := .chain ⟨[13, 15], [[0, 1, 2, 3, 4, 5, 6, 7, 8, 9, 10, 11, 12], [14], []], [[0, 1, 2, 3, 4, 5, 6, 7, 8, 9, 10, 11, 12], [2, 3, 14], []], [[], [], [], [], [], [], [4, 5], [4, 5, 6], [], [], [8, 9], [8, 9, 10], [0, 1, 4, 5, 6, 7, 8, 9, 10, 11], [0, 1, 4, 5, 6, 7, 8, 9, 10, 11, 12], [0, 1, 2, 3, 4, 5, 6, 7, 8, 9, 10, 11, 12, 13], [0, 1, 2, 3, 4, 5, 6, 7, 8, 9, 10, 11, 12, 13, 14]]⟩
def pl463_10 : RPlan := .chain ⟨[13, 15], [[0, 1, 2, 3, 4, 5, 6, 7, 8, 9, 10, 11, 12], [14], []], [[0, 1, 2, 3, 4, 5, 6, 7, 8, 9, 10, 11, 12], [2, 3, 14], []], [[], [], [], [], [], [], [4, 5], [4, 5, 6], [], [], [8, 9], [8, 9, 10], [0, 1, 4, 5, 6, 7, 8, 9, 10, 11], [0, 1, 4, 5, 6, 7, 8, 9, 10, 11, 12], [0, 1, 2, 3, 4, 5, 6, 7, 8, 9, 10, 11, 12, 13], [0, 1, 2, 3, 4, 5, 6, 7, 8, 9, 10, 11, 12, 13, 14]]⟩
def pl463_13 : RPlan := .chain ⟨[13], [[0, 1, 2, 3, 4, 5, 6, 7, 8, 9, 10, 11, 12], [14, 15]], [[0, 1, 2, 3, 4, 5, 6, 7, 8, 9, 10, 11, 12], [14, 15]], [[], [], [0, 1], [0, 1, 2], [0, 1, 2, 3], [0, 1, 2, 3], [0, 1, 2, 3], [0, 1, 2, 3, 5, 6], [0, 1, 2, 3, 5, 6, 7], [0, 1, 2, 3], [0, 1, 2, 3], [0, 1, 2, 3, 9, 10], [0, 1, 2, 3, 9, 10, 11], [0, 1, 2, 3, 4, 5, 6, 7, 8, 9, 10, 11, 12], [0, 1, 2, 3, 4, 5, 6, 7, 8, 9, 10, 11, 12, 13], [0, 1, 2, 3, 4, 5, 6, 7, 8, 9, 10, 11, 12, 13, 14]]⟩
def pl463_15 : RPlan := .chain ⟨[13], [[0, 1, 2, 3, 4, 5, 6, 7, 8, 9, 10, 11, 12], [14, 15, 16]], [[0, 1, 2, 3, 4, 5, 6, 7, 8, 9, 10, 11, 12], [14, 15, 16]], [[], [], [0, 1], [0, 1, 2], [0, 1, 2, 3], [0, 1, 2, 3], [0, 1, 2, 3], [0, 1, 2, 3, 5, 6], [0, 1, 2, 3, 5, 6, 7], [0, 1, 2, 3], [0, 1, 2, 3], [0, 1, 2, 3, 9, 10], [0, 1, 2, 3, 9, 10, 11], [0, 1, 2, 3, 4, 5, 6, 7, 8, 9, 10, 11, 12], [0, 1, 2, 3, 4, 5, 6, 7, 8, 9, 10, 11, 12, 13], [0, 1, 2, 3, 4, 5, 6, 7, 8, 9, 10, 11, 12, 13, 14], [0, 1, 2, 3, 4, 5, 6, 7, 8, 9, 10, 11, 12, 13, 14, 15]]⟩
def pl463_18 : RPlan := .chain ⟨[13, 15], [[0, 1, 2, 3, 4, 5, 6, 7, 8, 9, 10, 11, 12], [14], []], [[0, 1, 2, 3, 4, 5, 6, 7, 8, 9, 10, 11, 12], [2, 3, 14], []], [[], [], [], [], [], [], [4, 5], [4, 5, 6], [], [], [8, 9], [8, 9, 10], [0, 1, 4, 5, 6, 7, 8, 9, 10, 11], [0, 1, 4, 5, 6, 7, 8, 9, 10, 11, 12], [0, 1, 2, 3, 4, 5, 6, 7, 8, 9, 10, 11, 12, 13], [0, 1, 2, 3, 4, 5, 6, 7, 8, 9, 10, 11, 12, 13, 14]]⟩
def pl463_21 : RPlan := .chain ⟨[13, 15], [[0, 1, 2, 3, 4, 5, 6, 7, 8, 9, 10, 11, 12], [14], []], [[0, 1, 2, 3, 4, 5, 6, 7, 8, 9, 10, 11, 12], [2, 3, 14], []], [[], [], [], [], [], [], [4, 5], [4, 5, 6], [], [], [8, 9], [8, 9, 10], [0, 1, 4, 5, 6, 7, 8, 9, 10, 11], [0, 1, 4, 5, 6, 7, 8, 9, 10, 11, 12], [0, 1, 2, 3, 4, 5, 6, 7, 8, 9, 10, 11, 12, 13], [0, 1, 2, 3, 4, 5, 6, 7, 8, 9, 10, 11, 12, 13, 14]]⟩
def pl464_3 : RPlan := .chain ⟨[19], [[0, 1, 2, 3, 4, 5, 6, 7, 8, 9, 10, 11, 12, 13, 14, 15, 16, 17, 18], [20, 21]], [[0, 1, 2, 3, 4, 5, 6, 7, 8, 9, 10, 11, 12, 13, 14, 15, 16, 17, 18], [20, 21]], [[], [0], [], [0, 1, 2], [0, 1, 2, 3], [0, 1, 2, 3, 4], [0, 1, 2, 3, 4], [0, 1, 2, 3, 4], [0, 1, 2, 3, 4], [0, 1, 2, 3, 4, 7, 8], [0, 1, 2, 3, 4, 6, 7, 8, 9], [0, 1, 2, 3, 4, 6, 7, 8, 9, 10], [0, 1, 2, 3, 4], [0, 1, 2, 3, 4], [0, 1, 2, 3, 4], [0, 1, 2, 3, 4, 13, 14], [0, 1, 2, 3, 4, 13, 14, 15], [0, 1, 2, 3, 4, 12, 13, 14, 15, 16], [0, 1, 2, 3, 4, 12, 13, 14, 15, 16, 17], [0, 1, 2, 3, 4, 5, 6, 7, 8, 9, 10, 11, 12, 13, 14, 15, 16, 17, 18], [0, 1, 2, 3, 4, 5, 6, 7, 8, 9, 10, 11, 12, 13, 14, 15, 16, 17, 18, 19], [0, 1, 2, 3, 4, 5, 6, 7, 8, 9, 10, 11, 12, 13, 14, 15, 16, 17, 18, 19, 20]]⟩
def pl464_5 : RPlan := .chain ⟨[13], [[0, 1, 2, 3, 4, 5, 6, 7, 8, 9, 10, 11, 12], [14, 15]], [[0, 1, 2, 3, 4, 5, 6, 7, 8, 9, 10, 11, 12], [14, 15]], [[], [], [], [], [2, 3], [1, 2, 3, 4], [1, 2, 3, 4, 5], [], [], [], [8, 9], [7, 8, 9, 10], [7, 8, 9, 10, 11], [0, 1, 2, 3, 4, 5, 6, 7, 8, 9, 10, 11, 12], [0, 1, 2, 3, 4, 5, 6, 7, 8, 9, 10, 11, 12, 13], [0, 1, 2, 3, 4, 5, 6, 7, 8, 9, 10, 11, 12, 13, 14]]⟩
def pl464_6 : RPlan := .chain ⟨[21, 23], [[0, 1, 2, 3, 4, 5, 6, 7, 8, 9, 10, 11, 12, 13, 14, 15, 16, 17, 18, 19, 20], [22], []], [[0, 1, 2, 3, 4, 5, 6, 7, 8, 9, 10, 11, 12, 13, 14, 15, 16, 17, 18, 19, 20], [4, 5, 6, 7, 22], []], [[], [], [], [1, 2], [], [], [], [5, 6], [], [], [], [9, 10], [8, 9, 10, 11], [8, 9, 10, 11, 12], [], [], [], [15, 16], [14, 15, 16, 17], [14, 15, 16, 17, 18], [0, 1, 2, 3, 8, 9, 10, 11, 12, 13, 14, 15, 16, 17, 18, 19], [0, 1, 2, 3, 8, 9, 10, 11, 12, 13, 14, 15, 16, 17, 18, 19, 20], [0, 1, 2, 3, 4, 5, 6, 7, 8, 9, 10, 11, 12, 13, 14, 15, 16, 17, 18, 19, 20, 21], [0, 1, 2, 3, 4, 5, 6, 7, 8, 9, 10, 11, 12, 13, 14, 15, 16, 17, 18, 19, 20, 21, 22]]⟩
def pl466_1 : RPlan := .chain ⟨[9], [[0, 1, 2, 3, 4, 5, 6, 7, 8], []], [[0, 1, 2, 3, 4, 5, 6, 7, 8], []], [[], [0], [0, 1], [], [3], [3, 4], [3, 4, 5], [0, 1, 2, 3, 4, 5, 6], [0, 1, 2, 3, 4, 5, 6, 7], [0, 1, 2, 3, 4, 5, 6, 7, 8]]⟩
def pl466_2 : RPlan := .chain ⟨[9], [[0, 1, 2, 3, 4, 5, 6, 7, 8], []], [[0, 1, 2, 3, 4, 5, 6, 7, 8], []], [[], [0], [0, 1], [], [3], [3, 4], [3, 4, 5], [0, 1, 2, 3, 4, 5, 6], [0, 1, 2, 3, 4, 5, 6, 7], [0, 1, 2, 3, 4, 5, 6, 7, 8]]⟩
def pl466_3 : RPlan := .chain ⟨[9], [[0, 1, 2, 3, 4, 5, 6, 7, 8], []], [[0, 1, 2, 3, 4, 5, 6, 7, 8], []], [[], [0], [0, 1], [], [3], [3, 4], [3, 4, 5], [0, 1, 2, 3, 4, 5, 6], [0, 1, 2, 3, 4, 5, 6, 7], [0, 1, 2, 3, 4, 5, 6, 7, 8]]⟩
def pl469_3 : RPlan := .chain ⟨[19], [[0, 1, 2, 3, 4, 5, 6, 7, 8, 9, 10, 11, 12, 13, 14, 15, 16, 17, 18], [20, 21]], [[0, 1, 2, 3, 4, 5, 6, 7, 8, 9, 10, 11, 12, 13, 14, 15, 16, 17, 18], [20, 21]], [[], [0], [], [0, 1, 2], [0, 1, 2, 3], [0, 1, 2, 3, 4], [0, 1, 2, 3, 4], [0, 1, 2, 3, 4], [0, 1, 2, 3, 4], [0, 1, 2, 3, 4, 7, 8], [0, 1, 2, 3, 4, 6, 7, 8, 9], [0, 1, 2, 3, 4, 6, 7, 8, 9, 10], [0, 1, 2, 3, 4], [0, 1, 2, 3, 4], [0, 1, 2, 3, 4], [0, 1, 2, 3, 4, 13, 14], [0, 1, 2, 3, 4, 13, 14, 15], [0, 1, 2, 3, 4, 12, 13, 14, 15, 16], [0, 1, 2, 3, 4, 12, 13, 14, 15, 16, 17], [0, 1, 2, 3, 4, 5, 6, 7, 8, 9, 10, 11, 12, 13, 14, 15, 16, 17, 18], [0, 1, 2, 3, 4, 5, 6, 7, 8, 9, 10, 11, 12, 13, 14, 15, 16, 17, 18, 19], [0, 1, 2, 3, 4, 5, 6, 7, 8, 9, 10, 11, 12, 13, 14, 15, 16, 17, 18, 19, 20]]⟩
def pl469_5 : RPlan := .chain ⟨[13], [[0, 1, 2, 3, 4, 5, 6, 7, 8, 9, 10, 11, 12], [14, 15]], [[0, 1, 2, 3, 4, 5, 6, 7, 8, 9, 10, 11, 12], [14, 15]], [[], [], [], [], [2, 3], [1, 2, 3, 4], [1, 2, 3, 4, 5], [], [], [], [8, 9], [7, 8, 9, 10], [7, 8, 9, 10, 11], [0, 1, 2, 3, 4, 5, 6, 7, 8, 9, 10, 11, 12], [0, 1, 2, 3, 4, 5, 6, 7, 8, 9, 10, 11, 12, 13], [0, 1, 2, 3, 4, 5, 6, 7, 8, 9, 10, 11, 12, 13, 14]]⟩
def pl469_6 : RPlan := .chain ⟨[21, 23], [[0, 1, 2, 3, 4, 5, 6, 7, 8, 9, 10, 11, 12, 13, 14, 15, 16, 17, 18, 19, 20], [22], []], [[0, 1, 2, 3, 4, 5, 6, 7, 8, 9, 10, 11, 12, 13, 14, 15, 16, 17, 18, 19, 20], [4, 5, 6, 7, 22], []], [[], [], [], [1, 2], [], [], [], [5, 6], [], [], [], [9, 10], [8, 9, 10, 11], [8, 9, 10, 11, 12], [], [], [], [15, 16], [14, 15, 16, 17], [14, 15, 16, 17, 18], [0, 1, 2, 3, 8, 9, 10, 11, 12, 13, 14, 15, 16, 17, 18, 19], [0, 1, 2, 3, 8, 9, 10, 11, 12, 13, 14, 15, 16, 17, 18, 19, 20], [0, 1, 2, 3, 4, 5, 6, 7, 8, 9, 10, 11, 12, 13, 14, 15, 16, 17, 18, 19, 20, 21], [0, 1, 2, 3, 4, 5, 6, 7, 8, 9, 10, 11, 12, 13, 14, 15, 16, 17, 18, 19, 20, 21, 22]]⟩
def pl472_1 : RPlan := .chain ⟨[9], [[0, 1, 2, 3, 4, 5, 6, 7, 8], [10]], [[0, 1, 2, 3, 4, 5, 6, 7, 8], [10]], [[], [], [], [1, 2], [1, 2, 3], [], [], [5, 6], [5, 6, 7], [0, 1, 2, 3, 4, 5, 6, 7, 8], [0, 1, 2, 3, 4, 5, 6, 7, 8, 9]]⟩
def pl473_1 : RPlan := .chain ⟨[9], [[0, 1, 2, 3, 4, 5, 6, 7, 8], [10]], [[0, 1, 2, 3, 4, 5, 6, 7, 8], [10]], [[], [], [], [1, 2], [1, 2, 3], [], [], [5, 6], [5, 6, 7], [0, 1, 2, 3, 4, 5, 6, 7, 8], [0, 1, 2, 3, 4, 5, 6, 7, 8, 9]]⟩
def planL : List (Nat × Nat × RPlan) := [(7, 14, pl7_14), (12, 1, pl12_1), (15, 7, pl15_7), (16, 5, pl16_5), (19, 2, pl19_2), (21, 3, pl21_3), (21, 12, pl21_12), (21, 16, pl21_16), (21, 21, pl21_21), (21, 24, pl21_24), (22, 1, pl22_1), (25, 5, pl25_5), (25, 6, pl25_6), (28, 6, pl28_6), (32, 2, pl32_2), (50, 6, pl50_6), (53, 2, pl53_2), (54, 5, pl54_5), (58, 7, pl58_7), (59, 3, pl59_3), (65, 2, pl65_2), (66, 2, pl66_2), (67, 2, pl67_2), (68, 2, pl68_2), (69, 4, pl69_4), (70, 2, pl70_2), (71, 2, pl71_2), (72, 2, pl72_2), (73, 2, pl73_2), (74, 2, pl74_2), (74, 8, pl74_8), (75, 2, pl75_2), (76, 2, pl76_2), (77, 2, pl77_2), (84, 6, pl84_6), (85, 5, pl85_5), (86, 3, pl86_3), (94, 8, pl94_8), (94, 10, pl94_10), (95, 7, pl95_7), (100, 1, pl100_1), (101, 5, pl101_5), (102, 6, pl102_6), (102, 7, pl102_7), (102, 8, pl102_8), (106, 1, pl106_1), (106, 10, pl106_10), (107, 5, pl107_5), (109, 1, pl109_1), (113, 1, pl113_1), (116, 9, pl116_9), (118, 3, pl118_3), (119, 2, pl119_2), (119, 6, pl119_6), (125, 0, pl125_0), (132, 3, pl132_3), (136, 5, pl136_5), (138, 2, pl138_2), (139, 11, pl139_11), (139, 15, pl139_15), (141, 2, pl141_2), (142, 4, pl142_4), (143, 2, pl143_2), (151, 6, pl151_6), (153, 1, pl153_1), (157, 8, pl157_8), (159, 1, pl159_1), (159, 2, pl159_2), (159, 4, pl159_4), (159, 8, pl159_8), (159, 9, pl159_9), (159, 12, pl159_12), (167, 11, pl167_11), (167, 15, pl167_15), (169, 1, pl169_1), (169, 4, pl169_4), (170, 14, pl170_14), (180, 5, pl180_5), (190, 4, pl190_4), (191, 6, pl191_6), (194, 1, pl194_1), (197, 1, pl197_1), (206, 3, pl206_3), (207, 4, pl207_4), (207, 7, pl207_7), (207, 9, pl207_9), (207, 11, pl207_11), (210, 11, pl210_11), (211, 1, pl211_1), (217, 1, pl217_1), (218, 24, pl218_24), (218, 29, pl218_29), (220, 1, pl220_1), (222, 6, pl222_6), (222, 7, pl222_7), (222, 11, pl222_11), (225, 1, pl225_1), (225, 3, pl225_3), (225, 5, pl225_5), (227, 4, pl227_4), (227, 7, pl227_7), (227, 8, pl227_8), (229, 1, pl229_1), (230, 1, pl230_1), (231, 0, pl231_0), (231, 2, pl231_2), (231, 10, pl231_10), (232, 0, pl232_0), (233, 1, pl233_1), (233, 4, pl233_4), (234, 1, pl234_1), (238, 4, pl238_4), (246, 1, pl246_1), (248, 5, pl248_5), (248, 6, pl248_6), (248, 8, pl248_8), (250, 0, pl250_0), (250, 2, pl250_2), (252, 1, pl252_1), (255, 2, pl255_2), (255, 4, pl255_4), (258, 7, pl258_7), (258, 8, pl258_8), (258, 9, pl258_9), (258, 10, pl258_10), (258, 17, pl258_17), (258, 18, pl258_18), (258, 23, pl258_23), (260, 3, pl260_3), (262, 5, pl262_5), (262, 8, pl262_8), (264, 1, pl264_1), (275, 6, pl275_6), (276, 2, pl276_2), (276, 3, pl276_3), (277, 2, pl277_2), (288, 4, pl288_4), (289, 1, pl289_1), (290, 5, pl290_5), (292, 1, pl292_1), (294, 1, pl294_1), (294, 3, pl294_3), (305, 3, pl305_3), (306, 2, pl306_2), (306, 6, pl306_6), (306, 7, pl306_7), (308, 6, pl308_6), (308, 7, pl308_7), (308, 9, pl308_9), (308, 10, pl308_10), (309, 8, pl309_8), (315, 1, pl315_1), (335, 6, pl335_6), (344, 1, pl344_1), (346, 3, pl346_3), (347, 6, pl347_6), (347, 7, pl347_7), (347, 14, pl347_14), (347, 31, pl347_31), (356, 4, pl356_4), (359, 9, pl359_9), (371, 1, pl371_1), (371, 5, pl371_5), (374, 3, pl374_3), (381, 4, pl381_4), (387, 3, pl387_3), (399, 7, pl399_7), (401, 1, pl401_1), (416, 7, pl416_7), (417, 1, pl417_1), (427, 1, pl427_1), (431, 1, pl431_1), (436, 1, pl436_1), (442, 17, pl442_17), (446, 17, pl446_17), (447, 4, pl447_4), (447, 6, pl447_6), (448, 10, pl448_10), (449, 10, pl449_10), (451, 3, pl451_3), (452, 5, pl452_5), (452, 11, pl452_11), (452, 16, pl452_16), (452, 17, pl452_17), (452, 22, pl452_22), (452, 23, pl452_23), (453, 1, pl453_1), (453, 3, pl453_3), (453, 5, pl453_5), (453, 8, pl453_8), (454, 1, pl454_1), (454, 3, pl454_3), (454, 5, pl454_5), (454, 8, pl454_8), (454, 10, pl454_10), (454, 13, pl454_13), (454, 15, pl454_15), (454, 18, pl454_18), (454, 21, pl454_21), (456, 4, pl456_4), (456, 6, pl456_6), (457, 10, pl457_10), (458, 10, pl458_10), (460, 3, pl460_3), (461, 5, pl461_5), (461, 11, pl461_11), (461, 16, pl461_16), (461, 17, pl461_17), (461, 22, pl461_22), (461, 23, pl461_23), (462, 1, pl462_1), (462, 3, pl462_3), (462, 5, pl462_5), (462, 8, pl462_8), (463, 1, pl463_1), (463, 3, pl463_3), (463, 5, pl463_5), (463, 8, pl463_8), (463, 10, pl463_10), (463, 13, pl463_13), (463, 15, pl463_15), (463, 18, pl463_18), (463, 21, pl463_21), (464, 3, pl464_3), (464, 5, pl464_5), (464, 6, pl464_6), (466, 1, pl466_1), (466, 2, pl466_2), (466, 3, pl466_3), (469, 3, pl469_3), (469, 5, pl469_5), (469, 6, pl469_6), (472, 1, pl472_1), (473, 1, pl473_1)]
noncomputable def lookP (l : List (Nat × Nat × RPlan)) (f id : Nat) : Option RPlan := List.rec (motive := fun _ => Option RPlan) none (fun x _ ih => bif Nat.beq x.1 f then (bif Nat.beq x.2.1 id then some x.2.2 else ih) else ih) l
end Go.AH
namespace Go.Proofs
open Go Go.AH
set_option maxRecDepth 100000
def kindT (f : FuncId) : Nat := match f with
  | 96 => 1 | 112 => 1 | 115 => 1 | 164 => 1 | 111 => 1
  | 7 => 2 | 19 => 2
  | 139 => 3 | 167 => 3
  | _ => 0
noncomputable def I0 : Itp := ⟨lookP planL, spT, dspT, kindT⟩
noncomputable def plF (f : Nat) : Bool := match Tryz.prog.funcs[f]? with
  | some fn => match fn.body with
    | some c => plOk I0 f c
    | none => true
  | none => true
noncomputable def plR (n : Nat) : Nat → Bool := fun k => Nat.rec true (fun i r => bif plF (n + i) then r else false) k
theorem pl0 : plR 0 40 = true := by decide +kernel
theorem pl40 : plR 40 40 = true := by decide +kernel
theorem pl80 : plR 80 40 = true := by decide +kernel
theorem pl120 : plR 120 40 = true := by decide +kernel
theorem pl160 : plR 160 40 = true := by decide +kernel
theorem pl200 : plR 200 40 = true := by decide +kernel
theorem pl240 : plR 240 40 = true := by decide +kernel
theorem pl280 : plR 280 40 = true := by decide +kernel
theorem pl320 : plR 320 40 = true := by decide +kernel
theorem pl360 : plR 360 40 = true := by decide +kernel
theorem pl400 : plR 400 40 = true := by decide +kernel
theorem pl440 : plR 440 40 = true := by decide +kernel
theorem pl480 : plR 480 26 = true := by decide +kernel
theorem plR_ok {n : Nat} : ∀ {k : Nat}, plR n k = true → ∀ i, i < k → plF (n + i) = true
  | 0, _, i, hi => by omega
  | k + 1, h, i, hi => by
    have h : (bif plF (n + k) then plR n k else false) = true := h
    cases hb : plF (n + k) with
    | false => rw [hb] at h; cases h
    | true =>
      rw [hb] at h
      rcases Nat.lt_or_ge i k with q | q
      · exact plR_ok h i q
      · rw [show i = k by omega]; exact hb
theorem nfuncs : Tryz.prog.funcs.size = 506 := by kernel_rfl
theorem plF_all (f : Nat) (hf : f < 506) : plF f = true := by
  if h0 : f < 40 then exact (show 0 + (f - 0) = f by omega) ▸ plR_ok pl0 (f - 0) (by omega) else
  if h40 : f < 80 then exact (show 40 + (f - 40) = f by omega) ▸ plR_ok pl40 (f - 40) (by omega) else
  if h80 : f < 120 then exact (show 80 + (f - 80) = f by omega) ▸ plR_ok pl80 (f - 80) (by omega) else
  if h120 : f < 160 then exact (show 120 + (f - 120) = f by omega) ▸ plR_ok pl120 (f - 120) (by omega) else
  if h160 : f < 200 then exact (show 160 + (f - 160) = f by omega) ▸ plR_ok pl160 (f - 160) (by omega) else
  if h200 : f < 240 then exact (show 200 + (f - 200) = f by omega) ▸ plR_ok pl200 (f - 200) (by omega) else
  if h240 : f < 280 then exact (show 240 + (f - 240) = f by omega) ▸ plR_ok pl240 (f - 240) (by omega) else
  if h280 : f < 320 then exact (show 280 + (f - 280) = f by omega) ▸ plR_ok pl280 (f - 280) (by omega) else
  if h320 : f < 360 then exact (show 320 + (f - 320) = f by omega) ▸ plR_ok pl320 (f - 320) (by omega) else
  if h360 : f < 400 then exact (show 360 + (f - 360) = f by omega) ▸ plR_ok pl360 (f - 360) (by omega) else
  if h400 : f < 440 then exact (show 400 + (f - 400) = f by omega) ▸ plR_ok pl400 (f - 400) (by omega) else
  if h440 : f < 480 then exact (show 440 + (f - 440) = f by omega) ▸ plR_ok pl440 (f - 440) (by omega) else
  if h480 : f < 506 then exact (show 480 + (f - 480) = f by omega) ▸ plR_ok pl480 (f - 480) (by omega) else
  omega
/-- No function is called so. -/
noncomputable def nmR (k : Nat) : Bool := Nat.rec true (fun i r => bif (match Tryz.prog.funcs[i]? with | some fn => fn.name == "runtime.NumGoroutine" | none => false) then false else r) k
theorem nm_all : nmR 506 = true := by decide +kernel
theorem nmR_ok : ∀ {k : Nat}, nmR k = true → ∀ i, i < k → ∀ fn, Tryz.prog.funcs[i]? = some fn → (fn.name == "runtime.NumGoroutine") = false
  | 0, _, i, hi, _, _ => by omega
  | k + 1, h, i, hi, fn, hf => by
    have h : (bif (match Tryz.prog.funcs[k]? with | some fn => fn.name == "runtime.NumGoroutine" | none => false) then false else nmR k) = true := h
    obtain ⟨h1, h2⟩ := cond_false_r h
    rcases Nat.lt_or_ge i k with q | q
    · exact nmR_ok h2 i q fn hf
    · have : i = k := by omega
      subst this
      rw [hf] at h1
      exact h1
theorem lt_fun {f : Nat} {fn : Func} (hf : Tryz.prog.funcs[f]? = some fn) : f < 506 := by
  rw [← nfuncs]
  exact (Array.getElem?_eq_some_iff.1 hf).1
/-- Calls that are known, with more. -/
def spOr (a b : CallF) : CallF := fun f args h => match a f args h with
  | some o => some o
  | none => b f args h
theorem spOr_ok {P : Program} {a b : CallF} (ha : CallOk P a) (hb : CallOk P b) : CallOk P (spOr a b) := by
  intro f args h r h' e
  unfold spOr at e
  split at e
  · rename_i o ho
    cases e
    exact ha _ _ _ _ _ ho
  · exact hb _ _ _ _ _ e
noncomputable def IT (sp : CallF) : Itp := ⟨lookP planL, spOr spT sp, dspT, kindT⟩
theorem plOk_sp (sp : CallF) (f : FuncId) : ∀ c, plOk (IT sp) f c = plOk I0 f c := by
  intro c
  induction c with
  | seq a b iha ihb => simp only [plOk, iha, ihb]
  | cond x a b iha ihb => simp only [plOk, iha, ihb]
  | block i a ih => simp only [plOk, ih]
  | loop a ih => simp only [plOk, ih]
  | _ => rfl
theorem IT_ok {sp : CallF} (hs : CallOk Tryz.prog sp) : ItpOk Tryz.prog (IT sp) where
  sp := spOr_ok spT_ok hs
  dsp := dspT_ok
  plan f fn c hf hb := by
    rw [plOk_sp]
    have := plF_all f (lt_fun hf)
    unfold plF at this
    rw [hf] at this
    simp only at this
    rw [hb] at this
    exact this
  mixed := by kernel_rfl
  name f fn hf := nmR_ok nm_all f (lt_fun hf) fn hf
end Go.Proofs
namespace Go.Proofs
open Go Go.AH
/-- A call that is known. -/
structure KCall where
  f : Nat
  args : List AV
  h : Heap
  r : AV
  h1 : Heap
def KOk (e : KCall) : Prop := ACalls Tryz.prog e.f e.args e.h (fun r' h'' => r' = .ret e.r ∧ h'' = e.h1)
noncomputable def spL (E : List KCall) (f : FuncId) (args : List AV) (h : Heap) : Option OutH :=
  List.rec (motive := fun _ => Option OutH) none (fun e _ ih => bif Nat.beq e.f f then (bif eqAL e.args args then (bif eqH e.h h then some (e.r, e.h1) else ih) else ih) else ih) E
theorem spL_cons (e : KCall) (E : List KCall) (f : FuncId) (args : List AV) (h : Heap) : spL (e :: E) f args h = bif Nat.beq e.f f then (bif eqAL e.args args then (bif eqH e.h h then some (e.r, e.h1) else spL E f args h) else spL E f args h) else spL E f args h := rfl
theorem spL_ok : ∀ {E : List KCall}, (∀ e ∈ E, KOk e) → CallOk Tryz.prog (spL E)
  | [], _, f, args, h, r, h', q => by cases q
  | e :: E, he, f, args, h, r, h', q => by
    rw [spL_cons] at q
    have ih := spL_ok (E := E) (fun x hx => he x (by simp [hx])) f args h r h'
    cases h1 : Nat.beq e.f f with
    | false => rw [h1] at q; exact ih q
    | true =>
      rw [h1] at q
      cases h2 : eqAL e.args args with
      | false => rw [h2] at q; exact ih q
      | true =>
        rw [h2] at q
        cases h3 : eqH e.h h with
        | false => rw [h3] at q; exact ih q
        | true =>
          rw [h3] at q
          simp only [cond_true, Option.some.injEq, Prod.mk.injEq] at q
          obtain ⟨rfl, rfl⟩ := q
          have := he e (by simp)
          unfold KOk at this
          rw [← Nat.eq_of_beq_eq_true h1, ← eqAL_eq h2, ← eqH_eq h3]
          exact this
/-- A call, by a run over what is known. -/
theorem kok_run {E : List KCall} (he : ∀ e ∈ E, KOk e) (n : Nat) {e : KCall} (q : okRun ((rAll Tryz.prog (IT (spL E)) n).body e.f e.args e.h) e.r e.h1 = true) : KOk e :=
  run_call (IT_ok (spL_ok he)) n q
theorem kok_cons {E : List KCall} {e : KCall} (h : KOk e) (he : ∀ e ∈ E, KOk e) : ∀ x ∈ e :: E, KOk x := by
  intro x hx
  rcases List.mem_cons.1 hx with rfl | hx
  · exact h
  · exact he x hx
theorem kok_nil : ∀ x ∈ ([] : List KCall), KOk x := by simp
end Go.Proofs
