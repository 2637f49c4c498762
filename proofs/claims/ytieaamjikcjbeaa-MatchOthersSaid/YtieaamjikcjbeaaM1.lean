/- Contracts of the package's functions, by the walk over abstract values. No condition. -/
import Derived.Test.YtieaamjikcjbeaaLower
namespace Go.Proofs
open Go Go.AH TryTy
set_option linter.unusedSimpArgs false
set_option linter.unusedVariables false
set_option maxRecDepth 10000

def arnd (n k : Int) : Int := (if n < 0 then -(n + 1) else n).tmod k
theorem around_c (n k : Int) (h0 : 0 < k) (h1 : k < 100000) (hn : -9223372036854775808 ≤ n) (hn2 : n ≤ 9223372036854775807) : ACalls Try.prog 13 [.int .i64 n, .int .i64 k] [] (fun r h => r = .ret (.int .i64 (arnd n k)) ∧ h = []) := by
  have hk0 : (k = 0) = False := by simp; omega
  refine acalls_body Try.func13 rfl (by decide +kernel) ?_
  simp only [List.length_nil, List.length_cons, List.length_append, Nat.zero_add, Try.ntmps13, List.replicate, List.cons_append, List.nil_append, List.append_assoc, Nat.reduceSub, Nat.reduceAdd]
  refine aW_reg fun N hN => ?_
  simp (config := {maxSteps := 10000000}) only [go_sem, Nat.reduceAdd, Nat.reduceSub, Nat.reduceMul, Nat.reduceLT, Nat.reduceLeDiff, Nat.lt_irrefl, Nat.le_refl, List.getElem?_toArray, bne_self_eq_false, Int.le_refl, Int.reduceLE, Int.reduceLT, Int.toNat_zero, Nat.zero_mul, List.all_cons, List.all_nil, Bool.and_self, Bool.and_true, Bool.true_and, Nat.reduceEqDiff, Nat.one_ne_zero, true_and, and_true, and_self, List.drop_succ_cons, List.drop_nil, List.take_succ_cons, List.take_nil]
  refine hN _ _ ?_; clear hN N
  refine aW_seq_k fun N hN => ?_
  refine aW_reg fun N hN => ?_
  simp (config := {maxSteps := 10000000}) only [go_sem, Nat.reduceAdd, Nat.reduceSub, Nat.reduceMul, Nat.reduceLT, Nat.reduceLeDiff, Nat.lt_irrefl, Nat.le_refl, List.getElem?_toArray, bne_self_eq_false, Int.le_refl, Int.reduceLE, Int.reduceLT, Int.toNat_zero, Nat.zero_mul, List.all_cons, List.all_nil, Bool.and_self, Bool.and_true, Bool.true_and, Nat.reduceEqDiff, Nat.one_ne_zero, true_and, and_true, and_self, List.drop_succ_cons, List.drop_nil, List.take_succ_cons, List.take_nil]
  refine hN _ _ ?_; clear hN N
  by_cases h : n < 0
  · have hw1 : IntKind.i64.wrap (n + 1) = n + 1 := IntWalk.i64_in _ (by omega)
    have hw2 : IntKind.i64.wrap (0 - (n + 1)) = -(n + 1) := by
      rw [IntWalk.i64_in _ (by omega)]; omega
    have hw2' : IntKind.i64.wrap (-(n + 1)) = -(n + 1) := IntWalk.i64_in _ (by omega)
    refine aW_cond (b := true) (by simp only [go_sem, h]) (fun _ => ?_) (fun h => by cases h)
    refine aW_reg1 fun N hN => ?_
    simp (config := {maxSteps := 10000000}) only [go_sem, Nat.reduceAdd, Nat.reduceSub, Nat.reduceMul, Nat.reduceLT, Nat.reduceLeDiff, Nat.lt_irrefl, Nat.le_refl, List.getElem?_toArray, bne_self_eq_false, Int.le_refl, Int.reduceLE, Int.reduceLT, Int.toNat_zero, Nat.zero_mul, List.all_cons, List.all_nil, Bool.and_self, Bool.and_true, Bool.true_and, Nat.reduceEqDiff, Nat.one_ne_zero, true_and, and_true, and_self, List.drop_succ_cons, List.drop_nil, List.take_succ_cons, List.take_nil, hw1, hw2]
    refine hN _ _ ?_; clear hN N
    refine hN _ _ ?_; clear hN N
    have hb := Int.tmod_lt_of_pos (-(n + 1)) h0
    have hb0 := Int.tmod_nonneg k (show 0 ≤ -(n + 1) by omega)
    have hw3 : IntKind.i64.wrap ((-(n + 1)).tmod k) = (-(n + 1)).tmod k := IntWalk.i64_in _ (by omega)
    refine aW_reg fun N hN => ?_
    simp (config := {maxSteps := 10000000}) only [go_sem, Nat.reduceAdd, Nat.reduceSub, Nat.reduceMul, Nat.reduceLT, Nat.reduceLeDiff, Nat.lt_irrefl, Nat.le_refl, List.getElem?_toArray, bne_self_eq_false, Int.le_refl, Int.reduceLE, Int.reduceLT, Int.toNat_zero, Nat.zero_mul, List.all_cons, List.all_nil, Bool.and_self, Bool.and_true, Bool.true_and, Nat.reduceEqDiff, Nat.one_ne_zero, true_and, and_true, and_self, List.drop_succ_cons, List.drop_nil, List.take_succ_cons, List.take_nil, hw3, hk0]
    refine hN _ _ ?_; clear hN N
    refine aW_ret (Body.done rfl (Nat.le_refl _) ⟨?_, rfl⟩)
    simp only [arnd, h, hw1, hw2, if_true, go_sem]
  · refine aW_cond (b := false) (by simp only [go_sem, h]) (fun h => by cases h) (fun _ => aW_skip ?_)
    refine hN _ _ ?_; clear hN N
    have hb := Int.tmod_lt_of_pos n h0
    have hb0 := Int.tmod_nonneg k (show 0 ≤ n by omega)
    have hw3 : IntKind.i64.wrap (n.tmod k) = n.tmod k := IntWalk.i64_in _ (by omega)
    refine aW_reg fun N hN => ?_
    simp (config := {maxSteps := 10000000}) only [go_sem, Nat.reduceAdd, Nat.reduceSub, Nat.reduceMul, Nat.reduceLT, Nat.reduceLeDiff, Nat.lt_irrefl, Nat.le_refl, List.getElem?_toArray, bne_self_eq_false, Int.le_refl, Int.reduceLE, Int.reduceLT, Int.toNat_zero, Nat.zero_mul, List.all_cons, List.all_nil, Bool.and_self, Bool.and_true, Bool.true_and, Nat.reduceEqDiff, Nat.one_ne_zero, true_and, and_true, and_self, List.drop_succ_cons, List.drop_nil, List.take_succ_cons, List.take_nil, hw3, hk0]
    refine hN _ _ ?_; clear hN N
    refine aW_ret (Body.done rfl (Nat.le_refl _) ⟨?_, rfl⟩)
    simp [arnd, h]
theorem arnd_nonneg (n k : Int) (h0 : 0 < k) : 0 ≤ arnd n k := Int.tmod_nonneg k (by split <;> omega)
theorem arnd_lt (n k : Int) (h0 : 0 < k) : arnd n k < k := Int.tmod_lt_of_pos _ h0

theorem like_c (a b : List UInt8) (ha : a.length ≤ 9223372036854775806) (hb : b.length ≤ 9223372036854775806) : ACalls Try.prog 34 [.str a, .str b] [] (fun r h => r = .ret (.bool (lower a == lower b)) ∧ h = []) := by
  have h1 := lower_c a ha
  have h2 := lower_c b hb
  refine acalls_body Try.func34 rfl (by decide +kernel) ?_
  simp only [List.length_nil, List.length_cons, List.length_append, Nat.zero_add, Try.ntmps34, List.replicate, List.cons_append, List.nil_append, List.append_assoc, Nat.reduceSub, Nat.reduceAdd]
  repeat' (first
    | (refine aW_reg fun N hN => ?_; simp (config := {maxSteps := 10000000}) (disch := first | (intro; intros; rename_i h; injection h; done) | omega) only [go_sem, Bool.false_or, Bool.true_or, Bool.or_true, Bool.or_false, Nat.reduceAdd, Nat.reduceSub, Nat.reduceMul, Nat.reduceLT, Nat.reduceLeDiff, Nat.lt_irrefl, Nat.le_refl, List.getElem?_toArray, bne_self_eq_false, Int.le_refl, Int.reduceLE, Int.reduceLT, Int.toNat_zero, Nat.zero_mul, List.all_cons, List.all_nil, Bool.and_self, Bool.and_true, Bool.true_and, Nat.reduceEqDiff, Nat.one_ne_zero, true_and, and_true, and_self, List.drop_succ_cons, List.drop_nil, List.take_succ_cons, List.take_nil, reduceCtorEq, Nat.sub_zero, Option.some.injEq, wrap_i64, wrap_u8, dec_t, dec_f, ite_t, ite_f, Int.toNat_natCast, Int.cast_ofNat_Int, toNat_cast_add, bcells_length, List.length_take, List.length_map, List.length_drop, List.length_append]; with_reducible refine hN _ _ ?_; clear hN N)
    | (refine aW_reg fun N hN => ?_; (try simp (config := {maxSteps := 10000000}) (disch := first | (intro; intros; rename_i h; injection h; done) | omega) only [go_sem, Bool.false_or, Bool.true_or, Bool.or_true, Bool.or_false, Nat.reduceAdd, Nat.reduceSub, Nat.reduceMul, Nat.reduceLT, Nat.reduceLeDiff, Nat.lt_irrefl, Nat.le_refl, List.getElem?_toArray, bne_self_eq_false, Int.le_refl, Int.reduceLE, Int.reduceLT, Int.toNat_zero, Nat.zero_mul, List.all_cons, List.all_nil, Bool.and_self, Bool.and_true, Bool.true_and, Nat.reduceEqDiff, Nat.one_ne_zero, true_and, and_true, and_self, List.drop_succ_cons, List.drop_nil, List.take_succ_cons, List.take_nil, reduceCtorEq, Nat.sub_zero, Option.some.injEq, wrap_i64, wrap_u8, dec_t, dec_f, ite_t, ite_f, Int.toNat_natCast, Int.cast_ofNat_Int, toNat_cast_add, bcells_length, List.length_take, List.length_map, List.length_drop, List.length_append]); (repeat ((first | (refine (h1).plain (by first | rfl | simp only [renL, ren, rE.ren, aE.ren, sE.ren, acell_noid, rcell_noid]) (by first | rfl | simp only [renL, ren, rE.ren, aE.ren, sE.ren, acell_noid, rcell_noid]) ?_) | (refine (h2).plain (by first | rfl | simp only [renL, ren, rE.ren, aE.ren, sE.ren, acell_noid, rcell_noid]) (by first | rfl | simp only [renL, ren, rE.ren, aE.ren, sE.ren, acell_noid, rcell_noid]) ?_)); try simp (config := {maxSteps := 10000000}) (disch := first | (intro; intros; rename_i h; injection h; done) | omega) only [go_sem, Bool.false_or, Bool.true_or, Bool.or_true, Bool.or_false, Nat.reduceAdd, Nat.reduceSub, Nat.reduceMul, Nat.reduceLT, Nat.reduceLeDiff, Nat.lt_irrefl, Nat.le_refl, List.getElem?_toArray, bne_self_eq_false, Int.le_refl, Int.reduceLE, Int.reduceLT, Int.toNat_zero, Nat.zero_mul, List.all_cons, List.all_nil, Bool.and_self, Bool.and_true, Bool.true_and, Nat.reduceEqDiff, Nat.one_ne_zero, true_and, and_true, and_self, List.drop_succ_cons, List.drop_nil, List.take_succ_cons, List.take_nil, reduceCtorEq, Nat.sub_zero, Option.some.injEq, wrap_i64, wrap_u8, dec_t, dec_f, ite_t, ite_f, Int.toNat_natCast, Int.cast_ofNat_Int, toNat_cast_add, bcells_length, List.length_take, List.length_map, List.length_drop, List.length_append])); with_reducible refine hN _ _ ?_; clear hN N)
    | (refine aW_reg1 fun N hN => ?_; simp (config := {maxSteps := 10000000}) (disch := first | (intro; intros; rename_i h; injection h; done) | omega) only [go_sem, Bool.false_or, Bool.true_or, Bool.or_true, Bool.or_false, Nat.reduceAdd, Nat.reduceSub, Nat.reduceMul, Nat.reduceLT, Nat.reduceLeDiff, Nat.lt_irrefl, Nat.le_refl, List.getElem?_toArray, bne_self_eq_false, Int.le_refl, Int.reduceLE, Int.reduceLT, Int.toNat_zero, Nat.zero_mul, List.all_cons, List.all_nil, Bool.and_self, Bool.and_true, Bool.true_and, Nat.reduceEqDiff, Nat.one_ne_zero, true_and, and_true, and_self, List.drop_succ_cons, List.drop_nil, List.take_succ_cons, List.take_nil, reduceCtorEq, Nat.sub_zero, Option.some.injEq, wrap_i64, wrap_u8, dec_t, dec_f, ite_t, ite_f, Int.toNat_natCast, Int.cast_ofNat_Int, toNat_cast_add, bcells_length, List.length_take, List.length_map, List.length_drop, List.length_append]; with_reducible refine hN _ _ ?_; clear hN N)
    | (refine aW_reg1 fun N hN => ?_; (try simp (config := {maxSteps := 10000000}) (disch := first | (intro; intros; rename_i h; injection h; done) | omega) only [go_sem, Bool.false_or, Bool.true_or, Bool.or_true, Bool.or_false, Nat.reduceAdd, Nat.reduceSub, Nat.reduceMul, Nat.reduceLT, Nat.reduceLeDiff, Nat.lt_irrefl, Nat.le_refl, List.getElem?_toArray, bne_self_eq_false, Int.le_refl, Int.reduceLE, Int.reduceLT, Int.toNat_zero, Nat.zero_mul, List.all_cons, List.all_nil, Bool.and_self, Bool.and_true, Bool.true_and, Nat.reduceEqDiff, Nat.one_ne_zero, true_and, and_true, and_self, List.drop_succ_cons, List.drop_nil, List.take_succ_cons, List.take_nil, reduceCtorEq, Nat.sub_zero, Option.some.injEq, wrap_i64, wrap_u8, dec_t, dec_f, ite_t, ite_f, Int.toNat_natCast, Int.cast_ofNat_Int, toNat_cast_add, bcells_length, List.length_take, List.length_map, List.length_drop, List.length_append]); (repeat ((first | (refine (h1).plain (by first | rfl | simp only [renL, ren, rE.ren, aE.ren, sE.ren, acell_noid, rcell_noid]) (by first | rfl | simp only [renL, ren, rE.ren, aE.ren, sE.ren, acell_noid, rcell_noid]) ?_) | (refine (h2).plain (by first | rfl | simp only [renL, ren, rE.ren, aE.ren, sE.ren, acell_noid, rcell_noid]) (by first | rfl | simp only [renL, ren, rE.ren, aE.ren, sE.ren, acell_noid, rcell_noid]) ?_)); try simp (config := {maxSteps := 10000000}) (disch := first | (intro; intros; rename_i h; injection h; done) | omega) only [go_sem, Bool.false_or, Bool.true_or, Bool.or_true, Bool.or_false, Nat.reduceAdd, Nat.reduceSub, Nat.reduceMul, Nat.reduceLT, Nat.reduceLeDiff, Nat.lt_irrefl, Nat.le_refl, List.getElem?_toArray, bne_self_eq_false, Int.le_refl, Int.reduceLE, Int.reduceLT, Int.toNat_zero, Nat.zero_mul, List.all_cons, List.all_nil, Bool.and_self, Bool.and_true, Bool.true_and, Nat.reduceEqDiff, Nat.one_ne_zero, true_and, and_true, and_self, List.drop_succ_cons, List.drop_nil, List.take_succ_cons, List.take_nil, reduceCtorEq, Nat.sub_zero, Option.some.injEq, wrap_i64, wrap_u8, dec_t, dec_f, ite_t, ite_f, Int.toNat_natCast, Int.cast_ofNat_Int, toNat_cast_add, bcells_length, List.length_take, List.length_map, List.length_drop, List.length_append])); with_reducible refine hN _ _ ?_; clear hN N)
    | (refine aW_seq_k fun N hN => ?_)
    | (refine aW_block ?_)
    | (refine aW_cond (b := true) rfl (fun _ => ?_) (fun h => by cases h))
    | (refine aW_cond (b := false) rfl (fun h => by cases h) (fun _ => ?_))
    | (refine aW_skip ?_)
    | (refine aW_exit ?_)
    | (refine aW_ret ?_)
    | (with_reducible refine nx_normal ?_)
    | (first | (with_reducible refine hN _ _ ?_; clear hN N) | (clear hN N; with_reducible refine hN _ _ ?_; clear hN N) | (clear hN N; clear hN N; with_reducible refine hN _ _ ?_; clear hN N) | (clear hN N; clear hN N; clear hN N; with_reducible refine hN _ _ ?_; clear hN N))
    | (with_reducible refine nx_exit ?_)
    | (with_reducible refine nx_ret ?_)
    | (with_reducible refine ib_normal ?_)
    | (with_reducible refine ib_exit ?_)
    | (with_reducible refine ib_ret ?_)
    | (with_reducible refine ib_exit_ne (by decide) ?_)
    | (with_reducible refine for_exit ?_)
    | (with_reducible refine for_ret ?_)
    | (with_reducible refine forq_exit ?_)
    | (with_reducible refine forq_ret ?_)
    | (with_reducible refine round_exit ?_)
    | (with_reducible refine round_ret ?_))
  exact Body.done rfl (Nat.le_refl _) ⟨rfl, rfl⟩

/-! ### addresses and records -/
structure Ad where
  fam : Int
  b : List Int
  len : b.length = 16
deriving DecidableEq
def acell (a : Ad) : List AV := .int .i64 a.fam :: a.b.map (.int .u8 ·)
theorem acell_len (a : Ad) : (acell a).length = 17 := by simp [acell, a.len]
theorem acell_cons (a : Ad) : ∃ x0 x1 x2 x3 x4 x5 x6 x7 x8 x9 x10 x11 x12 x13 x14 x15, a.b = [x0, x1, x2, x3, x4, x5, x6, x7, x8, x9, x10, x11, x12, x13, x14, x15] := by
  obtain ⟨f, b, h⟩ := a
  match b, h with
  | [x0, x1, x2, x3, x4, x5, x6, x7, x8, x9, x10, x11, x12, x13, x14, x15], _ => exact ⟨_, _, _, _, _, _, _, _, _, _, _, _, _, _, _, _, rfl⟩
theorem acell_take (a : Ad) (r : List AV) : (acell a ++ r).take 17 = acell a := List.take_left' (acell_len a)
theorem acell_drop (a : Ad) (r : List AV) : (acell a ++ r).drop 17 = r := List.drop_left' (acell_len a)
theorem acell_drop18 (a : Ad) (x : AV) (r : List AV) : (acell a ++ x :: r).drop 18 = r := by
  rw [← List.drop_drop (i := 1) (j := 17), acell_drop]; rfl
theorem acell_take19 (a : Ad) (x y : AV) (r : List AV) : (acell a ++ x :: y :: r).take 19 = acell a ++ [x, y] := by
  rw [List.take_append, acell_len, List.take_of_length_le (by rw [acell_len]; decide)]
  rfl
theorem acell_get17 (a : Ad) (x : AV) (r : List AV) : (acell a ++ x :: r)[17]? = some x := by
  rw [List.getElem?_append_right (by rw [acell_len]; decide), acell_len]; rfl
theorem acell_all (a : Ad) : (acell a).all oneC = true := by simp [acell, oneC]
theorem acell_noid (m : Nat → Nat) (a : Ad) : renL m (acell a) = acell a := by
  obtain ⟨x0, x1, x2, x3, x4, x5, x6, x7, x8, x9, x10, x11, x12, x13, x14, x15, h⟩ := acell_cons a
  simp [acell, h, renL, ren]
theorem acell_len2 (a : Ad) (r : List AV) : (acell a ++ r).length = r.length + 17 := by rw [List.length_append, acell_len, Nat.add_comm]
theorem acell_all2 (a : Ad) (r : List AV) : (acell a ++ r).all oneC = r.all oneC := by rw [List.all_append, acell_all, Bool.true_and]
theorem acell_take0 (a : Ad) : (acell a).take 17 = acell a := List.take_of_length_le (by rw [acell_len]; decide)
attribute [go_sem] acell_take acell_drop acell_drop18 acell_take19 acell_get17 acell_all acell_len acell_len2 acell_all2 acell_take0 acell_noid
structure Rc where
  name : List UInt8
  type : Int
  cls : Int
  ttl : Int
  addr : Ad
  target : List UInt8
  data : List UInt8
def rcell (r : Rc) : List AV := .str r.name :: .int .i64 r.type :: .int .i64 r.cls :: .int .i64 r.ttl :: (acell r.addr ++ [.str r.target, .str r.data])
theorem rcell_len (r : Rc) : (rcell r).length = 23 := by simp [rcell, acell_len]
theorem renL_appM (m : Nat → Nat) : ∀ (l l' : List AV), renL m (l ++ l') = renL m l ++ renL m l'
  | [], _ => rfl
  | x :: l, l' => by simp only [List.cons_append, renL, renL_appM m l l']
theorem rcell_noid (m : Nat → Nat) (r : Rc) : renL m (rcell r) = rcell r := by simp only [rcell, renL, ren, renL_appM, acell_noid]
theorem rcell_all (r : Rc) : (rcell r).all oneC = true := by simp [rcell, oneC, acell_all]
def aE : Enc Ad := ⟨acell, 17, acell_len, fun m x => acell_noid m x, acell_all⟩
def rE : Enc Rc := ⟨rcell, 23, rcell_len, fun m x => rcell_noid m x, rcell_all⟩
def sE : Enc (List UInt8) := ⟨fun s => [.str s], 1, fun _ => rfl, fun _ _ => rfl, fun _ => rfl⟩
theorem rE_at (l : List Rc) (i : Nat) (h : i < l.length) : (rE.cells l).drop (i * 23) = .str l[i].name :: .int .i64 l[i].type :: .int .i64 l[i].cls :: .int .i64 l[i].ttl :: (acell l[i].addr ++ .str l[i].target :: .str l[i].data :: rE.cells (l.drop (i + 1))) := by
  have := rE.drop0 l i h
  rw [show rE.f l[i] = rcell l[i] from rfl] at this
  rw [show (23 : Nat) = rE.n from rfl, this, rcell]
  simp
/-- Are two addresses the same? -/
theorem ad_eq (a b : Ad) : (a.fam == b.fam && a.b == b.b) = decide (a = b) := by
  obtain ⟨f, x, hx⟩ := a
  obtain ⟨g, y, hy⟩ := b
  by_cases h1 : f = g <;> by_cases h2 : x = y <;> simp [h1, h2]
theorem aEq_addr (a b : Ad) : aEq Try.prog 30 50 (.agg (acell a)) (.agg (acell b)) = some (decide (a = b)) := by
  rw [← ad_eq]
  obtain ⟨x0, x1, x2, x3, x4, x5, x6, x7, x8, x9, x10, x11, x12, x13, x14, x15, hx⟩ := acell_cons a
  obtain ⟨y0, y1, y2, y3, y4, y5, y6, y7, y8, y9, y10, y11, y12, y13, y14, y15, hy⟩ := acell_cons b
  rw [acell, acell, hx, hy]
  simp [aEq, eqF, eqA, go_sem, List.range, List.range.loop]

theorem setMany_at4 (a b c d : AV) (r v : List AV) (h : r.length = v.length) : setMany (a :: b :: c :: d :: r) 4 v = a :: b :: c :: d :: v := by
  have e1 := setMany_left v [a, b, c, d] r 0
  have e2 := setMany_zero v r [] h
  rw [List.append_nil, List.append_nil] at e2
  rw [e2] at e1
  exact e1
theorem setMany_rc (a b c d e0 e1 e2 e3 e4 e5 e6 e7 e8 e9 e10 e11 e12 e13 e14 e15 e16 e17 e18 : AV) (x : Ad) (t u : AV) : setMany [a, b, c, d, e0, e1, e2, e3, e4, e5, e6, e7, e8, e9, e10, e11, e12, e13, e14, e15, e16, e17, e18] 4 (acell x ++ [t, u]) = a :: b :: c :: d :: (acell x ++ [t, u]) :=
  setMany_at4 a b c d _ _ (by simp [acell_len])
theorem setMany_rc2 (a b c d : AV) (x y : Ad) (t u t' u' : AV) : setMany (a :: b :: c :: d :: (acell y ++ [t', u'])) 4 (acell x ++ [t, u]) = a :: b :: c :: d :: (acell x ++ [t, u]) :=
  setMany_at4 a b c d _ _ (by simp [acell_len])
theorem setMany_ad (e0 e1 e2 e3 e4 e5 e6 e7 e8 e9 e10 e11 e12 e13 e14 e15 e16 : AV) (x : Ad) : setMany [e0, e1, e2, e3, e4, e5, e6, e7, e8, e9, e10, e11, e12, e13, e14, e15, e16] 0 (acell x) = acell x := by
  have e2 := setMany_zero (acell x) [e0, e1, e2, e3, e4, e5, e6, e7, e8, e9, e10, e11, e12, e13, e14, e15, e16] [] (by rw [acell_len]; rfl)
  rw [List.append_nil, List.append_nil] at e2
  exact e2
attribute [go_sem] setMany_rc setMany_rc2 setMany_ad
end Go.Proofs
