/- Contracts of the package's functions, by the walk over abstract values. No condition. -/
import Derived.Test.YtieaamjikcjbeaaM19
namespace Go.Proofs
open Go Go.AH TryTy
set_option linter.unusedSimpArgs false
set_option linter.unusedVariables false
set_option maxRecDepth 10000

set_option maxHeartbeats 4000000 in
theorem aEq_rc (s : List UInt8) (k c t : Int) (a : Ad) (u v : List UInt8) : aEq Try.prog 30 52 (.agg (.str s :: .int .i64 k :: .int .i64 c :: .int .i64 t :: (acell a ++ [.str u, .str v]))) (.agg (.str s :: .int .i64 k :: .int .i64 c :: .int .i64 t :: (acell a ++ [.str u, .str v]))) = some true := by
  obtain ⟨x0, x1, x2, x3, x4, x5, x6, x7, x8, x9, x10, x11, x12, x13, x14, x15, hx⟩ := acell_cons a
  rw [acell, hx]
  simp [aEq, eqF, eqA, go_sem, List.range, List.range.loop]
theorem aEq_qn (s : List UInt8) (k c : Int) : aEq Try.prog 30 63 (.agg [.str s, .int .i64 k, .int .i64 c]) (.agg [.str s, .int .i64 k, .int .i64 c]) = some true := by
  simp [aEq, eqF, eqA, go_sem, List.range, List.range.loop]
theorem sameRs_c (l : List Rc) (hl : l.length ≤ 1000) : ACalls Try.prog 37 [.isl (rE.cells l) l.length, .isl (rE.cells l) l.length] [] (fun r h => r = .ret (.bool true) ∧ h = []) := by
  have hbn : ((l.length : Int) != (l.length : Int)) = false := by simp
  refine acalls_body Try.func37 rfl (by decide +kernel) ?_
  simp only [List.length_nil, List.length_cons, List.length_append, Nat.zero_add, Try.ntmps37, List.replicate, List.cons_append, List.nil_append, List.append_assoc, Nat.reduceSub, Nat.reduceAdd]
  repeat' (first
    | (refine aW_reg fun N hN => ?_; simp (config := {maxSteps := 10000000}) (disch := first | (intro; intros; rename_i h; injection h; done) | omega) only [go_sem, Bool.false_or, Bool.true_or, Bool.or_true, Bool.or_false, Nat.reduceAdd, Nat.reduceSub, Nat.reduceMul, Nat.reduceLT, Nat.reduceLeDiff, Nat.lt_irrefl, Nat.le_refl, List.getElem?_toArray, bne_self_eq_false, Int.le_refl, Int.reduceLE, Int.reduceLT, Int.toNat_zero, Nat.zero_mul, List.all_cons, List.all_nil, Bool.and_self, Bool.and_true, Bool.true_and, Nat.reduceEqDiff, Nat.one_ne_zero, true_and, and_true, and_self, List.drop_succ_cons, List.drop_nil, List.take_succ_cons, List.take_nil, reduceCtorEq, Nat.sub_zero, Option.some.injEq, wrap_i64, wrap_u8, dec_t, dec_f, ite_t, ite_f, Int.toNat_natCast, Int.cast_ofNat_Int, toNat_cast_add, bcells_length, List.length_take, List.length_map, List.length_drop, List.length_append, hbn]; with_reducible refine hN _ _ ?_; clear hN N)
    | (refine aW_reg1 fun N hN => ?_; simp (config := {maxSteps := 10000000}) (disch := first | (intro; intros; rename_i h; injection h; done) | omega) only [go_sem, Bool.false_or, Bool.true_or, Bool.or_true, Bool.or_false, Nat.reduceAdd, Nat.reduceSub, Nat.reduceMul, Nat.reduceLT, Nat.reduceLeDiff, Nat.lt_irrefl, Nat.le_refl, List.getElem?_toArray, bne_self_eq_false, Int.le_refl, Int.reduceLE, Int.reduceLT, Int.toNat_zero, Nat.zero_mul, List.all_cons, List.all_nil, Bool.and_self, Bool.and_true, Bool.true_and, Nat.reduceEqDiff, Nat.one_ne_zero, true_and, and_true, and_self, List.drop_succ_cons, List.drop_nil, List.take_succ_cons, List.take_nil, reduceCtorEq, Nat.sub_zero, Option.some.injEq, wrap_i64, wrap_u8, dec_t, dec_f, ite_t, ite_f, Int.toNat_natCast, Int.cast_ofNat_Int, toNat_cast_add, bcells_length, List.length_take, List.length_map, List.length_drop, List.length_append, hbn]; with_reducible refine hN _ _ ?_; clear hN N)
    | (refine aW_seq_k fun N hN => ?_)
    | (refine aW_block ?_)
    | (refine aW_cond (b := true) rfl (fun _ => ?_) (fun h => by cases h))
    | (refine aW_cond (b := false) rfl (fun h => by cases h) (fun _ => ?_))
    | (refine aW_skip ?_)
    | (refine aW_exit ?_)
    | (with_reducible refine nx_normal ?_)
    | (first | (with_reducible refine hN _ _ ?_; clear hN N) | (clear hN N; with_reducible refine hN _ _ ?_; clear hN N) | (clear hN N; clear hN N; with_reducible refine hN _ _ ?_; clear hN N) | (clear hN N; clear hN N; clear hN N; with_reducible refine hN _ _ ?_; clear hN N))
    | (with_reducible refine nx_exit ?_)
    | (with_reducible refine nx_ret ?_)
    | (with_reducible refine ib_normal ?_)
    | (with_reducible refine ib_exit ?_)
    | (with_reducible refine ib_ret ?_)
    | (with_reducible refine ib_exit_ne (by decide) ?_)
    | (with_reducible refine for_exit ?_)
    | (with_reducible refine for_ret ?_)
    | (with_reducible refine forq_exit ?_)
    | (with_reducible refine forq_ret ?_)
    | (with_reducible refine round_exit ?_)
    | (with_reducible refine round_ret ?_))
  refine aW_for (fun i => ([.isl (rE.cells l) l.length, .isl (rE.cells l) l.length, .unk, .unk, .unk, .int .i64 (i : Int), .unk, .unk, .unk, .unk, .unk, .unk, .unk, .unk, .unk, .unk, .unk, .unk, .unk, .unk, .unk, .unk, .unk, .unk, .unk, .unk], [])) l.length (fun hn => Weak.forget (by simp [LeU]) (by simp)) ?_
  intro i hi _
  simp only
  by_cases hlt : i < l.length
  · have hd := rE_at l i hlt
    have hw1 : IntKind.i64.wrap ((i : Int) + 1) = ((i + 1 : Nat) : Int) := by rw [IntWalk.i64_in _ (by omega)]; simp
    have heq := aEq_rc l[i].name l[i].type l[i].cls l[i].ttl l[i].addr l[i].target l[i].data
    repeat' (first
      | (refine aW_reg fun N hN => ?_; simp (config := {maxSteps := 10000000}) (disch := first | (intro; intros; rename_i h; injection h; done) | omega) only [go_sem, Bool.false_or, Bool.true_or, Bool.or_true, Bool.or_false, Nat.reduceAdd, Nat.reduceSub, Nat.reduceMul, Nat.reduceLT, Nat.reduceLeDiff, Nat.lt_irrefl, Nat.le_refl, List.getElem?_toArray, bne_self_eq_false, Int.le_refl, Int.reduceLE, Int.reduceLT, Int.toNat_zero, Nat.zero_mul, List.all_cons, List.all_nil, Bool.and_self, Bool.and_true, Bool.true_and, Nat.reduceEqDiff, Nat.one_ne_zero, true_and, and_true, and_self, List.drop_succ_cons, List.drop_nil, List.take_succ_cons, List.take_nil, reduceCtorEq, Nat.sub_zero, Option.some.injEq, wrap_i64, wrap_u8, dec_t, dec_f, ite_t, ite_f, Int.toNat_natCast, Int.cast_ofNat_Int, toNat_cast_add, bcells_length, List.length_take, List.length_map, List.length_drop, List.length_append]; with_reducible refine hN _ _ ?_; clear hN N)
      | (refine aW_reg1 fun N hN => ?_; simp (config := {maxSteps := 10000000}) (disch := first | (intro; intros; rename_i h; injection h; done) | omega) only [go_sem, Bool.false_or, Bool.true_or, Bool.or_true, Bool.or_false, Nat.reduceAdd, Nat.reduceSub, Nat.reduceMul, Nat.reduceLT, Nat.reduceLeDiff, Nat.lt_irrefl, Nat.le_refl, List.getElem?_toArray, bne_self_eq_false, Int.le_refl, Int.reduceLE, Int.reduceLT, Int.toNat_zero, Nat.zero_mul, List.all_cons, List.all_nil, Bool.and_self, Bool.and_true, Bool.true_and, Nat.reduceEqDiff, Nat.one_ne_zero, true_and, and_true, and_self, List.drop_succ_cons, List.drop_nil, List.take_succ_cons, List.take_nil, reduceCtorEq, Nat.sub_zero, Option.some.injEq, wrap_i64, wrap_u8, dec_t, dec_f, ite_t, ite_f, Int.toNat_natCast, Int.cast_ofNat_Int, toNat_cast_add, bcells_length, List.length_take, List.length_map, List.length_drop, List.length_append]; with_reducible refine hN _ _ ?_; clear hN N)
      | (refine aW_seq_k fun N hN => ?_)
      | (refine aW_block ?_)
      | (refine aW_cond (b := true) rfl (fun _ => ?_) (fun h => by cases h))
      | (refine aW_cond (b := false) rfl (fun h => by cases h) (fun _ => ?_))
      | (refine aW_skip ?_)
      | (refine aW_exit ?_)
      | (with_reducible refine nx_normal ?_)
      | (first | (with_reducible refine hN _ _ ?_; clear hN N) | (clear hN N; with_reducible refine hN _ _ ?_; clear hN N) | (clear hN N; clear hN N; with_reducible refine hN _ _ ?_; clear hN N) | (clear hN N; clear hN N; clear hN N; with_reducible refine hN _ _ ?_; clear hN N))
      | (with_reducible refine nx_exit ?_)
      | (with_reducible refine nx_ret ?_)
      | (with_reducible refine ib_normal ?_)
      | (with_reducible refine ib_exit ?_)
      | (with_reducible refine ib_ret ?_)
      | (with_reducible refine ib_exit_ne (by decide) ?_)
      | (with_reducible refine for_exit ?_)
      | (with_reducible refine for_ret ?_)
      | (with_reducible refine forq_exit ?_)
      | (with_reducible refine forq_ret ?_)
      | (with_reducible refine round_exit ?_)
      | (with_reducible refine round_ret ?_))
    refine aW_dreg1 mixed ⟨[], [[0, 1, 2, 3, 4, 5, 6, 7, 8]], [[0, 1, 2, 3, 4, 5, 6, 7, 8]], [[], [], [0, 1], [0, 1, 2], [], [], [4, 5], [4, 5, 6], [0, 1, 2, 3, 4, 5, 6, 7]]⟩ (by decide +kernel) fun N hN => ?_
    simp (config := {maxSteps := 10000000}) (disch := first | (intro; intros; rename_i h; injection h; done) | omega) only [go_sem, Bool.false_or, Bool.true_or, Bool.or_true, Bool.or_false, Nat.reduceAdd, Nat.reduceSub, Nat.reduceMul, Nat.reduceLT, Nat.reduceLeDiff, Nat.lt_irrefl, Nat.le_refl, List.getElem?_toArray, bne_self_eq_false, Int.le_refl, Int.reduceLE, Int.reduceLT, Int.toNat_zero, Nat.zero_mul, List.all_cons, List.all_nil, Bool.and_self, Bool.and_true, Bool.true_and, Nat.reduceEqDiff, Nat.one_ne_zero, true_and, and_true, and_self, List.drop_succ_cons, List.drop_nil, List.take_succ_cons, List.take_nil, reduceCtorEq, Nat.sub_zero, Option.some.injEq, wrap_i64, wrap_u8, dec_t, dec_f, ite_t, ite_f, Int.toNat_natCast, Int.cast_ofNat_Int, toNat_cast_add, bcells_length, List.length_take, List.length_map, List.length_drop, List.length_append, hd, ↓heq]
    repeat (first | (with_reducible refine nx_normal ?_) | (with_reducible refine hN _ _ ?_; clear hN N) | (clear hN N; with_reducible refine hN _ _ ?_; clear hN N))
    repeat' (first
      | (refine aW_reg fun N hN => ?_; simp (config := {maxSteps := 10000000}) (disch := first | (intro; intros; rename_i h; injection h; done) | omega) only [go_sem, Bool.false_or, Bool.true_or, Bool.or_true, Bool.or_false, Nat.reduceAdd, Nat.reduceSub, Nat.reduceMul, Nat.reduceLT, Nat.reduceLeDiff, Nat.lt_irrefl, Nat.le_refl, List.getElem?_toArray, bne_self_eq_false, Int.le_refl, Int.reduceLE, Int.reduceLT, Int.toNat_zero, Nat.zero_mul, List.all_cons, List.all_nil, Bool.and_self, Bool.and_true, Bool.true_and, Nat.reduceEqDiff, Nat.one_ne_zero, true_and, and_true, and_self, List.drop_succ_cons, List.drop_nil, List.take_succ_cons, List.take_nil, reduceCtorEq, Nat.sub_zero, Option.some.injEq, wrap_i64, wrap_u8, dec_t, dec_f, ite_t, ite_f, Int.toNat_natCast, Int.cast_ofNat_Int, toNat_cast_add, bcells_length, List.length_take, List.length_map, List.length_drop, List.length_append, hw1]; with_reducible refine hN _ _ ?_; clear hN N)
      | (refine aW_reg1 fun N hN => ?_; simp (config := {maxSteps := 10000000}) (disch := first | (intro; intros; rename_i h; injection h; done) | omega) only [go_sem, Bool.false_or, Bool.true_or, Bool.or_true, Bool.or_false, Nat.reduceAdd, Nat.reduceSub, Nat.reduceMul, Nat.reduceLT, Nat.reduceLeDiff, Nat.lt_irrefl, Nat.le_refl, List.getElem?_toArray, bne_self_eq_false, Int.le_refl, Int.reduceLE, Int.reduceLT, Int.toNat_zero, Nat.zero_mul, List.all_cons, List.all_nil, Bool.and_self, Bool.and_true, Bool.true_and, Nat.reduceEqDiff, Nat.one_ne_zero, true_and, and_true, and_self, List.drop_succ_cons, List.drop_nil, List.take_succ_cons, List.take_nil, reduceCtorEq, Nat.sub_zero, Option.some.injEq, wrap_i64, wrap_u8, dec_t, dec_f, ite_t, ite_f, Int.toNat_natCast, Int.cast_ofNat_Int, toNat_cast_add, bcells_length, List.length_take, List.length_map, List.length_drop, List.length_append, hw1]; with_reducible refine hN _ _ ?_; clear hN N)
      | (refine aW_seq_k fun N hN => ?_)
      | (refine aW_block ?_)
      | (refine aW_cond (b := true) rfl (fun _ => ?_) (fun h => by cases h))
      | (refine aW_cond (b := false) rfl (fun h => by cases h) (fun _ => ?_))
      | (refine aW_skip ?_)
      | (refine aW_exit ?_)
      | (with_reducible refine nx_normal ?_)
      | (first | (with_reducible refine hN _ _ ?_; clear hN N) | (clear hN N; with_reducible refine hN _ _ ?_; clear hN N) | (clear hN N; clear hN N; with_reducible refine hN _ _ ?_; clear hN N) | (clear hN N; clear hN N; clear hN N; with_reducible refine hN _ _ ?_; clear hN N))
      | (with_reducible refine nx_exit ?_)
      | (with_reducible refine nx_ret ?_)
      | (with_reducible refine ib_normal ?_)
      | (with_reducible refine ib_exit ?_)
      | (with_reducible refine ib_ret ?_)
      | (with_reducible refine ib_exit_ne (by decide) ?_)
      | (with_reducible refine for_exit ?_)
      | (with_reducible refine for_ret ?_)
      | (with_reducible refine forq_exit ?_)
      | (with_reducible refine forq_ret ?_)
      | (with_reducible refine round_exit ?_)
      | (with_reducible refine round_ret ?_))
    exact ⟨hlt, _, Weak.forget (by simp [LeU]) (by simp)⟩
  · obtain rfl : i = l.length := by omega
    repeat' (first
      | (refine aW_reg fun N hN => ?_; simp (config := {maxSteps := 10000000}) (disch := first | (intro; intros; rename_i h; injection h; done) | omega) only [go_sem, Bool.false_or, Bool.true_or, Bool.or_true, Bool.or_false, Nat.reduceAdd, Nat.reduceSub, Nat.reduceMul, Nat.reduceLT, Nat.reduceLeDiff, Nat.lt_irrefl, Nat.le_refl, List.getElem?_toArray, bne_self_eq_false, Int.le_refl, Int.reduceLE, Int.reduceLT, Int.toNat_zero, Nat.zero_mul, List.all_cons, List.all_nil, Bool.and_self, Bool.and_true, Bool.true_and, Nat.reduceEqDiff, Nat.one_ne_zero, true_and, and_true, and_self, List.drop_succ_cons, List.drop_nil, List.take_succ_cons, List.take_nil, reduceCtorEq, Nat.sub_zero, Option.some.injEq, wrap_i64, wrap_u8, dec_t, dec_f, ite_t, ite_f, Int.toNat_natCast, Int.cast_ofNat_Int, toNat_cast_add, bcells_length, List.length_take, List.length_map, List.length_drop, List.length_append]; with_reducible refine hN _ _ ?_; clear hN N)
      | (refine aW_reg1 fun N hN => ?_; simp (config := {maxSteps := 10000000}) (disch := first | (intro; intros; rename_i h; injection h; done) | omega) only [go_sem, Bool.false_or, Bool.true_or, Bool.or_true, Bool.or_false, Nat.reduceAdd, Nat.reduceSub, Nat.reduceMul, Nat.reduceLT, Nat.reduceLeDiff, Nat.lt_irrefl, Nat.le_refl, List.getElem?_toArray, bne_self_eq_false, Int.le_refl, Int.reduceLE, Int.reduceLT, Int.toNat_zero, Nat.zero_mul, List.all_cons, List.all_nil, Bool.and_self, Bool.and_true, Bool.true_and, Nat.reduceEqDiff, Nat.one_ne_zero, true_and, and_true, and_self, List.drop_succ_cons, List.drop_nil, List.take_succ_cons, List.take_nil, reduceCtorEq, Nat.sub_zero, Option.some.injEq, wrap_i64, wrap_u8, dec_t, dec_f, ite_t, ite_f, Int.toNat_natCast, Int.cast_ofNat_Int, toNat_cast_add, bcells_length, List.length_take, List.length_map, List.length_drop, List.length_append]; with_reducible refine hN _ _ ?_; clear hN N)
      | (refine aW_seq_k fun N hN => ?_)
      | (refine aW_block ?_)
      | (refine aW_cond (b := true) rfl (fun _ => ?_) (fun h => by cases h))
      | (refine aW_cond (b := false) rfl (fun h => by cases h) (fun _ => ?_))
      | (refine aW_skip ?_)
      | (refine aW_exit ?_)
      | (with_reducible refine nx_normal ?_)
      | (first | (with_reducible refine hN _ _ ?_; clear hN N) | (clear hN N; with_reducible refine hN _ _ ?_; clear hN N) | (clear hN N; clear hN N; with_reducible refine hN _ _ ?_; clear hN N) | (clear hN N; clear hN N; clear hN N; with_reducible refine hN _ _ ?_; clear hN N))
      | (with_reducible refine nx_exit ?_)
      | (with_reducible refine nx_ret ?_)
      | (with_reducible refine ib_normal ?_)
      | (with_reducible refine ib_exit ?_)
      | (with_reducible refine ib_ret ?_)
      | (with_reducible refine ib_exit_ne (by decide) ?_)
      | (with_reducible refine for_exit ?_)
      | (with_reducible refine for_ret ?_)
      | (with_reducible refine forq_exit ?_)
      | (with_reducible refine forq_ret ?_)
      | (with_reducible refine round_exit ?_)
      | (with_reducible refine round_ret ?_))
    refine aW_ret ?_
    repeat' (first | (with_reducible refine nx_ret ?_) | (with_reducible refine ib_ret ?_) | (with_reducible refine for_ret ?_) | (with_reducible refine forq_ret ?_) | (with_reducible refine round_ret ?_))
    exact Body.done rfl (by simp) ⟨rfl, rfl⟩
theorem same0_c : ACalls Try.prog 37 [.nilsl, .nilsl] [] (fun r h => r = .ret (.bool true) ∧ h = []) := (sameRs_c [] (by decide)).le ⟨LeS.nil, LeS.nil, trivial⟩
set_option maxHeartbeats 4000000 in
theorem same9_c (q : Qy) (fl : Int) (l : List Rc) (hl : l.length ≤ 1000) : ACalls Try.prog 27 [.agg (forged q fl l), .agg (forged q fl l)] [] (fun r h => r = .ret (.bool true) ∧ h = []) := by
  have hrs := sameRs_c l hl
  have heq := aEq_qn q.name q.type 1
  simp only [forged]
  refine acalls_body Try.func27 rfl (by decide +kernel) ?_
  simp only [List.length_nil, List.length_cons, List.length_append, Nat.zero_add, Try.ntmps27, List.replicate, List.cons_append, List.nil_append, List.append_assoc, Nat.reduceSub, Nat.reduceAdd]
  repeat' (first
    | (refine aW_reg fun N hN => ?_; simp (config := {maxSteps := 10000000}) (disch := first | (intro; intros; rename_i h; injection h; done) | omega) only [go_sem, Bool.false_or, Bool.true_or, Bool.or_true, Bool.or_false, Nat.reduceAdd, Nat.reduceSub, Nat.reduceMul, Nat.reduceLT, Nat.reduceLeDiff, Nat.lt_irrefl, Nat.le_refl, List.getElem?_toArray, bne_self_eq_false, Int.le_refl, Int.reduceLE, Int.reduceLT, Int.toNat_zero, Nat.zero_mul, List.all_cons, List.all_nil, Bool.and_self, Bool.and_true, Bool.true_and, Nat.reduceEqDiff, Nat.one_ne_zero, true_and, and_true, and_self, List.drop_succ_cons, List.drop_nil, List.take_succ_cons, List.take_nil, reduceCtorEq, Nat.sub_zero, Option.some.injEq, wrap_i64, wrap_u8, dec_t, dec_f, ite_t, ite_f, Int.toNat_natCast, Int.cast_ofNat_Int, toNat_cast_add, bcells_length, List.length_take, List.length_map, List.length_drop, List.length_append, bne_self_eq_false]; with_reducible refine hN _ _ ?_; clear hN N)
    | (refine aW_reg1 fun N hN => ?_; simp (config := {maxSteps := 10000000}) (disch := first | (intro; intros; rename_i h; injection h; done) | omega) only [go_sem, Bool.false_or, Bool.true_or, Bool.or_true, Bool.or_false, Nat.reduceAdd, Nat.reduceSub, Nat.reduceMul, Nat.reduceLT, Nat.reduceLeDiff, Nat.lt_irrefl, Nat.le_refl, List.getElem?_toArray, bne_self_eq_false, Int.le_refl, Int.reduceLE, Int.reduceLT, Int.toNat_zero, Nat.zero_mul, List.all_cons, List.all_nil, Bool.and_self, Bool.and_true, Bool.true_and, Nat.reduceEqDiff, Nat.one_ne_zero, true_and, and_true, and_self, List.drop_succ_cons, List.drop_nil, List.take_succ_cons, List.take_nil, reduceCtorEq, Nat.sub_zero, Option.some.injEq, wrap_i64, wrap_u8, dec_t, dec_f, ite_t, ite_f, Int.toNat_natCast, Int.cast_ofNat_Int, toNat_cast_add, bcells_length, List.length_take, List.length_map, List.length_drop, List.length_append, bne_self_eq_false]; with_reducible refine hN _ _ ?_; clear hN N)
    | (refine aW_seq_k fun N hN => ?_)
    | (refine aW_block ?_)
    | (refine aW_cond (b := true) rfl (fun _ => ?_) (fun h => by cases h))
    | (refine aW_cond (b := false) rfl (fun h => by cases h) (fun _ => ?_))
    | (refine aW_skip ?_)
    | (refine aW_exit ?_)
    | (with_reducible refine nx_normal ?_)
    | (first | (with_reducible refine hN _ _ ?_; clear hN N) | (clear hN N; with_reducible refine hN _ _ ?_; clear hN N) | (clear hN N; clear hN N; with_reducible refine hN _ _ ?_; clear hN N) | (clear hN N; clear hN N; clear hN N; with_reducible refine hN _ _ ?_; clear hN N))
    | (with_reducible refine nx_exit ?_)
    | (with_reducible refine nx_ret ?_)
    | (with_reducible refine ib_normal ?_)
    | (with_reducible refine ib_exit ?_)
    | (with_reducible refine ib_ret ?_)
    | (with_reducible refine ib_exit_ne (by decide) ?_)
    | (with_reducible refine for_exit ?_)
    | (with_reducible refine for_ret ?_)
    | (with_reducible refine forq_exit ?_)
    | (with_reducible refine forq_ret ?_)
    | (with_reducible refine round_exit ?_)
    | (with_reducible refine round_ret ?_))
  refine aW_for (fun i => ((.unk :: .unk :: .ptr 0 0 :: .ptr 1 0 :: .bool false :: .int .i64 (i : Int) :: .unk :: .unk :: .unk :: .unk :: .unk :: .unk :: .unk :: .unk :: .unk :: .unk :: .unk :: .unk :: .unk :: .unk :: .unk :: .unk :: .unk :: .unk :: .unk :: .unk :: .unk :: .unk :: .unk :: .unk :: .unk :: .unk :: .unk :: .unk :: .unk :: .unk :: .unk :: .unk :: .unk :: .unk :: .unk :: .unk :: .unk :: .unk :: .unk :: .unk :: .unk :: .unk :: .unk :: .unk :: .unk :: .unk :: .unk :: .unk :: .unk :: .unk :: .unk :: .unk :: .unk :: .unk :: .unk :: .unk :: .unk :: .unk :: []), [some (.row [.int .i64 q.id, .int .i64 fl, .isl [.str q.name, .int .i64 q.type, .int .i64 1] 1, .isl (rE.cells l) l.length, .nilsl, .nilsl] 27 true), some (.row [.int .i64 q.id, .int .i64 fl, .isl [.str q.name, .int .i64 q.type, .int .i64 1] 1, .isl (rE.cells l) l.length, .nilsl, .nilsl] 27 true)])) 1 (fun hn => Weak.forget (by simp [LeU]) (by simp)) ?_
  intro i hi _
  simp only
  by_cases hlt : i < 1
  · obtain rfl : i = 0 := by omega
    repeat' (first
      | (refine aW_reg fun N hN => ?_; simp (config := {maxSteps := 10000000}) (disch := first | (intro; intros; rename_i h; injection h; done) | omega) only [go_sem, Bool.false_or, Bool.true_or, Bool.or_true, Bool.or_false, Nat.reduceAdd, Nat.reduceSub, Nat.reduceMul, Nat.reduceLT, Nat.reduceLeDiff, Nat.lt_irrefl, Nat.le_refl, List.getElem?_toArray, bne_self_eq_false, Int.le_refl, Int.reduceLE, Int.reduceLT, Int.toNat_zero, Nat.zero_mul, List.all_cons, List.all_nil, Bool.and_self, Bool.and_true, Bool.true_and, Nat.reduceEqDiff, Nat.one_ne_zero, true_and, and_true, and_self, List.drop_succ_cons, List.drop_nil, List.take_succ_cons, List.take_nil, reduceCtorEq, Nat.sub_zero, Option.some.injEq, wrap_i64, wrap_u8, dec_t, dec_f, ite_t, ite_f, Int.toNat_natCast, Int.cast_ofNat_Int, toNat_cast_add, bcells_length, List.length_take, List.length_map, List.length_drop, List.length_append]; with_reducible refine hN _ _ ?_; clear hN N)
      | (refine aW_reg1 fun N hN => ?_; simp (config := {maxSteps := 10000000}) (disch := first | (intro; intros; rename_i h; injection h; done) | omega) only [go_sem, Bool.false_or, Bool.true_or, Bool.or_true, Bool.or_false, Nat.reduceAdd, Nat.reduceSub, Nat.reduceMul, Nat.reduceLT, Nat.reduceLeDiff, Nat.lt_irrefl, Nat.le_refl, List.getElem?_toArray, bne_self_eq_false, Int.le_refl, Int.reduceLE, Int.reduceLT, Int.toNat_zero, Nat.zero_mul, List.all_cons, List.all_nil, Bool.and_self, Bool.and_true, Bool.true_and, Nat.reduceEqDiff, Nat.one_ne_zero, true_and, and_true, and_self, List.drop_succ_cons, List.drop_nil, List.take_succ_cons, List.take_nil, reduceCtorEq, Nat.sub_zero, Option.some.injEq, wrap_i64, wrap_u8, dec_t, dec_f, ite_t, ite_f, Int.toNat_natCast, Int.cast_ofNat_Int, toNat_cast_add, bcells_length, List.length_take, List.length_map, List.length_drop, List.length_append]; with_reducible refine hN _ _ ?_; clear hN N)
      | (refine aW_seq_k fun N hN => ?_)
      | (refine aW_block ?_)
      | (refine aW_cond (b := true) rfl (fun _ => ?_) (fun h => by cases h))
      | (refine aW_cond (b := false) rfl (fun h => by cases h) (fun _ => ?_))
      | (refine aW_skip ?_)
      | (refine aW_exit ?_)
      | (with_reducible refine nx_normal ?_)
      | (first | (with_reducible refine hN _ _ ?_; clear hN N) | (clear hN N; with_reducible refine hN _ _ ?_; clear hN N) | (clear hN N; clear hN N; with_reducible refine hN _ _ ?_; clear hN N) | (clear hN N; clear hN N; clear hN N; with_reducible refine hN _ _ ?_; clear hN N))
      | (with_reducible refine nx_exit ?_)
      | (with_reducible refine nx_ret ?_)
      | (with_reducible refine ib_normal ?_)
      | (with_reducible refine ib_exit ?_)
      | (with_reducible refine ib_ret ?_)
      | (with_reducible refine ib_exit_ne (by decide) ?_)
      | (with_reducible refine for_exit ?_)
      | (with_reducible refine for_ret ?_)
      | (with_reducible refine forq_exit ?_)
      | (with_reducible refine forq_ret ?_)
      | (with_reducible refine round_exit ?_)
      | (with_reducible refine round_ret ?_))
    refine aW_dreg1 mixed ⟨[], [[0, 1, 2, 3, 4, 5, 6, 7, 8, 9, 10]], [[0, 1, 2, 3, 4, 5, 6, 7, 8, 9, 10]], [[], [0], [], [0, 1, 2], [0, 1, 2, 3], [], [5], [], [5, 6, 7], [5, 6, 7, 8], [0, 1, 2, 3, 4, 5, 6, 7, 8, 9]]⟩ (by decide +kernel) fun N hN => ?_
    simp (config := {maxSteps := 10000000}) (disch := first | (intro; intros; rename_i h; injection h; done) | omega) only [go_sem, Bool.false_or, Bool.true_or, Bool.or_true, Bool.or_false, Nat.reduceAdd, Nat.reduceSub, Nat.reduceMul, Nat.reduceLT, Nat.reduceLeDiff, Nat.lt_irrefl, Nat.le_refl, List.getElem?_toArray, bne_self_eq_false, Int.le_refl, Int.reduceLE, Int.reduceLT, Int.toNat_zero, Nat.zero_mul, List.all_cons, List.all_nil, Bool.and_self, Bool.and_true, Bool.true_and, Nat.reduceEqDiff, Nat.one_ne_zero, true_and, and_true, and_self, List.drop_succ_cons, List.drop_nil, List.take_succ_cons, List.take_nil, reduceCtorEq, Nat.sub_zero, Option.some.injEq, wrap_i64, wrap_u8, dec_t, dec_f, ite_t, ite_f, Int.toNat_natCast, Int.cast_ofNat_Int, toNat_cast_add, bcells_length, List.length_take, List.length_map, List.length_drop, List.length_append, ↓heq]
    repeat (first | (with_reducible refine nx_normal ?_) | (with_reducible refine hN _ _ ?_; clear hN N) | (clear hN N; with_reducible refine hN _ _ ?_; clear hN N))
    repeat' (first
      | (refine aW_reg fun N hN => ?_; simp (config := {maxSteps := 10000000}) (disch := first | (intro; intros; rename_i h; injection h; done) | omega) only [go_sem, Bool.false_or, Bool.true_or, Bool.or_true, Bool.or_false, Nat.reduceAdd, Nat.reduceSub, Nat.reduceMul, Nat.reduceLT, Nat.reduceLeDiff, Nat.lt_irrefl, Nat.le_refl, List.getElem?_toArray, bne_self_eq_false, Int.le_refl, Int.reduceLE, Int.reduceLT, Int.toNat_zero, Nat.zero_mul, List.all_cons, List.all_nil, Bool.and_self, Bool.and_true, Bool.true_and, Nat.reduceEqDiff, Nat.one_ne_zero, true_and, and_true, and_self, List.drop_succ_cons, List.drop_nil, List.take_succ_cons, List.take_nil, reduceCtorEq, Nat.sub_zero, Option.some.injEq, wrap_i64, wrap_u8, dec_t, dec_f, ite_t, ite_f, Int.toNat_natCast, Int.cast_ofNat_Int, toNat_cast_add, bcells_length, List.length_take, List.length_map, List.length_drop, List.length_append]; with_reducible refine hN _ _ ?_; clear hN N)
      | (refine aW_reg1 fun N hN => ?_; simp (config := {maxSteps := 10000000}) (disch := first | (intro; intros; rename_i h; injection h; done) | omega) only [go_sem, Bool.false_or, Bool.true_or, Bool.or_true, Bool.or_false, Nat.reduceAdd, Nat.reduceSub, Nat.reduceMul, Nat.reduceLT, Nat.reduceLeDiff, Nat.lt_irrefl, Nat.le_refl, List.getElem?_toArray, bne_self_eq_false, Int.le_refl, Int.reduceLE, Int.reduceLT, Int.toNat_zero, Nat.zero_mul, List.all_cons, List.all_nil, Bool.and_self, Bool.and_true, Bool.true_and, Nat.reduceEqDiff, Nat.one_ne_zero, true_and, and_true, and_self, List.drop_succ_cons, List.drop_nil, List.take_succ_cons, List.take_nil, reduceCtorEq, Nat.sub_zero, Option.some.injEq, wrap_i64, wrap_u8, dec_t, dec_f, ite_t, ite_f, Int.toNat_natCast, Int.cast_ofNat_Int, toNat_cast_add, bcells_length, List.length_take, List.length_map, List.length_drop, List.length_append]; with_reducible refine hN _ _ ?_; clear hN N)
      | (refine aW_seq_k fun N hN => ?_)
      | (refine aW_block ?_)
      | (refine aW_cond (b := true) rfl (fun _ => ?_) (fun h => by cases h))
      | (refine aW_cond (b := false) rfl (fun h => by cases h) (fun _ => ?_))
      | (refine aW_skip ?_)
      | (refine aW_exit ?_)
      | (with_reducible refine nx_normal ?_)
      | (first | (with_reducible refine hN _ _ ?_; clear hN N) | (clear hN N; with_reducible refine hN _ _ ?_; clear hN N) | (clear hN N; clear hN N; with_reducible refine hN _ _ ?_; clear hN N) | (clear hN N; clear hN N; clear hN N; with_reducible refine hN _ _ ?_; clear hN N))
      | (with_reducible refine nx_exit ?_)
      | (with_reducible refine nx_ret ?_)
      | (with_reducible refine ib_normal ?_)
      | (with_reducible refine ib_exit ?_)
      | (with_reducible refine ib_ret ?_)
      | (with_reducible refine ib_exit_ne (by decide) ?_)
      | (with_reducible refine for_exit ?_)
      | (with_reducible refine for_ret ?_)
      | (with_reducible refine forq_exit ?_)
      | (with_reducible refine forq_ret ?_)
      | (with_reducible refine round_exit ?_)
      | (with_reducible refine round_ret ?_))
    exact ⟨by omega, _, Weak.forget (by simp [LeU]) (by simp)⟩
  · obtain rfl : i = 1 := by omega
    repeat' (first
      | (refine aW_reg fun N hN => ?_; simp (config := {maxSteps := 10000000}) (disch := first | (intro; intros; rename_i h; injection h; done) | omega) only [go_sem, Bool.false_or, Bool.true_or, Bool.or_true, Bool.or_false, Nat.reduceAdd, Nat.reduceSub, Nat.reduceMul, Nat.reduceLT, Nat.reduceLeDiff, Nat.lt_irrefl, Nat.le_refl, List.getElem?_toArray, bne_self_eq_false, Int.le_refl, Int.reduceLE, Int.reduceLT, Int.toNat_zero, Nat.zero_mul, List.all_cons, List.all_nil, Bool.and_self, Bool.and_true, Bool.true_and, Nat.reduceEqDiff, Nat.one_ne_zero, true_and, and_true, and_self, List.drop_succ_cons, List.drop_nil, List.take_succ_cons, List.take_nil, reduceCtorEq, Nat.sub_zero, Option.some.injEq, wrap_i64, wrap_u8, dec_t, dec_f, ite_t, ite_f, Int.toNat_natCast, Int.cast_ofNat_Int, toNat_cast_add, bcells_length, List.length_take, List.length_map, List.length_drop, List.length_append]; with_reducible refine hN _ _ ?_; clear hN N)
      | (refine aW_reg1 fun N hN => ?_; simp (config := {maxSteps := 10000000}) (disch := first | (intro; intros; rename_i h; injection h; done) | omega) only [go_sem, Bool.false_or, Bool.true_or, Bool.or_true, Bool.or_false, Nat.reduceAdd, Nat.reduceSub, Nat.reduceMul, Nat.reduceLT, Nat.reduceLeDiff, Nat.lt_irrefl, Nat.le_refl, List.getElem?_toArray, bne_self_eq_false, Int.le_refl, Int.reduceLE, Int.reduceLT, Int.toNat_zero, Nat.zero_mul, List.all_cons, List.all_nil, Bool.and_self, Bool.and_true, Bool.true_and, Nat.reduceEqDiff, Nat.one_ne_zero, true_and, and_true, and_self, List.drop_succ_cons, List.drop_nil, List.take_succ_cons, List.take_nil, reduceCtorEq, Nat.sub_zero, Option.some.injEq, wrap_i64, wrap_u8, dec_t, dec_f, ite_t, ite_f, Int.toNat_natCast, Int.cast_ofNat_Int, toNat_cast_add, bcells_length, List.length_take, List.length_map, List.length_drop, List.length_append]; with_reducible refine hN _ _ ?_; clear hN N)
      | (refine aW_seq_k fun N hN => ?_)
      | (refine aW_block ?_)
      | (refine aW_cond (b := true) rfl (fun _ => ?_) (fun h => by cases h))
      | (refine aW_cond (b := false) rfl (fun h => by cases h) (fun _ => ?_))
      | (refine aW_skip ?_)
      | (refine aW_exit ?_)
      | (with_reducible refine nx_normal ?_)
      | (first | (with_reducible refine hN _ _ ?_; clear hN N) | (clear hN N; with_reducible refine hN _ _ ?_; clear hN N) | (clear hN N; clear hN N; with_reducible refine hN _ _ ?_; clear hN N) | (clear hN N; clear hN N; clear hN N; with_reducible refine hN _ _ ?_; clear hN N))
      | (with_reducible refine nx_exit ?_)
      | (with_reducible refine nx_ret ?_)
      | (with_reducible refine ib_normal ?_)
      | (with_reducible refine ib_exit ?_)
      | (with_reducible refine ib_ret ?_)
      | (with_reducible refine ib_exit_ne (by decide) ?_)
      | (with_reducible refine for_exit ?_)
      | (with_reducible refine for_ret ?_)
      | (with_reducible refine forq_exit ?_)
      | (with_reducible refine forq_ret ?_)
      | (with_reducible refine round_exit ?_)
      | (with_reducible refine round_ret ?_))
    (first | refine aW_reg fun N hN => ?_ | refine aW_reg1 fun N hN => ?_)
    simp (config := {maxSteps := 10000000}) (disch := first | (intro; intros; rename_i h; injection h; done) | omega) only [go_sem, Bool.false_or, Bool.true_or, Bool.or_true, Bool.or_false, Nat.reduceAdd, Nat.reduceSub, Nat.reduceMul, Nat.reduceLT, Nat.reduceLeDiff, Nat.lt_irrefl, Nat.le_refl, List.getElem?_toArray, bne_self_eq_false, Int.le_refl, Int.reduceLE, Int.reduceLT, Int.toNat_zero, Nat.zero_mul, List.all_cons, List.all_nil, Bool.and_self, Bool.and_true, Bool.true_and, Nat.reduceEqDiff, Nat.one_ne_zero, true_and, and_true, and_self, List.drop_succ_cons, List.drop_nil, List.take_succ_cons, List.take_nil, reduceCtorEq, Nat.sub_zero, Option.some.injEq, wrap_i64, wrap_u8, dec_t, dec_f, ite_t, ite_f, Int.toNat_natCast, Int.cast_ofNat_Int, toNat_cast_add, bcells_length, List.length_take, List.length_map, List.length_drop, List.length_append]
    refine hrs.plain (by simp only [renL, ren, rE.ren]) rfl ?_
    simp (config := {maxSteps := 10000000}) (disch := first | (intro; intros; rename_i h; injection h; done) | omega) only [go_sem, Bool.false_or, Bool.true_or, Bool.or_true, Bool.or_false, Nat.reduceAdd, Nat.reduceSub, Nat.reduceMul, Nat.reduceLT, Nat.reduceLeDiff, Nat.lt_irrefl, Nat.le_refl, List.getElem?_toArray, bne_self_eq_false, Int.le_refl, Int.reduceLE, Int.reduceLT, Int.toNat_zero, Nat.zero_mul, List.all_cons, List.all_nil, Bool.and_self, Bool.and_true, Bool.true_and, Nat.reduceEqDiff, Nat.one_ne_zero, true_and, and_true, and_self, List.drop_succ_cons, List.drop_nil, List.take_succ_cons, List.take_nil, reduceCtorEq, Nat.sub_zero, Option.some.injEq, wrap_i64, wrap_u8, dec_t, dec_f, ite_t, ite_f, Int.toNat_natCast, Int.cast_ofNat_Int, toNat_cast_add, bcells_length, List.length_take, List.length_map, List.length_drop, List.length_append]
    refine same0_c.plain rfl rfl ?_
    simp (config := {maxSteps := 10000000}) (disch := first | (intro; intros; rename_i h; injection h; done) | omega) only [go_sem, Bool.false_or, Bool.true_or, Bool.or_true, Bool.or_false, Nat.reduceAdd, Nat.reduceSub, Nat.reduceMul, Nat.reduceLT, Nat.reduceLeDiff, Nat.lt_irrefl, Nat.le_refl, List.getElem?_toArray, bne_self_eq_false, Int.le_refl, Int.reduceLE, Int.reduceLT, Int.toNat_zero, Nat.zero_mul, List.all_cons, List.all_nil, Bool.and_self, Bool.and_true, Bool.true_and, Nat.reduceEqDiff, Nat.one_ne_zero, true_and, and_true, and_self, List.drop_succ_cons, List.drop_nil, List.take_succ_cons, List.take_nil, reduceCtorEq, Nat.sub_zero, Option.some.injEq, wrap_i64, wrap_u8, dec_t, dec_f, ite_t, ite_f, Int.toNat_natCast, Int.cast_ofNat_Int, toNat_cast_add, bcells_length, List.length_take, List.length_map, List.length_drop, List.length_append]
    refine same0_c.plain rfl rfl ?_
    simp (config := {maxSteps := 10000000}) (disch := first | (intro; intros; rename_i h; injection h; done) | omega) only [go_sem, Bool.false_or, Bool.true_or, Bool.or_true, Bool.or_false, Nat.reduceAdd, Nat.reduceSub, Nat.reduceMul, Nat.reduceLT, Nat.reduceLeDiff, Nat.lt_irrefl, Nat.le_refl, List.getElem?_toArray, bne_self_eq_false, Int.le_refl, Int.reduceLE, Int.reduceLT, Int.toNat_zero, Nat.zero_mul, List.all_cons, List.all_nil, Bool.and_self, Bool.and_true, Bool.true_and, Nat.reduceEqDiff, Nat.one_ne_zero, true_and, and_true, and_self, List.drop_succ_cons, List.drop_nil, List.take_succ_cons, List.take_nil, reduceCtorEq, Nat.sub_zero, Option.some.injEq, wrap_i64, wrap_u8, dec_t, dec_f, ite_t, ite_f, Int.toNat_natCast, Int.cast_ofNat_Int, toNat_cast_add, bcells_length, List.length_take, List.length_map, List.length_drop, List.length_append]
    repeat (first | (with_reducible refine nx_normal ?_) | (with_reducible refine hN _ _ ?_; clear hN N) | (clear hN N; with_reducible refine hN _ _ ?_; clear hN N))
    exact aW_ret (Body.keep [] (.bool true) [] rfl rfl trivial (by decide) (by decide) ⟨rfl, rfl⟩)
theorem hd33152 : hdF 33152 = true := by decide
theorem ansF_own (q : Qy) (sv : Int) : ansF q sv q.id 33152 [⟨q.name, q.type, 1⟩] = (sv == q.server) := by
  simp only [ansF, qnF, hd33152, bne_self_eq_false, beq_self_eq_true, Bool.not_false, Bool.and_self, Bool.and_true]
  cases h : sv == q.server <;> simp [bne, h]
theorem ans_f (q : Qy) (hq : q.name.length ≤ 140737488352000) (sv : Int) (l : List Rc) :
    ACalls Try.prog 24 [.agg (qcell q), .int .i64 sv, .agg (forged q 33152 l)] [] (fun r h => r = .ret (.bool (sv == q.server)) ∧ h = []) := by
  have := ans_c q hq sv q.id 33152 [⟨q.name, q.type, 1⟩] (by intro n hn; simp at hn; subst hn; exact hq) l [] []
  rw [ansF_own] at this
  exact this.le ⟨LeS.refl _, LeS.refl _, LeS.agg ⟨LeS.refl _, LeS.refl _, LeS.refl _, LeS.refl _, LeS.nil, LeS.nil, trivial⟩, trivial⟩
set_option maxHeartbeats 4000000 in
theorem forges_c (q : Qy) (hq : q.name.length ≤ 140737488352000) (l : List Rc) (hl : l.length ≤ 140737488351232) (sv : Int) :
    ACalls Try.prog 9 [.agg (qcell q), .isl (rE.cells l) l.length, .int .i64 sv] [] (fun r h => r = .ret (.bool true) ∧ h = []) := by
  have hfew := few_c l 10 (by decide) hl
  have hl10 : (l.take 10).length ≤ 1000 := Nat.le_trans (List.length_take_le ..) (by decide)
  generalize l.take 10 = L at hfew hl10
  have has := as_c q
  have hfo := rforge_c q L
  have hfa := forgeA_c q L hl10
  have hsm := same9_c q 33152 L hl10
  have han := ans_f q hq sv L
  simp only [qcell, forged] at has hfo hfa hsm han
  refine acalls_body Try.func9 rfl (by decide +kernel) ?_
  simp only [List.length_nil, List.length_cons, List.length_append, Nat.zero_add, Try.ntmps9, List.replicate, List.cons_append, List.nil_append, List.append_assoc, Nat.reduceSub, Nat.reduceAdd]
  repeat' (first
    | (refine aW_reg fun N hN => ?_; simp (config := {maxSteps := 10000000}) (disch := first | (intro; intros; rename_i h; injection h; done) | omega) only [go_sem, Bool.false_or, Bool.true_or, Bool.or_true, Bool.or_false, Nat.reduceAdd, Nat.reduceSub, Nat.reduceMul, Nat.reduceLT, Nat.reduceLeDiff, Nat.lt_irrefl, Nat.le_refl, List.getElem?_toArray, bne_self_eq_false, Int.le_refl, Int.reduceLE, Int.reduceLT, Int.toNat_zero, Nat.zero_mul, List.all_cons, List.all_nil, Bool.and_self, Bool.and_true, Bool.true_and, Nat.reduceEqDiff, Nat.one_ne_zero, true_and, and_true, and_self, List.drop_succ_cons, List.drop_nil, List.take_succ_cons, List.take_nil, reduceCtorEq, Nat.sub_zero, Option.some.injEq, wrap_i64, wrap_u8, dec_t, dec_f, ite_t, ite_f, Int.toNat_natCast, Int.cast_ofNat_Int, toNat_cast_add, bcells_length, List.length_take, List.length_map, List.length_drop, List.length_append, qcell]; with_reducible refine hN _ _ ?_; clear hN N)
    | (refine aW_reg1 fun N hN => ?_; simp (config := {maxSteps := 10000000}) (disch := first | (intro; intros; rename_i h; injection h; done) | omega) only [go_sem, Bool.false_or, Bool.true_or, Bool.or_true, Bool.or_false, Nat.reduceAdd, Nat.reduceSub, Nat.reduceMul, Nat.reduceLT, Nat.reduceLeDiff, Nat.lt_irrefl, Nat.le_refl, List.getElem?_toArray, bne_self_eq_false, Int.le_refl, Int.reduceLE, Int.reduceLT, Int.toNat_zero, Nat.zero_mul, List.all_cons, List.all_nil, Bool.and_self, Bool.and_true, Bool.true_and, Nat.reduceEqDiff, Nat.one_ne_zero, true_and, and_true, and_self, List.drop_succ_cons, List.drop_nil, List.take_succ_cons, List.take_nil, reduceCtorEq, Nat.sub_zero, Option.some.injEq, wrap_i64, wrap_u8, dec_t, dec_f, ite_t, ite_f, Int.toNat_natCast, Int.cast_ofNat_Int, toNat_cast_add, bcells_length, List.length_take, List.length_map, List.length_drop, List.length_append, qcell]; with_reducible refine hN _ _ ?_; clear hN N)
    | (refine aW_seq_k fun N hN => ?_)
    | (refine aW_block ?_)
    | (refine aW_cond (b := true) rfl (fun _ => ?_) (fun h => by cases h))
    | (refine aW_cond (b := false) rfl (fun h => by cases h) (fun _ => ?_))
    | (refine aW_skip ?_)
    | (refine aW_exit ?_)
    | (with_reducible refine nx_normal ?_)
    | (first | (with_reducible refine hN _ _ ?_; clear hN N) | (clear hN N; with_reducible refine hN _ _ ?_; clear hN N) | (clear hN N; clear hN N; with_reducible refine hN _ _ ?_; clear hN N) | (clear hN N; clear hN N; clear hN N; with_reducible refine hN _ _ ?_; clear hN N))
    | (with_reducible refine nx_exit ?_)
    | (with_reducible refine nx_ret ?_)
    | (with_reducible refine ib_normal ?_)
    | (with_reducible refine ib_exit ?_)
    | (with_reducible refine ib_ret ?_)
    | (with_reducible refine ib_exit_ne (by decide) ?_)
    | (with_reducible refine for_exit ?_)
    | (with_reducible refine for_ret ?_)
    | (with_reducible refine forq_exit ?_)
    | (with_reducible refine forq_ret ?_)
    | (with_reducible refine round_exit ?_)
    | (with_reducible refine round_ret ?_))
  refine aW_reg1 fun N hN => ?_
  simp (config := {maxSteps := 10000000}) (disch := first | (intro; intros; rename_i h; injection h; done) | omega) only [go_sem, Bool.false_or, Bool.true_or, Bool.or_true, Bool.or_false, Nat.reduceAdd, Nat.reduceSub, Nat.reduceMul, Nat.reduceLT, Nat.reduceLeDiff, Nat.lt_irrefl, Nat.le_refl, List.getElem?_toArray, bne_self_eq_false, Int.le_refl, Int.reduceLE, Int.reduceLT, Int.toNat_zero, Nat.zero_mul, List.all_cons, List.all_nil, Bool.and_self, Bool.and_true, Bool.true_and, Nat.reduceEqDiff, Nat.one_ne_zero, true_and, and_true, and_self, List.drop_succ_cons, List.drop_nil, List.take_succ_cons, List.take_nil, reduceCtorEq, Nat.sub_zero, Option.some.injEq, wrap_i64, wrap_u8, dec_t, dec_f, ite_t, ite_f, Int.toNat_natCast, Int.cast_ofNat_Int, toNat_cast_add, bcells_length, List.length_take, List.length_map, List.length_drop, List.length_append]
  refine hfew.plain (by simp only [renL, ren, rE.ren]) (by simp only [ren, rE.ren]) ?_
  simp (config := {maxSteps := 10000000}) (disch := first | (intro; intros; rename_i h; injection h; done) | omega) only [go_sem, Bool.false_or, Bool.true_or, Bool.or_true, Bool.or_false, Nat.reduceAdd, Nat.reduceSub, Nat.reduceMul, Nat.reduceLT, Nat.reduceLeDiff, Nat.lt_irrefl, Nat.le_refl, List.getElem?_toArray, bne_self_eq_false, Int.le_refl, Int.reduceLE, Int.reduceLT, Int.toNat_zero, Nat.zero_mul, List.all_cons, List.all_nil, Bool.and_self, Bool.and_true, Bool.true_and, Nat.reduceEqDiff, Nat.one_ne_zero, true_and, and_true, and_self, List.drop_succ_cons, List.drop_nil, List.take_succ_cons, List.take_nil, reduceCtorEq, Nat.sub_zero, Option.some.injEq, wrap_i64, wrap_u8, dec_t, dec_f, ite_t, ite_f, Int.toNat_natCast, Int.cast_ofNat_Int, toNat_cast_add, bcells_length, List.length_take, List.length_map, List.length_drop, List.length_append]
  repeat (first | (with_reducible refine nx_normal ?_) | (with_reducible refine hN _ _ ?_; clear hN N) | (clear hN N; with_reducible refine hN _ _ ?_; clear hN N))
  repeat' (first
    | (refine aW_reg fun N hN => ?_; simp (config := {maxSteps := 10000000}) (disch := first | (intro; intros; rename_i h; injection h; done) | omega) only [go_sem, Bool.false_or, Bool.true_or, Bool.or_true, Bool.or_false, Nat.reduceAdd, Nat.reduceSub, Nat.reduceMul, Nat.reduceLT, Nat.reduceLeDiff, Nat.lt_irrefl, Nat.le_refl, List.getElem?_toArray, bne_self_eq_false, Int.le_refl, Int.reduceLE, Int.reduceLT, Int.toNat_zero, Nat.zero_mul, List.all_cons, List.all_nil, Bool.and_self, Bool.and_true, Bool.true_and, Nat.reduceEqDiff, Nat.one_ne_zero, true_and, and_true, and_self, List.drop_succ_cons, List.drop_nil, List.take_succ_cons, List.take_nil, reduceCtorEq, Nat.sub_zero, Option.some.injEq, wrap_i64, wrap_u8, dec_t, dec_f, ite_t, ite_f, Int.toNat_natCast, Int.cast_ofNat_Int, toNat_cast_add, bcells_length, List.length_take, List.length_map, List.length_drop, List.length_append]; with_reducible refine hN _ _ ?_; clear hN N)
    | (refine aW_reg1 fun N hN => ?_; simp (config := {maxSteps := 10000000}) (disch := first | (intro; intros; rename_i h; injection h; done) | omega) only [go_sem, Bool.false_or, Bool.true_or, Bool.or_true, Bool.or_false, Nat.reduceAdd, Nat.reduceSub, Nat.reduceMul, Nat.reduceLT, Nat.reduceLeDiff, Nat.lt_irrefl, Nat.le_refl, List.getElem?_toArray, bne_self_eq_false, Int.le_refl, Int.reduceLE, Int.reduceLT, Int.toNat_zero, Nat.zero_mul, List.all_cons, List.all_nil, Bool.and_self, Bool.and_true, Bool.true_and, Nat.reduceEqDiff, Nat.one_ne_zero, true_and, and_true, and_self, List.drop_succ_cons, List.drop_nil, List.take_succ_cons, List.take_nil, reduceCtorEq, Nat.sub_zero, Option.some.injEq, wrap_i64, wrap_u8, dec_t, dec_f, ite_t, ite_f, Int.toNat_natCast, Int.cast_ofNat_Int, toNat_cast_add, bcells_length, List.length_take, List.length_map, List.length_drop, List.length_append]; with_reducible refine hN _ _ ?_; clear hN N)
    | (refine aW_seq_k fun N hN => ?_)
    | (refine aW_block ?_)
    | (refine aW_cond (b := true) rfl (fun _ => ?_) (fun h => by cases h))
    | (refine aW_cond (b := false) rfl (fun h => by cases h) (fun _ => ?_))
    | (refine aW_skip ?_)
    | (refine aW_exit ?_)
    | (with_reducible refine nx_normal ?_)
    | (first | (with_reducible refine hN _ _ ?_; clear hN N) | (clear hN N; with_reducible refine hN _ _ ?_; clear hN N) | (clear hN N; clear hN N; with_reducible refine hN _ _ ?_; clear hN N) | (clear hN N; clear hN N; clear hN N; with_reducible refine hN _ _ ?_; clear hN N))
    | (with_reducible refine nx_exit ?_)
    | (with_reducible refine nx_ret ?_)
    | (with_reducible refine ib_normal ?_)
    | (with_reducible refine ib_exit ?_)
    | (with_reducible refine ib_ret ?_)
    | (with_reducible refine ib_exit_ne (by decide) ?_)
    | (with_reducible refine for_exit ?_)
    | (with_reducible refine for_ret ?_)
    | (with_reducible refine forq_exit ?_)
    | (with_reducible refine forq_ret ?_)
    | (with_reducible refine round_exit ?_)
    | (with_reducible refine round_ret ?_))
  refine aW_reg1 fun N hN => ?_
  simp (config := {maxSteps := 10000000}) (disch := first | (intro; intros; rename_i h; injection h; done) | omega) only [go_sem, Bool.false_or, Bool.true_or, Bool.or_true, Bool.or_false, Nat.reduceAdd, Nat.reduceSub, Nat.reduceMul, Nat.reduceLT, Nat.reduceLeDiff, Nat.lt_irrefl, Nat.le_refl, List.getElem?_toArray, bne_self_eq_false, Int.le_refl, Int.reduceLE, Int.reduceLT, Int.toNat_zero, Nat.zero_mul, List.all_cons, List.all_nil, Bool.and_self, Bool.and_true, Bool.true_and, Nat.reduceEqDiff, Nat.one_ne_zero, true_and, and_true, and_self, List.drop_succ_cons, List.drop_nil, List.take_succ_cons, List.take_nil, reduceCtorEq, Nat.sub_zero, Option.some.injEq, wrap_i64, wrap_u8, dec_t, dec_f, ite_t, ite_f, Int.toNat_natCast, Int.cast_ofNat_Int, toNat_cast_add, bcells_length, List.length_take, List.length_map, List.length_drop, List.length_append]
  refine hfa.plain (by simp only [renL, ren, rE.ren]) (by simp only [renL, ren, rE.ren]) ?_
  simp (config := {maxSteps := 10000000}) (disch := first | (intro; intros; rename_i h; injection h; done) | omega) only [go_sem, Bool.false_or, Bool.true_or, Bool.or_true, Bool.or_false, Nat.reduceAdd, Nat.reduceSub, Nat.reduceMul, Nat.reduceLT, Nat.reduceLeDiff, Nat.lt_irrefl, Nat.le_refl, List.getElem?_toArray, bne_self_eq_false, Int.le_refl, Int.reduceLE, Int.reduceLT, Int.toNat_zero, Nat.zero_mul, List.all_cons, List.all_nil, Bool.and_self, Bool.and_true, Bool.true_and, Nat.reduceEqDiff, Nat.one_ne_zero, true_and, and_true, and_self, List.drop_succ_cons, List.drop_nil, List.take_succ_cons, List.take_nil, reduceCtorEq, Nat.sub_zero, Option.some.injEq, wrap_i64, wrap_u8, dec_t, dec_f, ite_t, ite_f, Int.toNat_natCast, Int.cast_ofNat_Int, toNat_cast_add, bcells_length, List.length_take, List.length_map, List.length_drop, List.length_append]
  repeat (first | (with_reducible refine nx_normal ?_) | (with_reducible refine hN _ _ ?_; clear hN N) | (clear hN N; with_reducible refine hN _ _ ?_; clear hN N))
  refine aW_dreg mixed ⟨[2, 4, 5, 10, 18], [[0, 1, 3], [], [], [6, 7, 8, 9, 11, 12, 13, 14], [15, 16, 17], [19, 20]], [[0, 1, 3], [0, 3], [0], [6, 7, 8, 9, 11, 12, 13, 14], [11, 12, 13, 14, 15, 16, 17], [19, 20]], [[], [], [1], [], [1, 2, 3], [0, 1, 2, 3, 4], [0, 1, 2, 3, 4, 5], [0, 1, 2, 3, 4, 5, 6], [0, 1, 2, 3, 4, 5, 6], [0, 1, 2, 3, 4, 5, 6], [0, 1, 2, 3, 4, 5, 6, 7, 8, 9], [0, 1, 2, 3, 4, 5, 6], [0, 1, 2, 3, 4, 5, 6], [0, 1, 2, 3, 4, 5, 6, 12], [0, 1, 2, 3, 4, 5, 6, 11, 12, 13], [0, 1, 2, 3, 4, 5, 6, 7, 8, 9, 10, 11, 12, 13, 14], [0, 1, 2, 3, 4, 5, 6, 7, 8, 9, 10, 11, 12, 13, 14, 15], [0, 1, 2, 3, 4, 5, 6, 7, 8, 9, 10, 11, 12, 13, 14, 15, 16], [0, 1, 2, 3, 4, 5, 6, 7, 8, 9, 10, 11, 12, 13, 14, 15, 16, 17], [0, 1, 2, 3, 4, 5, 6, 7, 8, 9, 10, 11, 12, 13, 14, 15, 16, 17, 18], [0, 1, 2, 3, 4, 5, 6, 7, 8, 9, 10, 11, 12, 13, 14, 15, 16, 17, 18, 19]]⟩ (by decide +kernel) fun N hN => ?_
  simp (config := {maxSteps := 10000000}) (disch := first | (intro; intros; rename_i h; injection h; done) | omega) only [go_sem, Bool.false_or, Bool.true_or, Bool.or_true, Bool.or_false, Nat.reduceAdd, Nat.reduceSub, Nat.reduceMul, Nat.reduceLT, Nat.reduceLeDiff, Nat.lt_irrefl, Nat.le_refl, List.getElem?_toArray, bne_self_eq_false, Int.le_refl, Int.reduceLE, Int.reduceLT, Int.toNat_zero, Nat.zero_mul, List.all_cons, List.all_nil, Bool.and_self, Bool.and_true, Bool.true_and, Nat.reduceEqDiff, Nat.one_ne_zero, true_and, and_true, and_self, List.drop_succ_cons, List.drop_nil, List.take_succ_cons, List.take_nil, reduceCtorEq, Nat.sub_zero, Option.some.injEq, wrap_i64, wrap_u8, dec_t, dec_f, ite_t, ite_f, Int.toNat_natCast, Int.cast_ofNat_Int, toNat_cast_add, bcells_length, List.length_take, List.length_map, List.length_drop, List.length_append]
  refine has.plain rfl rfl ?_
  simp (config := {maxSteps := 10000000}) (disch := first | (intro; intros; rename_i h; injection h; done) | omega) only [go_sem, Bool.false_or, Bool.true_or, Bool.or_true, Bool.or_false, Nat.reduceAdd, Nat.reduceSub, Nat.reduceMul, Nat.reduceLT, Nat.reduceLeDiff, Nat.lt_irrefl, Nat.le_refl, List.getElem?_toArray, bne_self_eq_false, Int.le_refl, Int.reduceLE, Int.reduceLT, Int.toNat_zero, Nat.zero_mul, List.all_cons, List.all_nil, Bool.and_self, Bool.and_true, Bool.true_and, Nat.reduceEqDiff, Nat.one_ne_zero, true_and, and_true, and_self, List.drop_succ_cons, List.drop_nil, List.take_succ_cons, List.take_nil, reduceCtorEq, Nat.sub_zero, Option.some.injEq, wrap_i64, wrap_u8, dec_t, dec_f, ite_t, ite_f, Int.toNat_natCast, Int.cast_ofNat_Int, toNat_cast_add, bcells_length, List.length_take, List.length_map, List.length_drop, List.length_append]
  refine hfo.plain (by simp only [renL, ren, rE.ren]) (by simp only [renL, ren, rE.ren]) ?_
  simp (config := {maxSteps := 10000000}) (disch := first | (intro; intros; rename_i h; injection h; done) | omega) only [go_sem, Bool.false_or, Bool.true_or, Bool.or_true, Bool.or_false, Nat.reduceAdd, Nat.reduceSub, Nat.reduceMul, Nat.reduceLT, Nat.reduceLeDiff, Nat.lt_irrefl, Nat.le_refl, List.getElem?_toArray, bne_self_eq_false, Int.le_refl, Int.reduceLE, Int.reduceLT, Int.toNat_zero, Nat.zero_mul, List.all_cons, List.all_nil, Bool.and_self, Bool.and_true, Bool.true_and, Nat.reduceEqDiff, Nat.one_ne_zero, true_and, and_true, and_self, List.drop_succ_cons, List.drop_nil, List.take_succ_cons, List.take_nil, reduceCtorEq, Nat.sub_zero, Option.some.injEq, wrap_i64, wrap_u8, dec_t, dec_f, ite_t, ite_f, Int.toNat_natCast, Int.cast_ofNat_Int, toNat_cast_add, bcells_length, List.length_take, List.length_map, List.length_drop, List.length_append]
  refine hsm.plain (by simp only [renL, ren, rE.ren]) rfl ?_
  simp (config := {maxSteps := 10000000}) (disch := first | (intro; intros; rename_i h; injection h; done) | omega) only [go_sem, Bool.false_or, Bool.true_or, Bool.or_true, Bool.or_false, Nat.reduceAdd, Nat.reduceSub, Nat.reduceMul, Nat.reduceLT, Nat.reduceLeDiff, Nat.lt_irrefl, Nat.le_refl, List.getElem?_toArray, bne_self_eq_false, Int.le_refl, Int.reduceLE, Int.reduceLT, Int.toNat_zero, Nat.zero_mul, List.all_cons, List.all_nil, Bool.and_self, Bool.and_true, Bool.true_and, Nat.reduceEqDiff, Nat.one_ne_zero, true_and, and_true, and_self, List.drop_succ_cons, List.drop_nil, List.take_succ_cons, List.take_nil, reduceCtorEq, Nat.sub_zero, Option.some.injEq, wrap_i64, wrap_u8, dec_t, dec_f, ite_t, ite_f, Int.toNat_natCast, Int.cast_ofNat_Int, toNat_cast_add, bcells_length, List.length_take, List.length_map, List.length_drop, List.length_append]
  refine han.plain (by simp only [renL, ren, rE.ren]) rfl ?_
  simp (config := {maxSteps := 10000000}) (disch := first | (intro; intros; rename_i h; injection h; done) | omega) only [go_sem, Bool.false_or, Bool.true_or, Bool.or_true, Bool.or_false, Nat.reduceAdd, Nat.reduceSub, Nat.reduceMul, Nat.reduceLT, Nat.reduceLeDiff, Nat.lt_irrefl, Nat.le_refl, List.getElem?_toArray, bne_self_eq_false, Int.le_refl, Int.reduceLE, Int.reduceLT, Int.toNat_zero, Nat.zero_mul, List.all_cons, List.all_nil, Bool.and_self, Bool.and_true, Bool.true_and, Nat.reduceEqDiff, Nat.one_ne_zero, true_and, and_true, and_self, List.drop_succ_cons, List.drop_nil, List.take_succ_cons, List.take_nil, reduceCtorEq, Nat.sub_zero, Option.some.injEq, wrap_i64, wrap_u8, dec_t, dec_f, ite_t, ite_f, Int.toNat_natCast, Int.cast_ofNat_Int, toNat_cast_add, bcells_length, List.length_take, List.length_map, List.length_drop, List.length_append, beq_self_eq_true]
  refine lives_c.plain rfl rfl ?_
  simp (config := {maxSteps := 10000000}) (disch := first | (intro; intros; rename_i h; injection h; done) | omega) only [go_sem, Bool.false_or, Bool.true_or, Bool.or_true, Bool.or_false, Nat.reduceAdd, Nat.reduceSub, Nat.reduceMul, Nat.reduceLT, Nat.reduceLeDiff, Nat.lt_irrefl, Nat.le_refl, List.getElem?_toArray, bne_self_eq_false, Int.le_refl, Int.reduceLE, Int.reduceLT, Int.toNat_zero, Nat.zero_mul, List.all_cons, List.all_nil, Bool.and_self, Bool.and_true, Bool.true_and, Nat.reduceEqDiff, Nat.one_ne_zero, true_and, and_true, and_self, List.drop_succ_cons, List.drop_nil, List.take_succ_cons, List.take_nil, reduceCtorEq, Nat.sub_zero, Option.some.injEq, wrap_i64, wrap_u8, dec_t, dec_f, ite_t, ite_f, Int.toNat_natCast, Int.cast_ofNat_Int, toNat_cast_add, bcells_length, List.length_take, List.length_map, List.length_drop, List.length_append]
  repeat (first | (with_reducible refine nx_normal ?_) | (with_reducible refine hN _ _ ?_; clear hN N) | (clear hN N; with_reducible refine hN _ _ ?_; clear hN N))
  exact aW_ret (Body.keep [] (.bool true) [] rfl rfl trivial (by decide) (by decide) ⟨rfl, rfl⟩)
theorem forges_w (q : schQ.Val) (l : (Sch.sl schRc).Val) (sv : (Sch.int .i64).Val) (h1 : schQ.ok q) (h2 : (Sch.sl schRc).ok l) (h3 : (Sch.int .i64).ok sv) :
    ACalls Try.prog 9 [schQ.arg q, (Sch.sl schRc).arg l, (Sch.int .i64).arg sv] [] (fun r h => r = .ret (.bool true) ∧ h = []) := by
  rw [rcs_arg l h2, q_arg]
  have hq : (qOf q).name.length ≤ 140737488351232 := h1.2.1
  exact forges_c (qOf q) (by omega) (rcsOf l) (rcs_ok l h2).1 sv
end Go.Proofs
