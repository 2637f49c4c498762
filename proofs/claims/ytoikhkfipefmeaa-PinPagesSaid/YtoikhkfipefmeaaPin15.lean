/- Contracts of the package's functions, by the walk over abstract values. No condition. -/
import Derived.Test.YtoikhkfipefmeaaPin14
namespace Go.Proofs
open Go Go.AH TryTy
set_option linter.unusedSimpArgs false
set_option linter.unusedVariables false
set_option maxRecDepth 10000

theorem lkeys_c (l : List Pn) (hl : l.length ≤ 1000) :
    ACalls Try.prog 21 [.isl (kE.cells l) l.length, .isl (pE.cells l) l.length] [] (fun r h => r = .ret (.bool true) ∧ h = []) := by
  have hbn : ((l.length : Int) != (l.length : Int)) = false := by simp
  refine acalls_body Try.func21 rfl (by decide +kernel) ?_
  simp only [List.length_nil, List.length_cons, List.length_append, Nat.zero_add, Try.ntmps21, List.replicate, List.cons_append, List.nil_append, List.append_assoc, Nat.reduceSub, Nat.reduceAdd]
  repeat' (first
    | (refine aW_reg fun N hN => ?_; simp (config := {maxSteps := 10000000}) (disch := first | (intro; intros; rename_i h; injection h; done) | omega) only [go_sem, Bool.false_or, Bool.true_or, Bool.or_true, Bool.or_false, Nat.reduceAdd, Nat.reduceSub, Nat.reduceMul, Nat.reduceLT, Nat.reduceLeDiff, Nat.lt_irrefl, Nat.le_refl, List.getElem?_toArray, bne_self_eq_false, Int.le_refl, Int.reduceLE, Int.reduceLT, Int.toNat_zero, Nat.zero_mul, List.all_cons, List.all_nil, Bool.and_self, Bool.and_true, Bool.true_and, Nat.reduceEqDiff, Nat.one_ne_zero, true_and, and_true, and_self, List.drop_succ_cons, List.drop_nil, List.take_succ_cons, List.take_nil, wrap_i64, wrap_u8, dec_t, dec_f, ite_t, ite_f, Int.toNat_natCast, Int.cast_ofNat_Int, toNat_cast_add, bcells_length, List.length_take, List.length_map, List.length_drop, List.length_append, hbn]; with_reducible refine hN _ _ ?_; clear hN N)
    | (refine aW_reg1 fun N hN => ?_; simp (config := {maxSteps := 10000000}) (disch := first | (intro; intros; rename_i h; injection h; done) | omega) only [go_sem, Bool.false_or, Bool.true_or, Bool.or_true, Bool.or_false, Nat.reduceAdd, Nat.reduceSub, Nat.reduceMul, Nat.reduceLT, Nat.reduceLeDiff, Nat.lt_irrefl, Nat.le_refl, List.getElem?_toArray, bne_self_eq_false, Int.le_refl, Int.reduceLE, Int.reduceLT, Int.toNat_zero, Nat.zero_mul, List.all_cons, List.all_nil, Bool.and_self, Bool.and_true, Bool.true_and, Nat.reduceEqDiff, Nat.one_ne_zero, true_and, and_true, and_self, List.drop_succ_cons, List.drop_nil, List.take_succ_cons, List.take_nil, wrap_i64, wrap_u8, dec_t, dec_f, ite_t, ite_f, Int.toNat_natCast, Int.cast_ofNat_Int, toNat_cast_add, bcells_length, List.length_take, List.length_map, List.length_drop, List.length_append, hbn]; with_reducible refine hN _ _ ?_; clear hN N)
    | (refine aW_seq_k fun N hN => ?_)
    | (refine aW_block ?_)
    | (refine aW_cond (b := true) rfl (fun _ => ?_) (fun h => by cases h))
    | (refine aW_cond (b := false) rfl (fun h => by cases h) (fun _ => ?_))
    | (refine aW_skip ?_)
    | (refine aW_exit ?_)
    | (with_reducible refine nx_normal ?_)
    | (first | (with_reducible refine hN _ _ ?_; clear hN N) | (clear hN N; with_reducible refine hN _ _ ?_; clear hN N) | (clear hN N; clear hN N; with_reducible refine hN _ _ ?_; clear hN N) | (clear hN N; clear hN N; clear hN N; with_reducible refine hN _ _ ?_; clear hN N))
    | (with_reducible refine nx_exit ?_)
    | (with_reducible refine nx_ret ?_)
    | (with_reducible refine ib_normal ?_)
    | (with_reducible refine ib_exit ?_)
    | (with_reducible refine ib_ret ?_)
    | (with_reducible refine ib_exit_ne (by decide) ?_)
    | (with_reducible refine for_exit ?_)
    | (with_reducible refine for_ret ?_)
    | (with_reducible refine forq_exit ?_)
    | (with_reducible refine forq_ret ?_)
    | (with_reducible refine round_exit ?_)
    | (with_reducible refine round_ret ?_))
  refine aW_for (fun i => ((.isl (kE.cells l) l.length :: .isl (pE.cells l) l.length :: .unk :: .unk :: .unk :: .int .i64 (i : Int) :: .unk :: .unk :: .unk :: .unk :: .unk :: .unk :: .unk :: .unk :: .unk :: .unk :: .unk :: .unk :: .unk :: .unk :: .unk :: .unk :: .unk :: .unk :: .unk :: .unk :: .unk :: .unk :: .unk :: .unk :: .unk :: .unk :: .unk :: .unk :: .unk :: .unk :: .unk :: .unk :: .unk :: .unk :: .unk :: []), [])) l.length (fun hn => Weak.forget (by simp [LeU]) (by simp)) ?_
  intro i hi _
  simp only
  by_cases hlt : i < l.length
  · have hd : (pE.cells l).drop (i * 3) = .int .i64 l[i].page :: .str l[i].host :: .int .i64 l[i].s :: pE.cells (l.drop (i + 1)) := pcells_at l i hlt
    have hk : (kE.cells l).drop (i * 2) = .int .i64 l[i].page :: .str l[i].host :: kE.cells (l.drop (i + 1)) := kE.drop0 l i hlt
    have hb1 : (l[i].page != l[i].page) = false := by simp
    have hb2 : (l[i].host != l[i].host) = false := by simp
    repeat' (first
      | (refine aW_reg fun N hN => ?_; simp (config := {maxSteps := 10000000}) (disch := first | (intro; intros; rename_i h; injection h; done) | omega) only [go_sem, Bool.false_or, Bool.true_or, Bool.or_true, Bool.or_false, Nat.reduceAdd, Nat.reduceSub, Nat.reduceMul, Nat.reduceLT, Nat.reduceLeDiff, Nat.lt_irrefl, Nat.le_refl, List.getElem?_toArray, bne_self_eq_false, Int.le_refl, Int.reduceLE, Int.reduceLT, Int.toNat_zero, Nat.zero_mul, List.all_cons, List.all_nil, Bool.and_self, Bool.and_true, Bool.true_and, Nat.reduceEqDiff, Nat.one_ne_zero, true_and, and_true, and_self, List.drop_succ_cons, List.drop_nil, List.take_succ_cons, List.take_nil, wrap_i64, wrap_u8, dec_t, dec_f, ite_t, ite_f, Int.toNat_natCast, Int.cast_ofNat_Int, toNat_cast_add, bcells_length, List.length_take, List.length_map, List.length_drop, List.length_append]; with_reducible refine hN _ _ ?_; clear hN N)
      | (refine aW_reg1 fun N hN => ?_; simp (config := {maxSteps := 10000000}) (disch := first | (intro; intros; rename_i h; injection h; done) | omega) only [go_sem, Bool.false_or, Bool.true_or, Bool.or_true, Bool.or_false, Nat.reduceAdd, Nat.reduceSub, Nat.reduceMul, Nat.reduceLT, Nat.reduceLeDiff, Nat.lt_irrefl, Nat.le_refl, List.getElem?_toArray, bne_self_eq_false, Int.le_refl, Int.reduceLE, Int.reduceLT, Int.toNat_zero, Nat.zero_mul, List.all_cons, List.all_nil, Bool.and_self, Bool.and_true, Bool.true_and, Nat.reduceEqDiff, Nat.one_ne_zero, true_and, and_true, and_self, List.drop_succ_cons, List.drop_nil, List.take_succ_cons, List.take_nil, wrap_i64, wrap_u8, dec_t, dec_f, ite_t, ite_f, Int.toNat_natCast, Int.cast_ofNat_Int, toNat_cast_add, bcells_length, List.length_take, List.length_map, List.length_drop, List.length_append]; with_reducible refine hN _ _ ?_; clear hN N)
      | (refine aW_seq_k fun N hN => ?_)
      | (refine aW_block ?_)
      | (refine aW_cond (b := true) rfl (fun _ => ?_) (fun h => by cases h))
      | (refine aW_cond (b := false) rfl (fun h => by cases h) (fun _ => ?_))
      | (refine aW_skip ?_)
      | (refine aW_exit ?_)
      | (with_reducible refine nx_normal ?_)
      | (first | (with_reducible refine hN _ _ ?_; clear hN N) | (clear hN N; with_reducible refine hN _ _ ?_; clear hN N) | (clear hN N; clear hN N; with_reducible refine hN _ _ ?_; clear hN N) | (clear hN N; clear hN N; clear hN N; with_reducible refine hN _ _ ?_; clear hN N))
      | (with_reducible refine nx_exit ?_)
      | (with_reducible refine nx_ret ?_)
      | (with_reducible refine ib_normal ?_)
      | (with_reducible refine ib_exit ?_)
      | (with_reducible refine ib_ret ?_)
      | (with_reducible refine ib_exit_ne (by decide) ?_)
      | (with_reducible refine for_exit ?_)
      | (with_reducible refine for_ret ?_)
      | (with_reducible refine forq_exit ?_)
      | (with_reducible refine forq_ret ?_)
      | (with_reducible refine round_exit ?_)
      | (with_reducible refine round_ret ?_))
    refine aW_dreg1 mixed ⟨[], [[0, 1, 2, 3, 4, 5, 6, 7, 8, 9, 10, 11, 12, 13, 14, 15, 16, 17, 18, 19, 20, 21, 22, 23]], [[0, 1, 2, 3, 4, 5, 6, 7, 8, 9, 10, 11, 12, 13, 14, 15, 16, 17, 18, 19, 20, 21, 22, 23]], [[], [], [0, 1], [0, 1, 2], [0, 1, 2, 3], [], [], [5, 6], [5, 6, 7], [5, 6, 7, 8], [0, 1, 2, 3, 4, 5, 6, 7, 8, 9], [0, 1, 2, 3, 4, 5, 6, 7, 8, 9, 10], [0, 1, 2, 3, 4, 5, 6, 7, 8, 9, 10, 11], [0, 1, 2, 3, 4, 5, 6, 7, 8, 9, 10, 11], [0, 1, 2, 3, 4, 5, 6, 7, 8, 9, 10, 11, 12, 13], [0, 1, 2, 3, 4, 5, 6, 7, 8, 9, 10, 11, 12, 13, 14], [0, 1, 2, 3, 4, 5, 6, 7, 8, 9, 10, 11, 12, 13, 14, 15], [0, 1, 2, 3, 4, 5, 6, 7, 8, 9, 10, 11], [0, 1, 2, 3, 4, 5, 6, 7, 8, 9, 10, 11], [0, 1, 2, 3, 4, 5, 6, 7, 8, 9, 10, 11, 17, 18], [0, 1, 2, 3, 4, 5, 6, 7, 8, 9, 10, 11, 17, 18, 19], [0, 1, 2, 3, 4, 5, 6, 7, 8, 9, 10, 11, 17, 18, 19, 20], [0, 1, 2, 3, 4, 5, 6, 7, 8, 9, 10, 11, 12, 13, 14, 15, 16, 17, 18, 19, 20, 21], [0, 1, 2, 3, 4, 5, 6, 7, 8, 9, 10, 11, 12, 13, 14, 15, 16, 17, 18, 19, 20, 21, 22]]⟩ (by decide +kernel) fun N hN => ?_
    simp (config := {maxSteps := 10000000}) (disch := first | (intro; intros; rename_i h; injection h; done) | omega) only [go_sem, Bool.false_or, Bool.true_or, Bool.or_true, Bool.or_false, Nat.reduceAdd, Nat.reduceSub, Nat.reduceMul, Nat.reduceLT, Nat.reduceLeDiff, Nat.lt_irrefl, Nat.le_refl, List.getElem?_toArray, bne_self_eq_false, Int.le_refl, Int.reduceLE, Int.reduceLT, Int.toNat_zero, Nat.zero_mul, List.all_cons, List.all_nil, Bool.and_self, Bool.and_true, Bool.true_and, Nat.reduceEqDiff, Nat.one_ne_zero, true_and, and_true, and_self, List.drop_succ_cons, List.drop_nil, List.take_succ_cons, List.take_nil, wrap_i64, wrap_u8, dec_t, dec_f, ite_t, ite_f, Int.toNat_natCast, Int.cast_ofNat_Int, toNat_cast_add, bcells_length, List.length_take, List.length_map, List.length_drop, List.length_append, hd, hk, hb1, hb2]
    refine hN _ _ ?_; clear hN N
    repeat' (first
      | (refine aW_reg fun N hN => ?_; simp (config := {maxSteps := 10000000}) (disch := first | (intro; intros; rename_i h; injection h; done) | omega) only [go_sem, Bool.false_or, Bool.true_or, Bool.or_true, Bool.or_false, Nat.reduceAdd, Nat.reduceSub, Nat.reduceMul, Nat.reduceLT, Nat.reduceLeDiff, Nat.lt_irrefl, Nat.le_refl, List.getElem?_toArray, bne_self_eq_false, Int.le_refl, Int.reduceLE, Int.reduceLT, Int.toNat_zero, Nat.zero_mul, List.all_cons, List.all_nil, Bool.and_self, Bool.and_true, Bool.true_and, Nat.reduceEqDiff, Nat.one_ne_zero, true_and, and_true, and_self, List.drop_succ_cons, List.drop_nil, List.take_succ_cons, List.take_nil, wrap_i64, wrap_u8, dec_t, dec_f, ite_t, ite_f, Int.toNat_natCast, Int.cast_ofNat_Int, toNat_cast_add, bcells_length, List.length_take, List.length_map, List.length_drop, List.length_append]; with_reducible refine hN _ _ ?_; clear hN N)
      | (refine aW_reg1 fun N hN => ?_; simp (config := {maxSteps := 10000000}) (disch := first | (intro; intros; rename_i h; injection h; done) | omega) only [go_sem, Bool.false_or, Bool.true_or, Bool.or_true, Bool.or_false, Nat.reduceAdd, Nat.reduceSub, Nat.reduceMul, Nat.reduceLT, Nat.reduceLeDiff, Nat.lt_irrefl, Nat.le_refl, List.getElem?_toArray, bne_self_eq_false, Int.le_refl, Int.reduceLE, Int.reduceLT, Int.toNat_zero, Nat.zero_mul, List.all_cons, List.all_nil, Bool.and_self, Bool.and_true, Bool.true_and, Nat.reduceEqDiff, Nat.one_ne_zero, true_and, and_true, and_self, List.drop_succ_cons, List.drop_nil, List.take_succ_cons, List.take_nil, wrap_i64, wrap_u8, dec_t, dec_f, ite_t, ite_f, Int.toNat_natCast, Int.cast_ofNat_Int, toNat_cast_add, bcells_length, List.length_take, List.length_map, List.length_drop, List.length_append]; with_reducible refine hN _ _ ?_; clear hN N)
      | (refine aW_seq_k fun N hN => ?_)
      | (refine aW_block ?_)
      | (refine aW_cond (b := true) rfl (fun _ => ?_) (fun h => by cases h))
      | (refine aW_cond (b := false) rfl (fun h => by cases h) (fun _ => ?_))
      | (refine aW_skip ?_)
      | (refine aW_exit ?_)
      | (with_reducible refine nx_normal ?_)
      | (first | (with_reducible refine hN _ _ ?_; clear hN N) | (clear hN N; with_reducible refine hN _ _ ?_; clear hN N) | (clear hN N; clear hN N; with_reducible refine hN _ _ ?_; clear hN N) | (clear hN N; clear hN N; clear hN N; with_reducible refine hN _ _ ?_; clear hN N))
      | (with_reducible refine nx_exit ?_)
      | (with_reducible refine nx_ret ?_)
      | (with_reducible refine ib_normal ?_)
      | (with_reducible refine ib_exit ?_)
      | (with_reducible refine ib_ret ?_)
      | (with_reducible refine ib_exit_ne (by decide) ?_)
      | (with_reducible refine for_exit ?_)
      | (with_reducible refine for_ret ?_)
      | (with_reducible refine forq_exit ?_)
      | (with_reducible refine forq_ret ?_)
      | (with_reducible refine round_exit ?_)
      | (with_reducible refine round_ret ?_))
    exact ⟨hlt, _, Weak.forget (by simp [LeU]) (by simp)⟩
  · obtain rfl : i = l.length := by omega
    repeat' (first
      | (refine aW_reg fun N hN => ?_; simp (config := {maxSteps := 10000000}) (disch := first | (intro; intros; rename_i h; injection h; done) | omega) only [go_sem, Bool.false_or, Bool.true_or, Bool.or_true, Bool.or_false, Nat.reduceAdd, Nat.reduceSub, Nat.reduceMul, Nat.reduceLT, Nat.reduceLeDiff, Nat.lt_irrefl, Nat.le_refl, List.getElem?_toArray, bne_self_eq_false, Int.le_refl, Int.reduceLE, Int.reduceLT, Int.toNat_zero, Nat.zero_mul, List.all_cons, List.all_nil, Bool.and_self, Bool.and_true, Bool.true_and, Nat.reduceEqDiff, Nat.one_ne_zero, true_and, and_true, and_self, List.drop_succ_cons, List.drop_nil, List.take_succ_cons, List.take_nil, wrap_i64, wrap_u8, dec_t, dec_f, ite_t, ite_f, Int.toNat_natCast, Int.cast_ofNat_Int, toNat_cast_add, bcells_length, List.length_take, List.length_map, List.length_drop, List.length_append]; with_reducible refine hN _ _ ?_; clear hN N)
      | (refine aW_reg1 fun N hN => ?_; simp (config := {maxSteps := 10000000}) (disch := first | (intro; intros; rename_i h; injection h; done) | omega) only [go_sem, Bool.false_or, Bool.true_or, Bool.or_true, Bool.or_false, Nat.reduceAdd, Nat.reduceSub, Nat.reduceMul, Nat.reduceLT, Nat.reduceLeDiff, Nat.lt_irrefl, Nat.le_refl, List.getElem?_toArray, bne_self_eq_false, Int.le_refl, Int.reduceLE, Int.reduceLT, Int.toNat_zero, Nat.zero_mul, List.all_cons, List.all_nil, Bool.and_self, Bool.and_true, Bool.true_and, Nat.reduceEqDiff, Nat.one_ne_zero, true_and, and_true, and_self, List.drop_succ_cons, List.drop_nil, List.take_succ_cons, List.take_nil, wrap_i64, wrap_u8, dec_t, dec_f, ite_t, ite_f, Int.toNat_natCast, Int.cast_ofNat_Int, toNat_cast_add, bcells_length, List.length_take, List.length_map, List.length_drop, List.length_append]; with_reducible refine hN _ _ ?_; clear hN N)
      | (refine aW_seq_k fun N hN => ?_)
      | (refine aW_block ?_)
      | (refine aW_cond (b := true) rfl (fun _ => ?_) (fun h => by cases h))
      | (refine aW_cond (b := false) rfl (fun h => by cases h) (fun _ => ?_))
      | (refine aW_skip ?_)
      | (refine aW_exit ?_)
      | (with_reducible refine nx_normal ?_)
      | (first | (with_reducible refine hN _ _ ?_; clear hN N) | (clear hN N; with_reducible refine hN _ _ ?_; clear hN N) | (clear hN N; clear hN N; with_reducible refine hN _ _ ?_; clear hN N) | (clear hN N; clear hN N; clear hN N; with_reducible refine hN _ _ ?_; clear hN N))
      | (with_reducible refine nx_exit ?_)
      | (with_reducible refine nx_ret ?_)
      | (with_reducible refine ib_normal ?_)
      | (with_reducible refine ib_exit ?_)
      | (with_reducible refine ib_ret ?_)
      | (with_reducible refine ib_exit_ne (by decide) ?_)
      | (with_reducible refine for_exit ?_)
      | (with_reducible refine for_ret ?_)
      | (with_reducible refine forq_exit ?_)
      | (with_reducible refine forq_ret ?_)
      | (with_reducible refine round_exit ?_)
      | (with_reducible refine round_ret ?_))
    refine aW_ret ?_
    repeat' (first | (with_reducible refine nx_ret ?_) | (with_reducible refine ib_ret ?_) | (with_reducible refine for_ret ?_) | (with_reducible refine forq_ret ?_) | (with_reducible refine round_ret ?_))
    exact Body.done rfl (by simp) ⟨rfl, rfl⟩
end Go.Proofs
