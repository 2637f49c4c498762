/- Contracts of the package's functions, by the walk over abstract values. No condition. -/
import Derived.Test.YtoikhkfipefmeaaPin7
import Derived.Test.YtoikhkfipefmeaaA25
namespace Go.Proofs
open Go Go.AH TryTy
set_option linter.unusedSimpArgs false
set_option linter.unusedVariables false
set_option maxRecDepth 10000

/-- The reference's board: its room, its pins. -/
def bV (room : Int) (l : List Pn) : AV := .agg [.int .i64 room, .isl (pE.cells l) l.length]

theorem rnew_c (room : Int) : ACalls Try.prog 19 [.int .i64 room] [] (fun r h => r = .ret (bV (min (max room 1) 64) []) ∧ h = []) := by
  have e : (if 64 < (if 1 > room then 1 else room) then 64 else (if 1 > room then 1 else room)) = min (max room 1) 64 := by
    simp only [Int.min_def, Int.max_def]
    repeat' split
    all_goals omega
  refine ACalls.weakR (K' := fun r h => r = .ret (.agg [.int .i64 (min (max room 1) 64), .nilsl]) ∧ h = []) ?_ ?_
  · refine acalls_body Try.func19 rfl (by decide +kernel) ?_
    simp only [List.length_nil, List.length_cons, List.length_append, Nat.zero_add, Try.ntmps19, List.replicate, List.cons_append, List.nil_append, List.append_assoc, Nat.reduceSub, Nat.reduceAdd]
    repeat' (first
      | (refine aW_reg fun N hN => ?_; simp (config := {maxSteps := 10000000}) (disch := first | (intro; intros; rename_i h; injection h; done) | omega) only [go_sem, Bool.false_or, Bool.true_or, Bool.or_true, Bool.or_false, Nat.reduceAdd, Nat.reduceSub, Nat.reduceMul, Nat.reduceLT, Nat.reduceLeDiff, Nat.lt_irrefl, Nat.le_refl, List.getElem?_toArray, bne_self_eq_false, Int.le_refl, Int.reduceLE, Int.reduceLT, Int.toNat_zero, Nat.zero_mul, List.all_cons, List.all_nil, Bool.and_self, Bool.and_true, Bool.true_and, Nat.reduceEqDiff, Nat.one_ne_zero, true_and, and_true, and_self, List.drop_succ_cons, List.drop_nil, List.take_succ_cons, List.take_nil, wrap_i64, wrap_u8, dec_t, dec_f, ite_t, ite_f, Int.toNat_natCast, Int.cast_ofNat_Int, toNat_cast_add, bcells_length, List.length_take, List.length_map, List.length_drop, List.length_append, e]; with_reducible refine hN _ _ ?_; clear hN N)
      | (refine aW_reg1 fun N hN => ?_; simp (config := {maxSteps := 10000000}) (disch := first | (intro; intros; rename_i h; injection h; done) | omega) only [go_sem, Bool.false_or, Bool.true_or, Bool.or_true, Bool.or_false, Nat.reduceAdd, Nat.reduceSub, Nat.reduceMul, Nat.reduceLT, Nat.reduceLeDiff, Nat.lt_irrefl, Nat.le_refl, List.getElem?_toArray, bne_self_eq_false, Int.le_refl, Int.reduceLE, Int.reduceLT, Int.toNat_zero, Nat.zero_mul, List.all_cons, List.all_nil, Bool.and_self, Bool.and_true, Bool.true_and, Nat.reduceEqDiff, Nat.one_ne_zero, true_and, and_true, and_self, List.drop_succ_cons, List.drop_nil, List.take_succ_cons, List.take_nil, wrap_i64, wrap_u8, dec_t, dec_f, ite_t, ite_f, Int.toNat_natCast, Int.cast_ofNat_Int, toNat_cast_add, bcells_length, List.length_take, List.length_map, List.length_drop, List.length_append, e]; with_reducible refine hN _ _ ?_; clear hN N)
      | (refine aW_seq_k fun N hN => ?_)
      | (refine aW_block ?_)
      | (refine aW_cond (b := true) rfl (fun _ => ?_) (fun h => by cases h))
      | (refine aW_cond (b := false) rfl (fun h => by cases h) (fun _ => ?_))
      | (refine aW_skip ?_)
      | (refine aW_exit ?_)
      | (with_reducible refine nx_normal ?_)
      | (first | (with_reducible refine hN _ _ ?_; clear hN N) | (clear hN N; with_reducible refine hN _ _ ?_; clear hN N) | (clear hN N; clear hN N; with_reducible refine hN _ _ ?_; clear hN N) | (clear hN N; clear hN N; clear hN N; with_reducible refine hN _ _ ?_; clear hN N))
      | (with_reducible refine nx_exit ?_)
      | (with_reducible refine nx_ret ?_)
      | (with_reducible refine ib_normal ?_)
      | (with_reducible refine ib_exit ?_)
      | (with_reducible refine ib_ret ?_)
      | (with_reducible refine ib_exit_ne (by decide) ?_)
      | (with_reducible refine for_exit ?_)
      | (with_reducible refine for_ret ?_)
      | (with_reducible refine forq_exit ?_)
      | (with_reducible refine forq_ret ?_)
      | (with_reducible refine round_exit ?_)
      | (with_reducible refine round_ret ?_))
    exact aW_ret (Body.keep [] (.agg [.int .i64 (min (max room 1) 64), .nilsl]) [] rfl rfl trivial (by decide) (by decide) ⟨rfl, rfl⟩)
  · rintro R h' ⟨rfl, rfl⟩
    exact ⟨.ret (bV (min (max room 1) 64) []), LeS.agg ⟨LeS.refl _, LeS.nil, trivial⟩, rfl, rfl⟩

theorem rfind_c (room : Int) (l : List Pn) (hl : l.length ≤ 1000) (k : Int) (host : List UInt8) (hh : host.length ≤ 1000) :
    ACalls Try.prog 26 [bV room l, .int .i64 k, .str host] [] (fun r h => r = .ret (.int .i64 (idx (keyIs k (lower host)) l)) ∧ h = []) := by
  have hlow := rlower_c host hh
  refine acalls_body Try.func26 rfl (by decide +kernel) ?_
  simp only [List.length_nil, List.length_cons, List.length_append, Nat.zero_add, Try.ntmps26, List.replicate, List.cons_append, List.nil_append, List.append_assoc, Nat.reduceSub, Nat.reduceAdd]
  repeat' (first
    | (refine aW_reg fun N hN => ?_; simp (config := {maxSteps := 10000000}) (disch := first | (intro; intros; rename_i h; injection h; done) | omega) only [go_sem, Bool.false_or, Bool.true_or, Bool.or_true, Bool.or_false, Nat.reduceAdd, Nat.reduceSub, Nat.reduceMul, Nat.reduceLT, Nat.reduceLeDiff, Nat.lt_irrefl, Nat.le_refl, List.getElem?_toArray, bne_self_eq_false, Int.le_refl, Int.reduceLE, Int.reduceLT, Int.toNat_zero, Nat.zero_mul, List.all_cons, List.all_nil, Bool.and_self, Bool.and_true, Bool.true_and, Nat.reduceEqDiff, Nat.one_ne_zero, true_and, and_true, and_self, List.drop_succ_cons, List.drop_nil, List.take_succ_cons, List.take_nil, wrap_i64, wrap_u8, dec_t, dec_f, ite_t, ite_f, Int.toNat_natCast, Int.cast_ofNat_Int, toNat_cast_add, bcells_length, List.length_take, List.length_map, List.length_drop, List.length_append, bV]; with_reducible refine hN _ _ ?_; clear hN N)
    | (refine aW_reg1 fun N hN => ?_; simp (config := {maxSteps := 10000000}) (disch := first | (intro; intros; rename_i h; injection h; done) | omega) only [go_sem, Bool.false_or, Bool.true_or, Bool.or_true, Bool.or_false, Nat.reduceAdd, Nat.reduceSub, Nat.reduceMul, Nat.reduceLT, Nat.reduceLeDiff, Nat.lt_irrefl, Nat.le_refl, List.getElem?_toArray, bne_self_eq_false, Int.le_refl, Int.reduceLE, Int.reduceLT, Int.toNat_zero, Nat.zero_mul, List.all_cons, List.all_nil, Bool.and_self, Bool.and_true, Bool.true_and, Nat.reduceEqDiff, Nat.one_ne_zero, true_and, and_true, and_self, List.drop_succ_cons, List.drop_nil, List.take_succ_cons, List.take_nil, wrap_i64, wrap_u8, dec_t, dec_f, ite_t, ite_f, Int.toNat_natCast, Int.cast_ofNat_Int, toNat_cast_add, bcells_length, List.length_take, List.length_map, List.length_drop, List.length_append, bV]; with_reducible refine hN _ _ ?_; clear hN N)
    | (refine aW_seq_k fun N hN => ?_)
    | (refine aW_block ?_)
    | (refine aW_cond (b := true) rfl (fun _ => ?_) (fun h => by cases h))
    | (refine aW_cond (b := false) rfl (fun h => by cases h) (fun _ => ?_))
    | (refine aW_skip ?_)
    | (refine aW_exit ?_)
    | (with_reducible refine nx_normal ?_)
    | (first | (with_reducible refine hN _ _ ?_; clear hN N) | (clear hN N; with_reducible refine hN _ _ ?_; clear hN N) | (clear hN N; clear hN N; with_reducible refine hN _ _ ?_; clear hN N) | (clear hN N; clear hN N; clear hN N; with_reducible refine hN _ _ ?_; clear hN N))
    | (with_reducible refine nx_exit ?_)
    | (with_reducible refine nx_ret ?_)
    | (with_reducible refine ib_normal ?_)
    | (with_reducible refine ib_exit ?_)
    | (with_reducible refine ib_ret ?_)
    | (with_reducible refine ib_exit_ne (by decide) ?_)
    | (with_reducible refine for_exit ?_)
    | (with_reducible refine for_ret ?_)
    | (with_reducible refine forq_exit ?_)
    | (with_reducible refine forq_ret ?_)
    | (with_reducible refine round_exit ?_)
    | (with_reducible refine round_ret ?_))
  refine aW_forQ (fun i => ((bV room l :: .int .i64 k :: .str host :: .ptr 0 0 :: .unk :: .unk :: .unk :: .int .i64 (i : Int) :: .unk :: .unk :: .unk :: .unk :: .unk :: .unk :: .unk :: .unk :: .unk :: .unk :: .unk :: .unk :: .unk :: .unk :: .unk :: .unk :: .unk :: .unk :: .unk :: .unk :: .unk :: .unk :: .unk :: .unk :: .unk :: .unk :: .unk :: []), [some (.row [.int .i64 room, .isl (pE.cells l) l.length] 43 true)])) (fun i => ∀ j (hj : j < i) (hl : j < l.length), keyIs k (lower host) l[j] = false) l.length (fun hn => Weak.forget (by simp [LeU, bV]) (by simp)) (by omega) ?_
  intro i hi hno _
  simp only
  by_cases hlt : i < l.length
  · have hd : (pE.cells l).drop (i * 3) = .int .i64 l[i].page :: .str l[i].host :: .int .i64 l[i].s :: pE.cells (l.drop (i + 1)) := pcells_at l i hlt
    have hpl : (pE.cells l).length = l.length * 3 := pE.length l
    repeat' (first
      | (refine aW_reg fun N hN => ?_; simp (config := {maxSteps := 10000000}) (disch := first | (intro; intros; rename_i h; injection h; done) | omega) only [go_sem, Bool.false_or, Bool.true_or, Bool.or_true, Bool.or_false, Nat.reduceAdd, Nat.reduceSub, Nat.reduceMul, Nat.reduceLT, Nat.reduceLeDiff, Nat.lt_irrefl, Nat.le_refl, List.getElem?_toArray, bne_self_eq_false, Int.le_refl, Int.reduceLE, Int.reduceLT, Int.toNat_zero, Nat.zero_mul, List.all_cons, List.all_nil, Bool.and_self, Bool.and_true, Bool.true_and, Nat.reduceEqDiff, Nat.one_ne_zero, true_and, and_true, and_self, List.drop_succ_cons, List.drop_nil, List.take_succ_cons, List.take_nil, wrap_i64, wrap_u8, dec_t, dec_f, ite_t, ite_f, Int.toNat_natCast, Int.cast_ofNat_Int, toNat_cast_add, bcells_length, List.length_take, List.length_map, List.length_drop, List.length_append]; with_reducible refine hN _ _ ?_; clear hN N)
      | (refine aW_reg1 fun N hN => ?_; simp (config := {maxSteps := 10000000}) (disch := first | (intro; intros; rename_i h; injection h; done) | omega) only [go_sem, Bool.false_or, Bool.true_or, Bool.or_true, Bool.or_false, Nat.reduceAdd, Nat.reduceSub, Nat.reduceMul, Nat.reduceLT, Nat.reduceLeDiff, Nat.lt_irrefl, Nat.le_refl, List.getElem?_toArray, bne_self_eq_false, Int.le_refl, Int.reduceLE, Int.reduceLT, Int.toNat_zero, Nat.zero_mul, List.all_cons, List.all_nil, Bool.and_self, Bool.and_true, Bool.true_and, Nat.reduceEqDiff, Nat.one_ne_zero, true_and, and_true, and_self, List.drop_succ_cons, List.drop_nil, List.take_succ_cons, List.take_nil, wrap_i64, wrap_u8, dec_t, dec_f, ite_t, ite_f, Int.toNat_natCast, Int.cast_ofNat_Int, toNat_cast_add, bcells_length, List.length_take, List.length_map, List.length_drop, List.length_append]; with_reducible refine hN _ _ ?_; clear hN N)
      | (refine aW_seq_k fun N hN => ?_)
      | (refine aW_block ?_)
      | (refine aW_cond (b := true) rfl (fun _ => ?_) (fun h => by cases h))
      | (refine aW_cond (b := false) rfl (fun h => by cases h) (fun _ => ?_))
      | (refine aW_skip ?_)
      | (refine aW_exit ?_)
      | (with_reducible refine nx_normal ?_)
      | (first | (with_reducible refine hN _ _ ?_; clear hN N) | (clear hN N; with_reducible refine hN _ _ ?_; clear hN N) | (clear hN N; clear hN N; with_reducible refine hN _ _ ?_; clear hN N) | (clear hN N; clear hN N; clear hN N; with_reducible refine hN _ _ ?_; clear hN N))
      | (with_reducible refine nx_exit ?_)
      | (with_reducible refine nx_ret ?_)
      | (with_reducible refine ib_normal ?_)
      | (with_reducible refine ib_exit ?_)
      | (with_reducible refine ib_ret ?_)
      | (with_reducible refine ib_exit_ne (by decide) ?_)
      | (with_reducible refine for_exit ?_)
      | (with_reducible refine for_ret ?_)
      | (with_reducible refine forq_exit ?_)
      | (with_reducible refine forq_ret ?_)
      | (with_reducible refine round_exit ?_)
      | (with_reducible refine round_ret ?_))
    cases hp : l[i].page == k <;> cases hq : l[i].host == lower host
    all_goals
      refine aW_dreg1 mixed ⟨[16], [[0, 1, 2, 3, 4, 5, 6, 7, 8, 9, 10, 11, 12, 13, 14, 15], [17, 18]], [[0, 1, 2, 3, 4, 5, 6, 7, 8, 9, 10, 11, 12, 13, 14, 15], [9, 10, 11, 12, 13, 14, 17, 18]], [[], [0], [], [0, 1, 2], [0, 1, 2, 3], [0, 1, 2, 3, 4], [], [0, 1, 2, 3, 4, 5, 6], [0, 1, 2, 3, 4, 5, 6, 7], [0, 1, 2, 3, 4, 5, 6, 7, 8], [0, 1, 2, 3, 4, 5, 6, 7, 8, 9], [0, 1, 2, 3, 4, 5, 6, 7, 8], [0, 1, 2, 3, 4, 5, 6, 7, 8, 9, 10, 11], [0, 1, 2, 3, 4, 5, 6, 7, 8, 9, 10, 11, 12], [0, 1, 2, 3, 4, 5, 6, 7, 8, 9, 10, 11, 12, 13], [0, 1, 2, 3, 4, 5, 6, 7, 8], [0, 1, 2, 3, 4, 5, 6, 7, 8, 15], [0, 1, 2, 3, 4, 5, 6, 7, 8, 9, 10, 11, 12, 13, 14, 15, 16], [0, 1, 2, 3, 4, 5, 6, 7, 8, 9, 10, 11, 12, 13, 14, 15, 16, 17]]⟩ (by decide +kernel) fun N hN => ?_
      simp (config := {maxSteps := 10000000}) (disch := first | (intro; intros; rename_i h; injection h; done) | omega) only [go_sem, Bool.false_or, Bool.true_or, Bool.or_true, Bool.or_false, Nat.reduceAdd, Nat.reduceSub, Nat.reduceMul, Nat.reduceLT, Nat.reduceLeDiff, Nat.lt_irrefl, Nat.le_refl, List.getElem?_toArray, bne_self_eq_false, Int.le_refl, Int.reduceLE, Int.reduceLT, Int.toNat_zero, Nat.zero_mul, List.all_cons, List.all_nil, Bool.and_self, Bool.and_true, Bool.true_and, Nat.reduceEqDiff, Nat.one_ne_zero, true_and, and_true, and_self, List.drop_succ_cons, List.drop_nil, List.take_succ_cons, List.take_nil, wrap_i64, wrap_u8, dec_t, dec_f, ite_t, ite_f, Int.toNat_natCast, Int.cast_ofNat_Int, toNat_cast_add, bcells_length, List.length_take, List.length_map, List.length_drop, List.length_append, hp, hd]
      try (refine hlow.plain rfl rfl ?_)
      try (simp (config := {maxSteps := 10000000}) (disch := first | (intro; intros; rename_i h; injection h; done) | omega) only [go_sem, Bool.false_or, Bool.true_or, Bool.or_true, Bool.or_false, Nat.reduceAdd, Nat.reduceSub, Nat.reduceMul, Nat.reduceLT, Nat.reduceLeDiff, Nat.lt_irrefl, Nat.le_refl, List.getElem?_toArray, bne_self_eq_false, Int.le_refl, Int.reduceLE, Int.reduceLT, Int.toNat_zero, Nat.zero_mul, List.all_cons, List.all_nil, Bool.and_self, Bool.and_true, Bool.true_and, Nat.reduceEqDiff, Nat.one_ne_zero, true_and, and_true, and_self, List.drop_succ_cons, List.drop_nil, List.take_succ_cons, List.take_nil, wrap_i64, wrap_u8, dec_t, dec_f, ite_t, ite_f, Int.toNat_natCast, Int.cast_ofNat_Int, toNat_cast_add, bcells_length, List.length_take, List.length_map, List.length_drop, List.length_append, hp, hq, hd])
      refine hN _ _ ?_; clear hN N
      repeat' (first
        | (refine aW_reg fun N hN => ?_; simp (config := {maxSteps := 10000000}) (disch := first | (intro; intros; rename_i h; injection h; done) | omega) only [go_sem, Bool.false_or, Bool.true_or, Bool.or_true, Bool.or_false, Nat.reduceAdd, Nat.reduceSub, Nat.reduceMul, Nat.reduceLT, Nat.reduceLeDiff, Nat.lt_irrefl, Nat.le_refl, List.getElem?_toArray, bne_self_eq_false, Int.le_refl, Int.reduceLE, Int.reduceLT, Int.toNat_zero, Nat.zero_mul, List.all_cons, List.all_nil, Bool.and_self, Bool.and_true, Bool.true_and, Nat.reduceEqDiff, Nat.one_ne_zero, true_and, and_true, and_self, List.drop_succ_cons, List.drop_nil, List.take_succ_cons, List.take_nil, wrap_i64, wrap_u8, dec_t, dec_f, ite_t, ite_f, Int.toNat_natCast, Int.cast_ofNat_Int, toNat_cast_add, bcells_length, List.length_take, List.length_map, List.length_drop, List.length_append]; with_reducible refine hN _ _ ?_; clear hN N)
        | (refine aW_reg1 fun N hN => ?_; simp (config := {maxSteps := 10000000}) (disch := first | (intro; intros; rename_i h; injection h; done) | omega) only [go_sem, Bool.false_or, Bool.true_or, Bool.or_true, Bool.or_false, Nat.reduceAdd, Nat.reduceSub, Nat.reduceMul, Nat.reduceLT, Nat.reduceLeDiff, Nat.lt_irrefl, Nat.le_refl, List.getElem?_toArray, bne_self_eq_false, Int.le_refl, Int.reduceLE, Int.reduceLT, Int.toNat_zero, Nat.zero_mul, List.all_cons, List.all_nil, Bool.and_self, Bool.and_true, Bool.true_and, Nat.reduceEqDiff, Nat.one_ne_zero, true_and, and_true, and_self, List.drop_succ_cons, List.drop_nil, List.take_succ_cons, List.take_nil, wrap_i64, wrap_u8, dec_t, dec_f, ite_t, ite_f, Int.toNat_natCast, Int.cast_ofNat_Int, toNat_cast_add, bcells_length, List.length_take, List.length_map, List.length_drop, List.length_append]; with_reducible refine hN _ _ ?_; clear hN N)
        | (refine aW_seq_k fun N hN => ?_)
        | (refine aW_block ?_)
        | (refine aW_cond (b := true) rfl (fun _ => ?_) (fun h => by cases h))
        | (refine aW_cond (b := false) rfl (fun h => by cases h) (fun _ => ?_))
        | (refine aW_skip ?_)
        | (refine aW_exit ?_)
        | (with_reducible refine nx_normal ?_)
        | (first | (with_reducible refine hN _ _ ?_; clear hN N) | (clear hN N; with_reducible refine hN _ _ ?_; clear hN N) | (clear hN N; clear hN N; with_reducible refine hN _ _ ?_; clear hN N) | (clear hN N; clear hN N; clear hN N; with_reducible refine hN _ _ ?_; clear hN N))
        | (with_reducible refine nx_exit ?_)
        | (with_reducible refine nx_ret ?_)
        | (with_reducible refine ib_normal ?_)
        | (with_reducible refine ib_exit ?_)
        | (with_reducible refine ib_ret ?_)
        | (with_reducible refine ib_exit_ne (by decide) ?_)
        | (with_reducible refine for_exit ?_)
        | (with_reducible refine for_ret ?_)
        | (with_reducible refine forq_exit ?_)
        | (with_reducible refine forq_ret ?_)
        | (with_reducible refine round_exit ?_)
        | (with_reducible refine round_ret ?_))
    iterate 3
      refine ⟨hlt, fun j hj hjl => ?_, _, Weak.forget (by simp [LeU, bV]) (by simp)⟩
      rcases Nat.lt_or_ge j i with c | c
      · exact hno j c hjl
      · obtain rfl : j = i := by omega
        simp only [beq_iff_eq, beq_eq_false_iff_ne, ne_eq] at hp hq
        simp [keyIs, hp, hq]
    refine aW_ret ?_
    repeat' (first | (with_reducible refine nx_ret ?_) | (with_reducible refine ib_ret ?_) | (with_reducible refine for_ret ?_) | (with_reducible refine forq_ret ?_) | (with_reducible refine round_ret ?_))
    refine Body.keep [] (.int .i64 (idx (keyIs k (lower host)) l)) [] rfl ?_ trivial (by decide) (by decide) ⟨rfl, rfl⟩
    rw [idx_some hlt (by simp only [beq_iff_eq, beq_eq_false_iff_ne, ne_eq] at hp hq; simp [keyIs, hp, hq]) fun j hj => hno j hj (by omega)]
    rfl
  · obtain rfl : i = l.length := by omega
    repeat' (first
      | (refine aW_reg fun N hN => ?_; simp (config := {maxSteps := 10000000}) (disch := first | (intro; intros; rename_i h; injection h; done) | omega) only [go_sem, Bool.false_or, Bool.true_or, Bool.or_true, Bool.or_false, Nat.reduceAdd, Nat.reduceSub, Nat.reduceMul, Nat.reduceLT, Nat.reduceLeDiff, Nat.lt_irrefl, Nat.le_refl, List.getElem?_toArray, bne_self_eq_false, Int.le_refl, Int.reduceLE, Int.reduceLT, Int.toNat_zero, Nat.zero_mul, List.all_cons, List.all_nil, Bool.and_self, Bool.and_true, Bool.true_and, Nat.reduceEqDiff, Nat.one_ne_zero, true_and, and_true, and_self, List.drop_succ_cons, List.drop_nil, List.take_succ_cons, List.take_nil, wrap_i64, wrap_u8, dec_t, dec_f, ite_t, ite_f, Int.toNat_natCast, Int.cast_ofNat_Int, toNat_cast_add, bcells_length, List.length_take, List.length_map, List.length_drop, List.length_append]; with_reducible refine hN _ _ ?_; clear hN N)
      | (refine aW_reg1 fun N hN => ?_; simp (config := {maxSteps := 10000000}) (disch := first | (intro; intros; rename_i h; injection h; done) | omega) only [go_sem, Bool.false_or, Bool.true_or, Bool.or_true, Bool.or_false, Nat.reduceAdd, Nat.reduceSub, Nat.reduceMul, Nat.reduceLT, Nat.reduceLeDiff, Nat.lt_irrefl, Nat.le_refl, List.getElem?_toArray, bne_self_eq_false, Int.le_refl, Int.reduceLE, Int.reduceLT, Int.toNat_zero, Nat.zero_mul, List.all_cons, List.all_nil, Bool.and_self, Bool.and_true, Bool.true_and, Nat.reduceEqDiff, Nat.one_ne_zero, true_and, and_true, and_self, List.drop_succ_cons, List.drop_nil, List.take_succ_cons, List.take_nil, wrap_i64, wrap_u8, dec_t, dec_f, ite_t, ite_f, Int.toNat_natCast, Int.cast_ofNat_Int, toNat_cast_add, bcells_length, List.length_take, List.length_map, List.length_drop, List.length_append]; with_reducible refine hN _ _ ?_; clear hN N)
      | (refine aW_seq_k fun N hN => ?_)
      | (refine aW_block ?_)
      | (refine aW_cond (b := true) rfl (fun _ => ?_) (fun h => by cases h))
      | (refine aW_cond (b := false) rfl (fun h => by cases h) (fun _ => ?_))
      | (refine aW_skip ?_)
      | (refine aW_exit ?_)
      | (with_reducible refine nx_normal ?_)
      | (first | (with_reducible refine hN _ _ ?_; clear hN N) | (clear hN N; with_reducible refine hN _ _ ?_; clear hN N) | (clear hN N; clear hN N; with_reducible refine hN _ _ ?_; clear hN N) | (clear hN N; clear hN N; clear hN N; with_reducible refine hN _ _ ?_; clear hN N))
      | (with_reducible refine nx_exit ?_)
      | (with_reducible refine nx_ret ?_)
      | (with_reducible refine ib_normal ?_)
      | (with_reducible refine ib_exit ?_)
      | (with_reducible refine ib_ret ?_)
      | (with_reducible refine ib_exit_ne (by decide) ?_)
      | (with_reducible refine for_exit ?_)
      | (with_reducible refine for_ret ?_)
      | (with_reducible refine forq_exit ?_)
      | (with_reducible refine forq_ret ?_)
      | (with_reducible refine round_exit ?_)
      | (with_reducible refine round_ret ?_))
    refine aW_ret ?_
    repeat' (first | (with_reducible refine nx_ret ?_) | (with_reducible refine ib_ret ?_) | (with_reducible refine for_ret ?_) | (with_reducible refine forq_ret ?_) | (with_reducible refine round_ret ?_))
    refine Body.keep [] (.int .i64 (idx (keyIs k (lower host)) l)) [] rfl ?_ trivial (by decide) (by decide) ⟨rfl, rfl⟩
    rw [idx_none fun j hj => hno j hj hj]
    rfl

theorem rget_c (room : Int) (l : List Pn) (hl : l.length ≤ 1000) (k : Int) (host : List UInt8) (hh : host.length ≤ 1000) :
    ACalls Try.prog 27 [bV room l, .int .i64 k, .str host] [] (fun r h => r = .ret (.tup [.int .i64 (pGet l k host).1, .bool (pGet l k host).2]) ∧ h = []) := by
  have hf := rfind_c room l hl k host hh
  refine acalls_body Try.func27 rfl (by decide +kernel) ?_
  simp only [List.length_nil, List.length_cons, List.length_append, Nat.zero_add, Try.ntmps27, List.replicate, List.cons_append, List.nil_append, List.append_assoc, Nat.reduceSub, Nat.reduceAdd]
  repeat' (first
    | (refine aW_reg fun N hN => ?_; simp (config := {maxSteps := 10000000}) (disch := first | (intro; intros; rename_i h; injection h; done) | omega) only [go_sem, Bool.false_or, Bool.true_or, Bool.or_true, Bool.or_false, Nat.reduceAdd, Nat.reduceSub, Nat.reduceMul, Nat.reduceLT, Nat.reduceLeDiff, Nat.lt_irrefl, Nat.le_refl, List.getElem?_toArray, bne_self_eq_false, Int.le_refl, Int.reduceLE, Int.reduceLT, Int.toNat_zero, Nat.zero_mul, List.all_cons, List.all_nil, Bool.and_self, Bool.and_true, Bool.true_and, Nat.reduceEqDiff, Nat.one_ne_zero, true_and, and_true, and_self, List.drop_succ_cons, List.drop_nil, List.take_succ_cons, List.take_nil, wrap_i64, wrap_u8, dec_t, dec_f, ite_t, ite_f, Int.toNat_natCast, Int.cast_ofNat_Int, toNat_cast_add, bcells_length, List.length_take, List.length_map, List.length_drop, List.length_append, bV]; with_reducible refine hN _ _ ?_; clear hN N)
    | (refine aW_reg1 fun N hN => ?_; simp (config := {maxSteps := 10000000}) (disch := first | (intro; intros; rename_i h; injection h; done) | omega) only [go_sem, Bool.false_or, Bool.true_or, Bool.or_true, Bool.or_false, Nat.reduceAdd, Nat.reduceSub, Nat.reduceMul, Nat.reduceLT, Nat.reduceLeDiff, Nat.lt_irrefl, Nat.le_refl, List.getElem?_toArray, bne_self_eq_false, Int.le_refl, Int.reduceLE, Int.reduceLT, Int.toNat_zero, Nat.zero_mul, List.all_cons, List.all_nil, Bool.and_self, Bool.and_true, Bool.true_and, Nat.reduceEqDiff, Nat.one_ne_zero, true_and, and_true, and_self, List.drop_succ_cons, List.drop_nil, List.take_succ_cons, List.take_nil, wrap_i64, wrap_u8, dec_t, dec_f, ite_t, ite_f, Int.toNat_natCast, Int.cast_ofNat_Int, toNat_cast_add, bcells_length, List.length_take, List.length_map, List.length_drop, List.length_append, bV]; with_reducible refine hN _ _ ?_; clear hN N)
    | (refine aW_seq_k fun N hN => ?_)
    | (refine aW_block ?_)
    | (refine aW_cond (b := true) rfl (fun _ => ?_) (fun h => by cases h))
    | (refine aW_cond (b := false) rfl (fun h => by cases h) (fun _ => ?_))
    | (refine aW_skip ?_)
    | (refine aW_exit ?_)
    | (with_reducible refine nx_normal ?_)
    | (first | (with_reducible refine hN _ _ ?_; clear hN N) | (clear hN N; with_reducible refine hN _ _ ?_; clear hN N) | (clear hN N; clear hN N; with_reducible refine hN _ _ ?_; clear hN N) | (clear hN N; clear hN N; clear hN N; with_reducible refine hN _ _ ?_; clear hN N))
    | (with_reducible refine nx_exit ?_)
    | (with_reducible refine nx_ret ?_)
    | (with_reducible refine ib_normal ?_)
    | (with_reducible refine ib_exit ?_)
    | (with_reducible refine ib_ret ?_)
    | (with_reducible refine ib_exit_ne (by decide) ?_)
    | (with_reducible refine for_exit ?_)
    | (with_reducible refine for_ret ?_)
    | (with_reducible refine forq_exit ?_)
    | (with_reducible refine forq_ret ?_)
    | (with_reducible refine round_exit ?_)
    | (with_reducible refine round_ret ?_))
  (first | refine aW_reg fun N hN => ?_ | refine aW_reg1 fun N hN => ?_)
  simp (config := {maxSteps := 10000000}) (disch := first | (intro; intros; rename_i h; injection h; done) | omega) only [go_sem, Bool.false_or, Bool.true_or, Bool.or_true, Bool.or_false, Nat.reduceAdd, Nat.reduceSub, Nat.reduceMul, Nat.reduceLT, Nat.reduceLeDiff, Nat.lt_irrefl, Nat.le_refl, List.getElem?_toArray, bne_self_eq_false, Int.le_refl, Int.reduceLE, Int.reduceLT, Int.toNat_zero, Nat.zero_mul, List.all_cons, List.all_nil, Bool.and_self, Bool.and_true, Bool.true_and, Nat.reduceEqDiff, Nat.one_ne_zero, true_and, and_true, and_self, List.drop_succ_cons, List.drop_nil, List.take_succ_cons, List.take_nil, wrap_i64, wrap_u8, dec_t, dec_f, ite_t, ite_f, Int.toNat_natCast, Int.cast_ofNat_Int, toNat_cast_add, bcells_length, List.length_take, List.length_map, List.length_drop, List.length_append, bV]
  refine (hf.plain ?_ rfl ?_)
  · simp only [renL, ren, bV, pE.ren]
  simp (config := {maxSteps := 10000000}) (disch := first | (intro; intros; rename_i h; injection h; done) | omega) only [go_sem, Bool.false_or, Bool.true_or, Bool.or_true, Bool.or_false, Nat.reduceAdd, Nat.reduceSub, Nat.reduceMul, Nat.reduceLT, Nat.reduceLeDiff, Nat.lt_irrefl, Nat.le_refl, List.getElem?_toArray, bne_self_eq_false, Int.le_refl, Int.reduceLE, Int.reduceLT, Int.toNat_zero, Nat.zero_mul, List.all_cons, List.all_nil, Bool.and_self, Bool.and_true, Bool.true_and, Nat.reduceEqDiff, Nat.one_ne_zero, true_and, and_true, and_self, List.drop_succ_cons, List.drop_nil, List.take_succ_cons, List.take_nil, wrap_i64, wrap_u8, dec_t, dec_f, ite_t, ite_f, Int.toNat_natCast, Int.cast_ofNat_Int, toNat_cast_add, bcells_length, List.length_take, List.length_map, List.length_drop, List.length_append]
  refine hN _ _ ?_; clear hN N
  cases hi : l.findIdx? (keyIs k (lower host)) with
  | none =>
    have hx : idx (keyIs k (lower host)) l = -1 := by simp [idx, hi]
    have hp : pGet l k host = (0, false) := by simp [pGet, hi]
    rw [hx]
    repeat' (first
      | (refine aW_reg fun N hN => ?_; simp (config := {maxSteps := 10000000}) (disch := first | (intro; intros; rename_i h; injection h; done) | omega) only [go_sem, Bool.false_or, Bool.true_or, Bool.or_true, Bool.or_false, Nat.reduceAdd, Nat.reduceSub, Nat.reduceMul, Nat.reduceLT, Nat.reduceLeDiff, Nat.lt_irrefl, Nat.le_refl, List.getElem?_toArray, bne_self_eq_false, Int.le_refl, Int.reduceLE, Int.reduceLT, Int.toNat_zero, Nat.zero_mul, List.all_cons, List.all_nil, Bool.and_self, Bool.and_true, Bool.true_and, Nat.reduceEqDiff, Nat.one_ne_zero, true_and, and_true, and_self, List.drop_succ_cons, List.drop_nil, List.take_succ_cons, List.take_nil, wrap_i64, wrap_u8, dec_t, dec_f, ite_t, ite_f, Int.toNat_natCast, Int.cast_ofNat_Int, toNat_cast_add, bcells_length, List.length_take, List.length_map, List.length_drop, List.length_append]; with_reducible refine hN _ _ ?_; clear hN N)
      | (refine aW_reg1 fun N hN => ?_; simp (config := {maxSteps := 10000000}) (disch := first | (intro; intros; rename_i h; injection h; done) | omega) only [go_sem, Bool.false_or, Bool.true_or, Bool.or_true, Bool.or_false, Nat.reduceAdd, Nat.reduceSub, Nat.reduceMul, Nat.reduceLT, Nat.reduceLeDiff, Nat.lt_irrefl, Nat.le_refl, List.getElem?_toArray, bne_self_eq_false, Int.le_refl, Int.reduceLE, Int.reduceLT, Int.toNat_zero, Nat.zero_mul, List.all_cons, List.all_nil, Bool.and_self, Bool.and_true, Bool.true_and, Nat.reduceEqDiff, Nat.one_ne_zero, true_and, and_true, and_self, List.drop_succ_cons, List.drop_nil, List.take_succ_cons, List.take_nil, wrap_i64, wrap_u8, dec_t, dec_f, ite_t, ite_f, Int.toNat_natCast, Int.cast_ofNat_Int, toNat_cast_add, bcells_length, List.length_take, List.length_map, List.length_drop, List.length_append]; with_reducible refine hN _ _ ?_; clear hN N)
      | (refine aW_seq_k fun N hN => ?_)
      | (refine aW_block ?_)
      | (refine aW_cond (b := true) rfl (fun _ => ?_) (fun h => by cases h))
      | (refine aW_cond (b := false) rfl (fun h => by cases h) (fun _ => ?_))
      | (refine aW_skip ?_)
      | (refine aW_exit ?_)
      | (with_reducible refine nx_normal ?_)
      | (first | (with_reducible refine hN _ _ ?_; clear hN N) | (clear hN N; with_reducible refine hN _ _ ?_; clear hN N) | (clear hN N; clear hN N; with_reducible refine hN _ _ ?_; clear hN N) | (clear hN N; clear hN N; clear hN N; with_reducible refine hN _ _ ?_; clear hN N))
      | (with_reducible refine nx_exit ?_)
      | (with_reducible refine nx_ret ?_)
      | (with_reducible refine ib_normal ?_)
      | (with_reducible refine ib_exit ?_)
      | (with_reducible refine ib_ret ?_)
      | (with_reducible refine ib_exit_ne (by decide) ?_)
      | (with_reducible refine for_exit ?_)
      | (with_reducible refine for_ret ?_)
      | (with_reducible refine forq_exit ?_)
      | (with_reducible refine forq_ret ?_)
      | (with_reducible refine round_exit ?_)
      | (with_reducible refine round_ret ?_))
    refine aW_ret ?_
    repeat' (first | (with_reducible refine nx_ret ?_) | (with_reducible refine ib_ret ?_) | (with_reducible refine for_ret ?_) | (with_reducible refine forq_ret ?_) | (with_reducible refine round_ret ?_))
    exact Body.keep [] (.tup [.int .i64 0, .bool false]) [] rfl rfl trivial (by decide) (by decide) ⟨by rw [hp], rfl⟩
  | some i =>
    have hx : idx (keyIs k (lower host)) l = i := by simp [idx, hi]
    obtain ⟨hil, hi2, _⟩ := List.findIdx?_eq_some_iff_getElem.1 hi
    have hp : pGet l k host = (l[i].s, true) := by simp [pGet, hi, hil]
    have hd : (pE.cells l).drop (i * 3) = .int .i64 l[i].page :: .str l[i].host :: .int .i64 l[i].s :: pE.cells (l.drop (i + 1)) := pcells_at l i hil
    have hpl : (pE.cells l).length = l.length * 3 := pE.length l
    rw [hx]
    repeat' (first
      | (refine aW_reg fun N hN => ?_; simp (config := {maxSteps := 10000000}) (disch := first | (intro; intros; rename_i h; injection h; done) | omega) only [go_sem, Bool.false_or, Bool.true_or, Bool.or_true, Bool.or_false, Nat.reduceAdd, Nat.reduceSub, Nat.reduceMul, Nat.reduceLT, Nat.reduceLeDiff, Nat.lt_irrefl, Nat.le_refl, List.getElem?_toArray, bne_self_eq_false, Int.le_refl, Int.reduceLE, Int.reduceLT, Int.toNat_zero, Nat.zero_mul, List.all_cons, List.all_nil, Bool.and_self, Bool.and_true, Bool.true_and, Nat.reduceEqDiff, Nat.one_ne_zero, true_and, and_true, and_self, List.drop_succ_cons, List.drop_nil, List.take_succ_cons, List.take_nil, wrap_i64, wrap_u8, dec_t, dec_f, ite_t, ite_f, Int.toNat_natCast, Int.cast_ofNat_Int, toNat_cast_add, bcells_length, List.length_take, List.length_map, List.length_drop, List.length_append, hd]; with_reducible refine hN _ _ ?_; clear hN N)
      | (refine aW_reg1 fun N hN => ?_; simp (config := {maxSteps := 10000000}) (disch := first | (intro; intros; rename_i h; injection h; done) | omega) only [go_sem, Bool.false_or, Bool.true_or, Bool.or_true, Bool.or_false, Nat.reduceAdd, Nat.reduceSub, Nat.reduceMul, Nat.reduceLT, Nat.reduceLeDiff, Nat.lt_irrefl, Nat.le_refl, List.getElem?_toArray, bne_self_eq_false, Int.le_refl, Int.reduceLE, Int.reduceLT, Int.toNat_zero, Nat.zero_mul, List.all_cons, List.all_nil, Bool.and_self, Bool.and_true, Bool.true_and, Nat.reduceEqDiff, Nat.one_ne_zero, true_and, and_true, and_self, List.drop_succ_cons, List.drop_nil, List.take_succ_cons, List.take_nil, wrap_i64, wrap_u8, dec_t, dec_f, ite_t, ite_f, Int.toNat_natCast, Int.cast_ofNat_Int, toNat_cast_add, bcells_length, List.length_take, List.length_map, List.length_drop, List.length_append, hd]; with_reducible refine hN _ _ ?_; clear hN N)
      | (refine aW_seq_k fun N hN => ?_)
      | (refine aW_block ?_)
      | (refine aW_cond (b := true) rfl (fun _ => ?_) (fun h => by cases h))
      | (refine aW_cond (b := false) rfl (fun h => by cases h) (fun _ => ?_))
      | (refine aW_skip ?_)
      | (refine aW_exit ?_)
      | (with_reducible refine nx_normal ?_)
      | (first | (with_reducible refine hN _ _ ?_; clear hN N) | (clear hN N; with_reducible refine hN _ _ ?_; clear hN N) | (clear hN N; clear hN N; with_reducible refine hN _ _ ?_; clear hN N) | (clear hN N; clear hN N; clear hN N; with_reducible refine hN _ _ ?_; clear hN N))
      | (with_reducible refine nx_exit ?_)
      | (with_reducible refine nx_ret ?_)
      | (with_reducible refine ib_normal ?_)
      | (with_reducible refine ib_exit ?_)
      | (with_reducible refine ib_ret ?_)
      | (with_reducible refine ib_exit_ne (by decide) ?_)
      | (with_reducible refine for_exit ?_)
      | (with_reducible refine for_ret ?_)
      | (with_reducible refine forq_exit ?_)
      | (with_reducible refine forq_ret ?_)
      | (with_reducible refine round_exit ?_)
      | (with_reducible refine round_ret ?_))
    refine aW_ret ?_
    repeat' (first | (with_reducible refine nx_ret ?_) | (with_reducible refine ib_ret ?_) | (with_reducible refine for_ret ?_) | (with_reducible refine forq_ret ?_) | (with_reducible refine round_ret ?_))
    exact Body.keep [] (.tup [.int .i64 l[i].s, .bool true]) [] rfl rfl trivial (by decide) (by decide) ⟨by rw [hp], rfl⟩

end Go.Proofs
