/- Contracts of the package's functions, by the walk over abstract values. No condition. -/
import Derived.Test.YtieaamjikcjbeaaM8
import Derived.Test.YtieaamjikcjbeaaA36
namespace Go.Proofs
open Go Go.AH TryTy
set_option linter.unusedSimpArgs false
set_option linter.unusedVariables false
set_option maxRecDepth 10000

theorem res15 : Try.f15.results.toList = [.cell 4 37] := rfl
set_option maxHeartbeats 8000000 in
theorem tell_c (q : Qy) (hq : q.name.length ≤ 140737488352000) (flags : Int) (l : List Rc) (hl : l.length ≤ 100) (hrs : ∀ r ∈ l, rOk r) :
    ACalls Try.prog 15 [.agg (qcell q), .agg (forged q flags l)] [] (fun r h => r = .ret (.agg (tcell (tellF q flags l))) ∧ h = []) := by
  refine ACalls.weakR (K' := fun r h => (∃ R0, r = .ret R0 ∧ LeS (.agg (tcell (tellF q flags l))) R0) ∧ h = []) ?_ (by rintro _ _ ⟨⟨R0, rfl, hle⟩, rfl⟩; exact ⟨.ret _, hle, rfl, rfl⟩)
  have h15 := and15 flags
  have hlt4 : lowB flags 4 < 16 := lowB_lt flags 4
  have hch := mchain_c q.name hq l (by omega) hrs 8 (by decide) (by decide)
  have hcl := chain_last l hrs 8 200 [] q.name 604800 hq (by simp) (by decide)
  have leE : ∀ e : Int, LeS (.agg (tcell ⟨e, [], 0, [], 0⟩)) (.agg [.int .i64 e, .nilsl, .int .i64 0, .str [], .int .i64 0]) := fun e => LeS.agg ⟨LeS.refl _, LeS.nil, LeS.refl _, LeS.refl _, LeS.refl _, trivial⟩
  refine acalls_bodyX Try.func15 rfl (by decide +kernel) ?_
  simp only [List.length_nil, List.length_cons, List.length_append, Nat.zero_add, Try.ntmps15, List.replicate, List.cons_append, List.nil_append, List.append_assoc, Nat.reduceSub, Nat.reduceAdd]
  repeat' (first
    | (refine aX_reg fun N hN => ?_; simp (config := {maxSteps := 10000000}) (disch := first | (intro; intros; rename_i h; injection h; done) | omega) only [go_sem, Bool.false_or, Bool.true_or, Bool.or_true, Bool.or_false, Nat.reduceAdd, Nat.reduceSub, Nat.reduceMul, Nat.reduceLT, Nat.reduceLeDiff, Nat.lt_irrefl, Nat.le_refl, List.getElem?_toArray, bne_self_eq_false, Int.le_refl, Int.reduceLE, Int.reduceLT, Int.toNat_zero, Nat.zero_mul, List.all_cons, List.all_nil, Bool.and_self, Bool.and_true, Bool.true_and, Nat.reduceEqDiff, Nat.one_ne_zero, true_and, and_true, and_self, List.drop_succ_cons, List.drop_nil, List.take_succ_cons, List.take_nil, reduceCtorEq, Nat.sub_zero, Option.some.injEq, wrap_i64, wrap_u8, dec_t, dec_f, ite_t, ite_f, Int.toNat_natCast, Int.cast_ofNat_Int, toNat_cast_add, bcells_length, List.length_take, List.length_map, List.length_drop, List.length_append, qcell, forged, ↓h15]; with_reducible refine hN _ _ ?_; clear hN N)
    | (refine aX_reg1 fun N hN => ?_; simp (config := {maxSteps := 10000000}) (disch := first | (intro; intros; rename_i h; injection h; done) | omega) only [go_sem, Bool.false_or, Bool.true_or, Bool.or_true, Bool.or_false, Nat.reduceAdd, Nat.reduceSub, Nat.reduceMul, Nat.reduceLT, Nat.reduceLeDiff, Nat.lt_irrefl, Nat.le_refl, List.getElem?_toArray, bne_self_eq_false, Int.le_refl, Int.reduceLE, Int.reduceLT, Int.toNat_zero, Nat.zero_mul, List.all_cons, List.all_nil, Bool.and_self, Bool.and_true, Bool.true_and, Nat.reduceEqDiff, Nat.one_ne_zero, true_and, and_true, and_self, List.drop_succ_cons, List.drop_nil, List.take_succ_cons, List.take_nil, reduceCtorEq, Nat.sub_zero, Option.some.injEq, wrap_i64, wrap_u8, dec_t, dec_f, ite_t, ite_f, Int.toNat_natCast, Int.cast_ofNat_Int, toNat_cast_add, bcells_length, List.length_take, List.length_map, List.length_drop, List.length_append, qcell, forged, ↓h15]; with_reducible refine hN _ _ ?_; clear hN N)
    | (refine aX_seq_k fun N hN => ?_)
    | (refine aX_block ?_)
    | (refine aX_cond (b := true) rfl (fun _ => ?_) (fun h => by cases h))
    | (refine aX_cond (b := false) rfl (fun h => by cases h) (fun _ => ?_))
    | (refine aX_skip ?_)
    | (refine aX_exit ?_)
    | (with_reducible refine nxx_normal ?_)
    | (with_reducible refine nx_normal ?_)
    | (with_reducible refine hN _ _ ?_; clear hN N) | (with_reducible refine hN _ _ _ ?_; clear hN N) | (clear hN N; with_reducible refine hN _ _ ?_; clear hN N) | (clear hN N; with_reducible refine hN _ _ _ ?_; clear hN N) | (clear hN N; clear hN N; with_reducible refine hN _ _ ?_; clear hN N) | (clear hN N; clear hN N; with_reducible refine hN _ _ _ ?_; clear hN N) | (clear hN N; clear hN N; clear hN N; with_reducible refine hN _ _ ?_; clear hN N) | (clear hN N; clear hN N; clear hN N; with_reducible refine hN _ _ _ ?_; clear hN N)
    | (with_reducible refine nxx_exit ?_)
    | (with_reducible refine nxx_ret ?_)
    | (with_reducible refine ibx_normal ?_)
    | (with_reducible refine ibx_exit ?_)
    | (with_reducible refine ibx_ret ?_)
    | (with_reducible refine ibx_exit_ne (by decide) ?_)
    | (with_reducible refine roundx_exit ?_)
    | (with_reducible refine roundx_ret ?_))
  by_cases h0 : lowB flags 4 = 0
  · have hb2 : (((lowB flags 4 : Nat) : Int) == 0) = true := by rw [h0]; rfl
    have htf : tellF q flags l = (match chainF l 8 200 [] q.name 604800 with
          | (pre, last, ttl, ends) => if ends then tEnd pre last (tFold (l.filter (isR last q.type)) (ttl, [])) else ⟨3, [], 0, [], 0⟩) := by rw [tellF, if_neg (by omega), if_pos h0]
    generalize chainF l 8 200 [] q.name 604800 = ch at hch hcl htf
    obtain ⟨pre, last, ttl, ends⟩ := ch
    simp only [chainV] at hch hcl htf ⊢
    rw [hb2]
    repeat' (first
      | (refine aX_reg fun N hN => ?_; simp (config := {maxSteps := 10000000}) (disch := first | (intro; intros; rename_i h; injection h; done) | omega) only [go_sem, Bool.false_or, Bool.true_or, Bool.or_true, Bool.or_false, Nat.reduceAdd, Nat.reduceSub, Nat.reduceMul, Nat.reduceLT, Nat.reduceLeDiff, Nat.lt_irrefl, Nat.le_refl, List.getElem?_toArray, bne_self_eq_false, Int.le_refl, Int.reduceLE, Int.reduceLT, Int.toNat_zero, Nat.zero_mul, List.all_cons, List.all_nil, Bool.and_self, Bool.and_true, Bool.true_and, Nat.reduceEqDiff, Nat.one_ne_zero, true_and, and_true, and_self, List.drop_succ_cons, List.drop_nil, List.take_succ_cons, List.take_nil, reduceCtorEq, Nat.sub_zero, Option.some.injEq, wrap_i64, wrap_u8, dec_t, dec_f, ite_t, ite_f, Int.toNat_natCast, Int.cast_ofNat_Int, toNat_cast_add, bcells_length, List.length_take, List.length_map, List.length_drop, List.length_append]; with_reducible refine hN _ _ ?_; clear hN N)
      | (refine aX_reg1 fun N hN => ?_; simp (config := {maxSteps := 10000000}) (disch := first | (intro; intros; rename_i h; injection h; done) | omega) only [go_sem, Bool.false_or, Bool.true_or, Bool.or_true, Bool.or_false, Nat.reduceAdd, Nat.reduceSub, Nat.reduceMul, Nat.reduceLT, Nat.reduceLeDiff, Nat.lt_irrefl, Nat.le_refl, List.getElem?_toArray, bne_self_eq_false, Int.le_refl, Int.reduceLE, Int.reduceLT, Int.toNat_zero, Nat.zero_mul, List.all_cons, List.all_nil, Bool.and_self, Bool.and_true, Bool.true_and, Nat.reduceEqDiff, Nat.one_ne_zero, true_and, and_true, and_self, List.drop_succ_cons, List.drop_nil, List.take_succ_cons, List.take_nil, reduceCtorEq, Nat.sub_zero, Option.some.injEq, wrap_i64, wrap_u8, dec_t, dec_f, ite_t, ite_f, Int.toNat_natCast, Int.cast_ofNat_Int, toNat_cast_add, bcells_length, List.length_take, List.length_map, List.length_drop, List.length_append]; with_reducible refine hN _ _ ?_; clear hN N)
      | (refine aX_seq_k fun N hN => ?_)
      | (refine aX_block ?_)
      | (refine aX_cond (b := true) rfl (fun _ => ?_) (fun h => by cases h))
      | (refine aX_cond (b := false) rfl (fun h => by cases h) (fun _ => ?_))
      | (refine aX_skip ?_)
      | (refine aX_exit ?_)
      | (with_reducible refine nxx_normal ?_)
      | (with_reducible refine nx_normal ?_)
      | (with_reducible refine hN _ _ ?_; clear hN N) | (with_reducible refine hN _ _ _ ?_; clear hN N) | (clear hN N; with_reducible refine hN _ _ ?_; clear hN N) | (clear hN N; with_reducible refine hN _ _ _ ?_; clear hN N) | (clear hN N; clear hN N; with_reducible refine hN _ _ ?_; clear hN N) | (clear hN N; clear hN N; with_reducible refine hN _ _ _ ?_; clear hN N) | (clear hN N; clear hN N; clear hN N; with_reducible refine hN _ _ ?_; clear hN N) | (clear hN N; clear hN N; clear hN N; with_reducible refine hN _ _ _ ?_; clear hN N)
      | (with_reducible refine nxx_exit ?_)
      | (with_reducible refine nxx_ret ?_)
      | (with_reducible refine ibx_normal ?_)
      | (with_reducible refine ibx_exit ?_)
      | (with_reducible refine ibx_ret ?_)
      | (with_reducible refine ibx_exit_ne (by decide) ?_)
      | (with_reducible refine roundx_exit ?_)
      | (with_reducible refine roundx_ret ?_))
    (first | refine aX_reg fun N hN => ?_ | refine aX_reg1 fun N hN => ?_)
    simp (config := {maxSteps := 10000000}) (disch := first | (intro; intros; rename_i h; injection h; done) | omega) only [go_sem, Bool.false_or, Bool.true_or, Bool.or_true, Bool.or_false, Nat.reduceAdd, Nat.reduceSub, Nat.reduceMul, Nat.reduceLT, Nat.reduceLeDiff, Nat.lt_irrefl, Nat.le_refl, List.getElem?_toArray, bne_self_eq_false, Int.le_refl, Int.reduceLE, Int.reduceLT, Int.toNat_zero, Nat.zero_mul, List.all_cons, List.all_nil, Bool.and_self, Bool.and_true, Bool.true_and, Nat.reduceEqDiff, Nat.one_ne_zero, true_and, and_true, and_self, List.drop_succ_cons, List.drop_nil, List.take_succ_cons, List.take_nil, reduceCtorEq, Nat.sub_zero, Option.some.injEq, wrap_i64, wrap_u8, dec_t, dec_f, ite_t, ite_f, Int.toNat_natCast, Int.cast_ofNat_Int, toNat_cast_add, bcells_length, List.length_take, List.length_map, List.length_drop, List.length_append]
    refine hch.plain (by simp only [renL, ren, rE.ren]) (by simp only [renL, ren, sE.ren]) ?_
    simp (config := {maxSteps := 10000000}) (disch := first | (intro; intros; rename_i h; injection h; done) | omega) only [go_sem, Bool.false_or, Bool.true_or, Bool.or_true, Bool.or_false, Nat.reduceAdd, Nat.reduceSub, Nat.reduceMul, Nat.reduceLT, Nat.reduceLeDiff, Nat.lt_irrefl, Nat.le_refl, List.getElem?_toArray, bne_self_eq_false, Int.le_refl, Int.reduceLE, Int.reduceLT, Int.toNat_zero, Nat.zero_mul, List.all_cons, List.all_nil, Bool.and_self, Bool.and_true, Bool.true_and, Nat.reduceEqDiff, Nat.one_ne_zero, true_and, and_true, and_self, List.drop_succ_cons, List.drop_nil, List.take_succ_cons, List.take_nil, reduceCtorEq, Nat.sub_zero, Option.some.injEq, wrap_i64, wrap_u8, dec_t, dec_f, ite_t, ite_f, Int.toNat_natCast, Int.cast_ofNat_Int, toNat_cast_add, bcells_length, List.length_take, List.length_map, List.length_drop, List.length_append]
    repeat (first | (with_reducible refine nx_normal ?_) | (with_reducible refine nxx_normal ?_) | (with_reducible refine hN _ _ ?_; clear hN N) | (with_reducible refine hN _ _ _ ?_; clear hN N) | (clear hN N; with_reducible refine hN _ _ ?_; clear hN N) | (clear hN N; with_reducible refine hN _ _ _ ?_; clear hN N) | (clear hN N; clear hN N; with_reducible refine hN _ _ ?_; clear hN N) | (clear hN N; clear hN N; with_reducible refine hN _ _ _ ?_; clear hN N) | (clear hN N; clear hN N; clear hN N; with_reducible refine hN _ _ ?_; clear hN N) | (clear hN N; clear hN N; clear hN N; with_reducible refine hN _ _ _ ?_; clear hN N))
    cases ends with
    | false =>
      repeat' (first
        | (refine aX_reg fun N hN => ?_; simp (config := {maxSteps := 10000000}) (disch := first | (intro; intros; rename_i h; injection h; done) | omega) only [go_sem, Bool.false_or, Bool.true_or, Bool.or_true, Bool.or_false, Nat.reduceAdd, Nat.reduceSub, Nat.reduceMul, Nat.reduceLT, Nat.reduceLeDiff, Nat.lt_irrefl, Nat.le_refl, List.getElem?_toArray, bne_self_eq_false, Int.le_refl, Int.reduceLE, Int.reduceLT, Int.toNat_zero, Nat.zero_mul, List.all_cons, List.all_nil, Bool.and_self, Bool.and_true, Bool.true_and, Nat.reduceEqDiff, Nat.one_ne_zero, true_and, and_true, and_self, List.drop_succ_cons, List.drop_nil, List.take_succ_cons, List.take_nil, reduceCtorEq, Nat.sub_zero, Option.some.injEq, wrap_i64, wrap_u8, dec_t, dec_f, ite_t, ite_f, Int.toNat_natCast, Int.cast_ofNat_Int, toNat_cast_add, bcells_length, List.length_take, List.length_map, List.length_drop, List.length_append]; with_reducible refine hN _ _ ?_; clear hN N)
        | (refine aX_reg1 fun N hN => ?_; simp (config := {maxSteps := 10000000}) (disch := first | (intro; intros; rename_i h; injection h; done) | omega) only [go_sem, Bool.false_or, Bool.true_or, Bool.or_true, Bool.or_false, Nat.reduceAdd, Nat.reduceSub, Nat.reduceMul, Nat.reduceLT, Nat.reduceLeDiff, Nat.lt_irrefl, Nat.le_refl, List.getElem?_toArray, bne_self_eq_false, Int.le_refl, Int.reduceLE, Int.reduceLT, Int.toNat_zero, Nat.zero_mul, List.all_cons, List.all_nil, Bool.and_self, Bool.and_true, Bool.true_and, Nat.reduceEqDiff, Nat.one_ne_zero, true_and, and_true, and_self, List.drop_succ_cons, List.drop_nil, List.take_succ_cons, List.take_nil, reduceCtorEq, Nat.sub_zero, Option.some.injEq, wrap_i64, wrap_u8, dec_t, dec_f, ite_t, ite_f, Int.toNat_natCast, Int.cast_ofNat_Int, toNat_cast_add, bcells_length, List.length_take, List.length_map, List.length_drop, List.length_append]; with_reducible refine hN _ _ ?_; clear hN N)
        | (refine aX_seq_k fun N hN => ?_)
        | (refine aX_block ?_)
        | (refine aX_cond (b := true) rfl (fun _ => ?_) (fun h => by cases h))
        | (refine aX_cond (b := false) rfl (fun h => by cases h) (fun _ => ?_))
        | (refine aX_skip ?_)
        | (refine aX_exit ?_)
        | (with_reducible refine nxx_normal ?_)
        | (with_reducible refine nx_normal ?_)
        | (with_reducible refine hN _ _ ?_; clear hN N) | (with_reducible refine hN _ _ _ ?_; clear hN N) | (clear hN N; with_reducible refine hN _ _ ?_; clear hN N) | (clear hN N; with_reducible refine hN _ _ _ ?_; clear hN N) | (clear hN N; clear hN N; with_reducible refine hN _ _ ?_; clear hN N) | (clear hN N; clear hN N; with_reducible refine hN _ _ _ ?_; clear hN N) | (clear hN N; clear hN N; clear hN N; with_reducible refine hN _ _ ?_; clear hN N) | (clear hN N; clear hN N; clear hN N; with_reducible refine hN _ _ _ ?_; clear hN N)
        | (with_reducible refine nxx_exit ?_)
        | (with_reducible refine nxx_ret ?_)
        | (with_reducible refine ibx_normal ?_)
        | (with_reducible refine ibx_exit ?_)
        | (with_reducible refine ibx_ret ?_)
        | (with_reducible refine ibx_exit_ne (by decide) ?_)
        | (with_reducible refine roundx_exit ?_)
        | (with_reducible refine roundx_ret ?_))
      refine aX_ret ?_
      repeat' (first | (with_reducible refine nxx_ret ?_) | (with_reducible refine ibx_ret ?_) | (with_reducible refine roundx_ret ?_))
      refine Body.keep [] (R := .agg [.int .i64 3, .nilsl, .int .i64 0, .str [], .int .i64 0]) (.agg [.int .i64 3, .nilsl, .int .i64 0, .str [], .int .i64 0]) [] ?_ rfl trivial (by decide) (by decide) ⟨⟨_, rfl, by rw [htf]; exact leE 3⟩, rfl⟩
      rw [res15]
      simp (config := {maxSteps := 10000000}) (disch := first | (intro; intros; rename_i h; injection h; done) | omega) only [go_sem, Bool.false_or, Bool.true_or, Bool.or_true, Bool.or_false, Nat.reduceAdd, Nat.reduceSub, Nat.reduceMul, Nat.reduceLT, Nat.reduceLeDiff, Nat.lt_irrefl, Nat.le_refl, List.getElem?_toArray, bne_self_eq_false, Int.le_refl, Int.reduceLE, Int.reduceLT, Int.toNat_zero, Nat.zero_mul, List.all_cons, List.all_nil, Bool.and_self, Bool.and_true, Bool.true_and, Nat.reduceEqDiff, Nat.one_ne_zero, true_and, and_true, and_self, List.drop_succ_cons, List.drop_nil, List.take_succ_cons, List.take_nil, reduceCtorEq, Nat.sub_zero, Option.some.injEq, wrap_i64, wrap_u8, dec_t, dec_f, ite_t, ite_f, Int.toNat_natCast, Int.cast_ofNat_Int, toNat_cast_add, bcells_length, List.length_take, List.length_map, List.length_drop, List.length_append]
    | true =>
      have hw0 : IntKind.i64.wrap (((pre.length + 1 : Nat) : Int) - 1) = (pre.length : Int) := by rw [IntWalk.i64_in _ (by omega)]; omega
      have hget : (sE.cells (pre ++ [last])).drop pre.length = [.str last] := by
        rw [sE.cells_append, List.drop_left' (by rw [sE.length]; exact Nat.mul_one _)]; rfl
      have hpe : ((pre.length : Int) == 0) = pre.isEmpty := by cases pre with
        | nil => rfl
        | cons p0 pre => simp; omega
      have hof := of_c l last q.type
      repeat' (first
        | (refine aX_reg fun N hN => ?_; simp (config := {maxSteps := 10000000}) (disch := first | (intro; intros; rename_i h; injection h; done) | omega) only [go_sem, Bool.false_or, Bool.true_or, Bool.or_true, Bool.or_false, Nat.reduceAdd, Nat.reduceSub, Nat.reduceMul, Nat.reduceLT, Nat.reduceLeDiff, Nat.lt_irrefl, Nat.le_refl, List.getElem?_toArray, bne_self_eq_false, Int.le_refl, Int.reduceLE, Int.reduceLT, Int.toNat_zero, Nat.zero_mul, List.all_cons, List.all_nil, Bool.and_self, Bool.and_true, Bool.true_and, Nat.reduceEqDiff, Nat.one_ne_zero, true_and, and_true, and_self, List.drop_succ_cons, List.drop_nil, List.take_succ_cons, List.take_nil, reduceCtorEq, Nat.sub_zero, Option.some.injEq, wrap_i64, wrap_u8, dec_t, dec_f, ite_t, ite_f, Int.toNat_natCast, Int.cast_ofNat_Int, toNat_cast_add, bcells_length, List.length_take, List.length_map, List.length_drop, List.length_append, hw0, hget]; with_reducible refine hN _ _ ?_; clear hN N)
        | (refine aX_reg1 fun N hN => ?_; simp (config := {maxSteps := 10000000}) (disch := first | (intro; intros; rename_i h; injection h; done) | omega) only [go_sem, Bool.false_or, Bool.true_or, Bool.or_true, Bool.or_false, Nat.reduceAdd, Nat.reduceSub, Nat.reduceMul, Nat.reduceLT, Nat.reduceLeDiff, Nat.lt_irrefl, Nat.le_refl, List.getElem?_toArray, bne_self_eq_false, Int.le_refl, Int.reduceLE, Int.reduceLT, Int.toNat_zero, Nat.zero_mul, List.all_cons, List.all_nil, Bool.and_self, Bool.and_true, Bool.true_and, Nat.reduceEqDiff, Nat.one_ne_zero, true_and, and_true, and_self, List.drop_succ_cons, List.drop_nil, List.take_succ_cons, List.take_nil, reduceCtorEq, Nat.sub_zero, Option.some.injEq, wrap_i64, wrap_u8, dec_t, dec_f, ite_t, ite_f, Int.toNat_natCast, Int.cast_ofNat_Int, toNat_cast_add, bcells_length, List.length_take, List.length_map, List.length_drop, List.length_append, hw0, hget]; with_reducible refine hN _ _ ?_; clear hN N)
        | (refine aX_seq_k fun N hN => ?_)
        | (refine aX_block ?_)
        | (refine aX_cond (b := true) rfl (fun _ => ?_) (fun h => by cases h))
        | (refine aX_cond (b := false) rfl (fun h => by cases h) (fun _ => ?_))
        | (refine aX_skip ?_)
        | (refine aX_exit ?_)
        | (with_reducible refine nxx_normal ?_)
        | (with_reducible refine nx_normal ?_)
        | (with_reducible refine hN _ _ ?_; clear hN N) | (with_reducible refine hN _ _ _ ?_; clear hN N) | (clear hN N; with_reducible refine hN _ _ ?_; clear hN N) | (clear hN N; with_reducible refine hN _ _ _ ?_; clear hN N) | (clear hN N; clear hN N; with_reducible refine hN _ _ ?_; clear hN N) | (clear hN N; clear hN N; with_reducible refine hN _ _ _ ?_; clear hN N) | (clear hN N; clear hN N; clear hN N; with_reducible refine hN _ _ ?_; clear hN N) | (clear hN N; clear hN N; clear hN N; with_reducible refine hN _ _ _ ?_; clear hN N)
        | (with_reducible refine nxx_exit ?_)
        | (with_reducible refine nxx_ret ?_)
        | (with_reducible refine ibx_normal ?_)
        | (with_reducible refine ibx_exit ?_)
        | (with_reducible refine ibx_ret ?_)
        | (with_reducible refine ibx_exit_ne (by decide) ?_)
        | (with_reducible refine roundx_exit ?_)
        | (with_reducible refine roundx_ret ?_))
      (first | refine aX_reg fun N hN => ?_ | refine aX_reg1 fun N hN => ?_)
      simp (config := {maxSteps := 10000000}) (disch := first | (intro; intros; rename_i h; injection h; done) | omega) only [go_sem, Bool.false_or, Bool.true_or, Bool.or_true, Bool.or_false, Nat.reduceAdd, Nat.reduceSub, Nat.reduceMul, Nat.reduceLT, Nat.reduceLeDiff, Nat.lt_irrefl, Nat.le_refl, List.getElem?_toArray, bne_self_eq_false, Int.le_refl, Int.reduceLE, Int.reduceLT, Int.toNat_zero, Nat.zero_mul, List.all_cons, List.all_nil, Bool.and_self, Bool.and_true, Bool.true_and, Nat.reduceEqDiff, Nat.one_ne_zero, true_and, and_true, and_self, List.drop_succ_cons, List.drop_nil, List.take_succ_cons, List.take_nil, reduceCtorEq, Nat.sub_zero, Option.some.injEq, wrap_i64, wrap_u8, dec_t, dec_f, ite_t, ite_f, Int.toNat_natCast, Int.cast_ofNat_Int, toNat_cast_add, bcells_length, List.length_take, List.length_map, List.length_drop, List.length_append, hw0, hget]
      refine hof.frame [] [] rfl (by decide) (by simp) (by simp) ⟨.inl (by simp only [LeV, ren, rE.ren]), .inl rfl, .inl rfl, trivial⟩ (by simp) ?_
      rintro r0 h0' _ ⟨rfl, rfl⟩
      refine ⟨.inl rfl, ?_⟩
      simp only [ofH]
      simp (config := {maxSteps := 10000000}) (disch := first | (intro; intros; rename_i h; injection h; done) | omega) only [go_sem, Bool.false_or, Bool.true_or, Bool.or_true, Bool.or_false, Nat.reduceAdd, Nat.reduceSub, Nat.reduceMul, Nat.reduceLT, Nat.reduceLeDiff, Nat.lt_irrefl, Nat.le_refl, List.getElem?_toArray, bne_self_eq_false, Int.le_refl, Int.reduceLE, Int.reduceLT, Int.toNat_zero, Nat.zero_mul, List.all_cons, List.all_nil, Bool.and_self, Bool.and_true, Bool.true_and, Nat.reduceEqDiff, Nat.one_ne_zero, true_and, and_true, and_self, List.drop_succ_cons, List.drop_nil, List.take_succ_cons, List.take_nil, reduceCtorEq, Nat.sub_zero, Option.some.injEq, wrap_i64, wrap_u8, dec_t, dec_f, ite_t, ite_f, Int.toNat_natCast, Int.cast_ofNat_Int, toNat_cast_add, bcells_length, List.length_take, List.length_map, List.length_drop, List.length_append, merge, upd, mf, renB, rE.ren]
      repeat (first | (with_reducible refine nx_normal ?_) | (with_reducible refine nxx_normal ?_) | (with_reducible refine hN _ _ ?_; clear hN N) | (with_reducible refine hN _ _ _ ?_; clear hN N) | (clear hN N; with_reducible refine hN _ _ ?_; clear hN N) | (clear hN N; with_reducible refine hN _ _ _ ?_; clear hN N) | (clear hN N; clear hN N; with_reducible refine hN _ _ ?_; clear hN N) | (clear hN N; clear hN N; with_reducible refine hN _ _ _ ?_; clear hN N) | (clear hN N; clear hN N; clear hN N; with_reducible refine hN _ _ ?_; clear hN N) | (clear hN N; clear hN N; clear hN N; with_reducible refine hN _ _ _ ?_; clear hN N))
      refine aX_forget ((.unk :: .unk :: .ptr 0 0 :: .ptr 1 0 :: .ptr 2 0 :: .unk :: .unk :: .unk :: .ptr 3 0 :: .unk :: .unk :: .unk :: .unk :: .unk :: .unk :: .unk :: .unk :: .unk :: .unk :: .unk :: .unk :: .unk :: .unk :: .unk :: .unk :: .unk :: .unk :: .unk :: .unk :: .unk :: .unk :: .unk :: .unk :: .unk :: .unk :: .unk :: .unk :: .unk :: .unk :: .unk :: .unk :: .unk :: .unk :: .unk :: .unk :: .unk :: .unk :: .unk :: .fn (.func 38) [.ptr 4 0, .ptr 6 0, .ptr 5 0] :: .unk :: .unk :: .unk :: .unk :: .unk :: .unk :: .unk :: .unk :: .unk :: .unk :: .unk :: .unk :: .unk :: .unk :: .unk :: .unk :: .unk :: .unk :: .unk :: .unk :: .unk :: .unk :: .unk :: .unk :: .unk :: .unk :: .unk :: .unk :: .unk :: .unk :: .unk :: .unk :: [])) (by simp [LeU]) fun _ => ?_
      refine aX_block (aX_range (R := (.unk :: .unk :: .unk :: .unk :: .unk :: .unk :: .unk :: .unk :: .ptr 3 0 :: .unk :: .unk :: .unk :: .unk :: .unk :: .unk :: .unk :: .unk :: .unk :: .unk :: .unk :: .unk :: .unk :: .unk :: .unk :: .unk :: .unk :: .unk :: .unk :: .unk :: .unk :: .unk :: .unk :: .unk :: .unk :: .unk :: .unk :: .unk :: .unk :: .unk :: .unk :: .unk :: .unk :: .unk :: .unk :: .unk :: .unk :: .unk :: .unk :: .unk :: .unk :: .unk :: .unk :: .unk :: .unk :: .unk :: .unk :: .unk :: .unk :: .unk :: .unk :: .unk :: .unk :: .unk :: .unk :: .unk :: .unk :: .unk :: .unk :: .unk :: .unk :: .unk :: .unk :: .unk :: .unk :: .unk :: .unk :: .unk :: .unk :: .unk :: .unk :: .unk :: [])) rfl Try.func38 rfl (by decide +kernel) rfl (by simp [LeU]) (by intro m hm; simp [LeL, LeV, ren, hm 3 (by simp)]) ?_)
      intro y hyR hyp hya hyb
      simp only [List.length_nil, List.length_cons, List.length_append, Nat.zero_add, Try.ntmps38, List.replicate, List.cons_append, List.nil_append, List.append_assoc, Nat.reduceSub, Nat.reduceAdd]
      generalize hFIN : tFold (l.filter (isR last q.type)) (ttl, []) = FIN at htf
      repeat' (first
        | (refine aX_reg fun N hN => ?_; simp (config := {maxSteps := 10000000}) (disch := first | (intro; intros; rename_i h; injection h; done) | omega) only [go_sem, Bool.false_or, Bool.true_or, Bool.or_true, Bool.or_false, Nat.reduceAdd, Nat.reduceSub, Nat.reduceMul, Nat.reduceLT, Nat.reduceLeDiff, Nat.lt_irrefl, Nat.le_refl, List.getElem?_toArray, bne_self_eq_false, Int.le_refl, Int.reduceLE, Int.reduceLT, Int.toNat_zero, Nat.zero_mul, List.all_cons, List.all_nil, Bool.and_self, Bool.and_true, Bool.true_and, Nat.reduceEqDiff, Nat.one_ne_zero, true_and, and_true, and_self, List.drop_succ_cons, List.drop_nil, List.take_succ_cons, List.take_nil, reduceCtorEq, Nat.sub_zero, Option.some.injEq, wrap_i64, wrap_u8, dec_t, dec_f, ite_t, ite_f, Int.toNat_natCast, Int.cast_ofNat_Int, toNat_cast_add, bcells_length, List.length_take, List.length_map, List.length_drop, List.length_append]; with_reducible refine hN _ _ ?_; clear hN N)
        | (refine aX_reg1 fun N hN => ?_; simp (config := {maxSteps := 10000000}) (disch := first | (intro; intros; rename_i h; injection h; done) | omega) only [go_sem, Bool.false_or, Bool.true_or, Bool.or_true, Bool.or_false, Nat.reduceAdd, Nat.reduceSub, Nat.reduceMul, Nat.reduceLT, Nat.reduceLeDiff, Nat.lt_irrefl, Nat.le_refl, List.getElem?_toArray, bne_self_eq_false, Int.le_refl, Int.reduceLE, Int.reduceLT, Int.toNat_zero, Nat.zero_mul, List.all_cons, List.all_nil, Bool.and_self, Bool.and_true, Bool.true_and, Nat.reduceEqDiff, Nat.one_ne_zero, true_and, and_true, and_self, List.drop_succ_cons, List.drop_nil, List.take_succ_cons, List.take_nil, reduceCtorEq, Nat.sub_zero, Option.some.injEq, wrap_i64, wrap_u8, dec_t, dec_f, ite_t, ite_f, Int.toNat_natCast, Int.cast_ofNat_Int, toNat_cast_add, bcells_length, List.length_take, List.length_map, List.length_drop, List.length_append]; with_reducible refine hN _ _ ?_; clear hN N)
        | (refine aX_seq_k fun N hN => ?_)
        | (refine aX_block ?_)
        | (refine aX_cond (b := true) rfl (fun _ => ?_) (fun h => by cases h))
        | (refine aX_cond (b := false) rfl (fun h => by cases h) (fun _ => ?_))
        | (refine aX_skip ?_)
        | (refine aX_exit ?_)
        | (with_reducible refine nxx_normal ?_)
        | (with_reducible refine nx_normal ?_)
        | (with_reducible refine hN _ _ ?_; clear hN N) | (with_reducible refine hN _ _ _ ?_; clear hN N) | (clear hN N; with_reducible refine hN _ _ ?_; clear hN N) | (clear hN N; with_reducible refine hN _ _ _ ?_; clear hN N) | (clear hN N; clear hN N; with_reducible refine hN _ _ ?_; clear hN N) | (clear hN N; clear hN N; with_reducible refine hN _ _ _ ?_; clear hN N) | (clear hN N; clear hN N; clear hN N; with_reducible refine hN _ _ ?_; clear hN N) | (clear hN N; clear hN N; clear hN N; with_reducible refine hN _ _ _ ?_; clear hN N)
        | (with_reducible refine nxx_exit ?_)
        | (with_reducible refine nxx_ret ?_)
        | (with_reducible refine ibx_normal ?_)
        | (with_reducible refine ibx_exit ?_)
        | (with_reducible refine ibx_ret ?_)
        | (with_reducible refine ibx_exit_ne (by decide) ?_)
        | (with_reducible refine roundx_exit ?_)
        | (with_reducible refine roundx_ret ?_))
      refine aX_forget ((.fn (.yield y.l) [] :: .ptr 4 0 :: .ptr 6 0 :: .ptr 5 0 :: .unk :: .unk :: .unk :: .isl (rE.cells l) l.length :: .int .i64 l.length :: .int .i64 ((0 : Nat) : Int) :: .unk :: .unk :: .unk :: .unk :: .unk :: .unk :: .unk :: .unk :: .unk :: .unk :: .unk :: .unk :: .unk :: .unk :: .unk :: .unk :: .unk :: .unk :: .unk :: .unk :: .unk :: .unk :: .unk :: .unk :: .unk :: [])) (by simp [LeU]) fun _ => ?_
      refine aX_loop (fun m T h s => ∃ (k : Nat) (ttl' : Int) (addrs : List Ad), k ≤ l.length ∧ m = l.length - k ∧ addrs.length ≤ k ∧ tFold ((l.drop k).filter (isR last q.type)) (ttl', addrs) = FIN ∧ T = ((.fn (.yield y.l) [] :: .ptr 4 0 :: .ptr 6 0 :: .ptr 5 0 :: .unk :: .unk :: .unk :: .isl (rE.cells l) l.length :: .int .i64 l.length :: .int .i64 (k : Int) :: .unk :: .unk :: .unk :: .unk :: .unk :: .unk :: .unk :: .unk :: .unk :: .unk :: .unk :: .unk :: .unk :: .unk :: .unk :: .unk :: .unk :: .unk :: .unk :: .unk :: .unk :: .unk :: .unk :: .unk :: .unk :: [])) ∧ h = some (.row [.int .i64 q.id, .str q.name, .int .i64 q.type, .int .i64 q.server] 23 true) :: some (.row [.int .i64 q.id, .int .i64 flags, .isl [.str q.name, .int .i64 q.type, .int .i64 1] 1, .isl (rE.cells l) l.length, .nilsl, .nilsl] 27 true) :: some (.row [.int .i64 0, .nilsl, .int .i64 0, .str [], .int .i64 0] 37 true) :: some (.row [.int .i64 0, adS 7 addrs.length, .int .i64 ttl', .str last, .int .i64 pre.length] 37 true) :: some (.row [.isl (rE.cells l) l.length] 24 true) :: some (.row [.str last] 9 true) :: some (.row [.int .i64 q.type] 3 true) :: adH addrs ∧ s = .rd) l.length ⟨0, ttl, [], Nat.zero_le _, rfl, Nat.le_refl _, hFIN, rfl, rfl, rfl⟩ ?_
      clear hFIN hch hof
      rintro m T h s _ ⟨k, ttl', addrs, hk, rfl, hal, hfin, rfl, rfl, rfl⟩
      by_cases hlt : k < l.length
      · obtain ⟨x, hx⟩ : ∃ x, l[k] = x := ⟨_, rfl⟩
        have hxn : x.name.length ≤ 140737488352000 := hx ▸ (hrs _ (List.getElem_mem hlt)).1
        have hd := rE_at l k hlt
        rw [hx] at hd
        have hlk := like_c x.name last (by omega) (by have := hcl.1; omega)
        have hw1 : IntKind.i64.wrap ((k : Int) + 1) = ((k + 1 : Nat) : Int) := by rw [IntWalk.i64_in _ (by omega)]; simp
        have no : isR last q.type x = false → tFold ((l.drop (k + 1)).filter (isR last q.type)) (ttl', addrs) = FIN := fun h => by
          rw [← hfin, List.drop_eq_getElem_cons hlt, hx, List.filter_cons, if_neg (by simp [h])]
        have yes : isR last q.type x = true → tFold ((l.drop (k + 1)).filter (isR last q.type)) (tStep (ttl', addrs) x) = FIN := fun h => by
          rw [← hfin, List.drop_eq_getElem_cons hlt, hx, List.filter_cons, if_pos h]; rfl
        have hmn : (if x.ttl < ttl' then x.ttl else ttl') = min ttl' x.ttl := by omega
        cases h1 : x.type == q.type with
        | false =>
          have hno := no (by simp [isR, h1])
          cases addrs with
          | nil =>
            simp only [adS, adH, List.length_nil]
            repeat' (first
              | (refine aX_reg fun N hN => ?_; simp (config := {maxSteps := 10000000}) (disch := first | (intro; intros; rename_i h; injection h; done) | omega) only [go_sem, Bool.false_or, Bool.true_or, Bool.or_true, Bool.or_false, Nat.reduceAdd, Nat.reduceSub, Nat.reduceMul, Nat.reduceLT, Nat.reduceLeDiff, Nat.lt_irrefl, Nat.le_refl, List.getElem?_toArray, bne_self_eq_false, Int.le_refl, Int.reduceLE, Int.reduceLT, Int.toNat_zero, Nat.zero_mul, List.all_cons, List.all_nil, Bool.and_self, Bool.and_true, Bool.true_and, Nat.reduceEqDiff, Nat.one_ne_zero, true_and, and_true, and_self, List.drop_succ_cons, List.drop_nil, List.take_succ_cons, List.take_nil, reduceCtorEq, Nat.sub_zero, Option.some.injEq, wrap_i64, wrap_u8, dec_t, dec_f, ite_t, ite_f, Int.toNat_natCast, Int.cast_ofNat_Int, toNat_cast_add, bcells_length, List.length_take, List.length_map, List.length_drop, List.length_append, hd, h1, hw1]; with_reducible refine hN _ _ ?_; clear hN N)
              | (refine aX_reg1 fun N hN => ?_; simp (config := {maxSteps := 10000000}) (disch := first | (intro; intros; rename_i h; injection h; done) | omega) only [go_sem, Bool.false_or, Bool.true_or, Bool.or_true, Bool.or_false, Nat.reduceAdd, Nat.reduceSub, Nat.reduceMul, Nat.reduceLT, Nat.reduceLeDiff, Nat.lt_irrefl, Nat.le_refl, List.getElem?_toArray, bne_self_eq_false, Int.le_refl, Int.reduceLE, Int.reduceLT, Int.toNat_zero, Nat.zero_mul, List.all_cons, List.all_nil, Bool.and_self, Bool.and_true, Bool.true_and, Nat.reduceEqDiff, Nat.one_ne_zero, true_and, and_true, and_self, List.drop_succ_cons, List.drop_nil, List.take_succ_cons, List.take_nil, reduceCtorEq, Nat.sub_zero, Option.some.injEq, wrap_i64, wrap_u8, dec_t, dec_f, ite_t, ite_f, Int.toNat_natCast, Int.cast_ofNat_Int, toNat_cast_add, bcells_length, List.length_take, List.length_map, List.length_drop, List.length_append, hd, h1, hw1]; with_reducible refine hN _ _ ?_; clear hN N)
              | (refine aX_seq_k fun N hN => ?_)
              | (refine aX_block ?_)
              | (refine aX_cond (b := true) rfl (fun _ => ?_) (fun h => by cases h))
              | (refine aX_cond (b := false) rfl (fun h => by cases h) (fun _ => ?_))
              | (refine aX_skip ?_)
              | (refine aX_exit ?_)
              | (with_reducible refine nxx_normal ?_)
              | (with_reducible refine nx_normal ?_)
              | (with_reducible refine hN _ _ ?_; clear hN N) | (with_reducible refine hN _ _ _ ?_; clear hN N) | (clear hN N; with_reducible refine hN _ _ ?_; clear hN N) | (clear hN N; with_reducible refine hN _ _ _ ?_; clear hN N) | (clear hN N; clear hN N; with_reducible refine hN _ _ ?_; clear hN N) | (clear hN N; clear hN N; with_reducible refine hN _ _ _ ?_; clear hN N) | (clear hN N; clear hN N; clear hN N; with_reducible refine hN _ _ ?_; clear hN N) | (clear hN N; clear hN N; clear hN N; with_reducible refine hN _ _ _ ?_; clear hN N)
              | (with_reducible refine nxx_exit ?_)
              | (with_reducible refine nxx_ret ?_)
              | (with_reducible refine ibx_normal ?_)
              | (with_reducible refine ibx_exit ?_)
              | (with_reducible refine ibx_ret ?_)
              | (with_reducible refine ibx_exit_ne (by decide) ?_)
              | (with_reducible refine roundx_exit ?_)
              | (with_reducible refine roundx_ret ?_))
            exact ⟨l.length - (k + 1), _, _, _, by omega, Weak.lit [0, 1, 2, 3, 4, 5, 6] (T0 := ((.fn (.yield y.l) [] :: .ptr 4 0 :: .ptr 6 0 :: .ptr 5 0 :: .unk :: .unk :: .unk :: .isl (rE.cells l) l.length :: .int .i64 l.length :: .int .i64 ((k + 1 : Nat) : Int) :: .unk :: .unk :: .unk :: .unk :: .unk :: .unk :: .unk :: .unk :: .unk :: .unk :: .unk :: .unk :: .unk :: .unk :: .unk :: .unk :: .unk :: .unk :: .unk :: .unk :: .unk :: .unk :: .unk :: .unk :: .unk :: []))) (h0 := some (.row [.int .i64 q.id, .str q.name, .int .i64 q.type, .int .i64 q.server] 23 true) :: some (.row [.int .i64 q.id, .int .i64 flags, .isl [.str q.name, .int .i64 q.type, .int .i64 1] 1, .isl (rE.cells l) l.length, .nilsl, .nilsl] 27 true) :: some (.row [.int .i64 0, .nilsl, .int .i64 0, .str [], .int .i64 0] 37 true) :: some (.row [.int .i64 0, adS 7 ([] : List Ad).length, .int .i64 ttl', .str last, .int .i64 pre.length] 37 true) :: some (.row [.isl (rE.cells l) l.length] 24 true) :: some (.row [.str last] 9 true) :: some (.row [.int .i64 q.type] 3 true) :: adH ([] : List Ad)) (by simp [LeL, LeV, ren, renL, pf, adS, rE.ren, aE.ren, sE.ren]) (by simp [Keeps, renB, renL, ren, rE.ren, aE.ren, adH, adS, pf]) (by decide) (by decide), k + 1, ttl', ([] : List Ad), hlt, rfl, by simp, hno, rfl, rfl, rfl⟩
          | cons a0 addrs =>
            simp only [adS, adH, List.length_cons] at hal ⊢
            repeat' (first
              | (refine aX_reg fun N hN => ?_; simp (config := {maxSteps := 10000000}) (disch := first | (intro; intros; rename_i h; injection h; done) | omega) only [go_sem, Bool.false_or, Bool.true_or, Bool.or_true, Bool.or_false, Nat.reduceAdd, Nat.reduceSub, Nat.reduceMul, Nat.reduceLT, Nat.reduceLeDiff, Nat.lt_irrefl, Nat.le_refl, List.getElem?_toArray, bne_self_eq_false, Int.le_refl, Int.reduceLE, Int.reduceLT, Int.toNat_zero, Nat.zero_mul, List.all_cons, List.all_nil, Bool.and_self, Bool.and_true, Bool.true_and, Nat.reduceEqDiff, Nat.one_ne_zero, true_and, and_true, and_self, List.drop_succ_cons, List.drop_nil, List.take_succ_cons, List.take_nil, reduceCtorEq, Nat.sub_zero, Option.some.injEq, wrap_i64, wrap_u8, dec_t, dec_f, ite_t, ite_f, Int.toNat_natCast, Int.cast_ofNat_Int, toNat_cast_add, bcells_length, List.length_take, List.length_map, List.length_drop, List.length_append, hd, h1, hw1]; with_reducible refine hN _ _ ?_; clear hN N)
              | (refine aX_reg1 fun N hN => ?_; simp (config := {maxSteps := 10000000}) (disch := first | (intro; intros; rename_i h; injection h; done) | omega) only [go_sem, Bool.false_or, Bool.true_or, Bool.or_true, Bool.or_false, Nat.reduceAdd, Nat.reduceSub, Nat.reduceMul, Nat.reduceLT, Nat.reduceLeDiff, Nat.lt_irrefl, Nat.le_refl, List.getElem?_toArray, bne_self_eq_false, Int.le_refl, Int.reduceLE, Int.reduceLT, Int.toNat_zero, Nat.zero_mul, List.all_cons, List.all_nil, Bool.and_self, Bool.and_true, Bool.true_and, Nat.reduceEqDiff, Nat.one_ne_zero, true_and, and_true, and_self, List.drop_succ_cons, List.drop_nil, List.take_succ_cons, List.take_nil, reduceCtorEq, Nat.sub_zero, Option.some.injEq, wrap_i64, wrap_u8, dec_t, dec_f, ite_t, ite_f, Int.toNat_natCast, Int.cast_ofNat_Int, toNat_cast_add, bcells_length, List.length_take, List.length_map, List.length_drop, List.length_append, hd, h1, hw1]; with_reducible refine hN _ _ ?_; clear hN N)
              | (refine aX_seq_k fun N hN => ?_)
              | (refine aX_block ?_)
              | (refine aX_cond (b := true) rfl (fun _ => ?_) (fun h => by cases h))
              | (refine aX_cond (b := false) rfl (fun h => by cases h) (fun _ => ?_))
              | (refine aX_skip ?_)
              | (refine aX_exit ?_)
              | (with_reducible refine nxx_normal ?_)
              | (with_reducible refine nx_normal ?_)
              | (with_reducible refine hN _ _ ?_; clear hN N) | (with_reducible refine hN _ _ _ ?_; clear hN N) | (clear hN N; with_reducible refine hN _ _ ?_; clear hN N) | (clear hN N; with_reducible refine hN _ _ _ ?_; clear hN N) | (clear hN N; clear hN N; with_reducible refine hN _ _ ?_; clear hN N) | (clear hN N; clear hN N; with_reducible refine hN _ _ _ ?_; clear hN N) | (clear hN N; clear hN N; clear hN N; with_reducible refine hN _ _ ?_; clear hN N) | (clear hN N; clear hN N; clear hN N; with_reducible refine hN _ _ _ ?_; clear hN N)
              | (with_reducible refine nxx_exit ?_)
              | (with_reducible refine nxx_ret ?_)
              | (with_reducible refine ibx_normal ?_)
              | (with_reducible refine ibx_exit ?_)
              | (with_reducible refine ibx_ret ?_)
              | (with_reducible refine ibx_exit_ne (by decide) ?_)
              | (with_reducible refine roundx_exit ?_)
              | (with_reducible refine roundx_ret ?_))
            exact ⟨l.length - (k + 1), _, _, _, by omega, Weak.lit [0, 1, 2, 3, 4, 5, 6, 7] (T0 := ((.fn (.yield y.l) [] :: .ptr 4 0 :: .ptr 6 0 :: .ptr 5 0 :: .unk :: .unk :: .unk :: .isl (rE.cells l) l.length :: .int .i64 l.length :: .int .i64 ((k + 1 : Nat) : Int) :: .unk :: .unk :: .unk :: .unk :: .unk :: .unk :: .unk :: .unk :: .unk :: .unk :: .unk :: .unk :: .unk :: .unk :: .unk :: .unk :: .unk :: .unk :: .unk :: .unk :: .unk :: .unk :: .unk :: .unk :: .unk :: []))) (h0 := some (.row [.int .i64 q.id, .str q.name, .int .i64 q.type, .int .i64 q.server] 23 true) :: some (.row [.int .i64 q.id, .int .i64 flags, .isl [.str q.name, .int .i64 q.type, .int .i64 1] 1, .isl (rE.cells l) l.length, .nilsl, .nilsl] 27 true) :: some (.row [.int .i64 0, .nilsl, .int .i64 0, .str [], .int .i64 0] 37 true) :: some (.row [.int .i64 0, adS 7 (a0 :: addrs).length, .int .i64 ttl', .str last, .int .i64 pre.length] 37 true) :: some (.row [.isl (rE.cells l) l.length] 24 true) :: some (.row [.str last] 9 true) :: some (.row [.int .i64 q.type] 3 true) :: adH (a0 :: addrs)) (by simp [LeL, LeV, ren, renL, pf, adS, rE.ren, aE.ren, sE.ren]) (by simp [Keeps, renB, renL, ren, rE.ren, aE.ren, adH, adS, pf]) (by decide) (by decide), k + 1, ttl', (a0 :: addrs), hlt, rfl, by simp only [List.length_cons]; omega, hno, rfl, rfl, rfl⟩
        | true =>
          cases h2 : x.cls == 1 with
          | false =>
            have hno := no (by simp [isR, h2])
            cases addrs with
            | nil =>
              simp only [adS, adH, List.length_nil]
              repeat' (first
                | (refine aX_reg fun N hN => ?_; simp (config := {maxSteps := 10000000}) (disch := first | (intro; intros; rename_i h; injection h; done) | omega) only [go_sem, Bool.false_or, Bool.true_or, Bool.or_true, Bool.or_false, Nat.reduceAdd, Nat.reduceSub, Nat.reduceMul, Nat.reduceLT, Nat.reduceLeDiff, Nat.lt_irrefl, Nat.le_refl, List.getElem?_toArray, bne_self_eq_false, Int.le_refl, Int.reduceLE, Int.reduceLT, Int.toNat_zero, Nat.zero_mul, List.all_cons, List.all_nil, Bool.and_self, Bool.and_true, Bool.true_and, Nat.reduceEqDiff, Nat.one_ne_zero, true_and, and_true, and_self, List.drop_succ_cons, List.drop_nil, List.take_succ_cons, List.take_nil, reduceCtorEq, Nat.sub_zero, Option.some.injEq, wrap_i64, wrap_u8, dec_t, dec_f, ite_t, ite_f, Int.toNat_natCast, Int.cast_ofNat_Int, toNat_cast_add, bcells_length, List.length_take, List.length_map, List.length_drop, List.length_append, hd, h1, h2, hw1]; with_reducible refine hN _ _ ?_; clear hN N)
                | (refine aX_reg1 fun N hN => ?_; simp (config := {maxSteps := 10000000}) (disch := first | (intro; intros; rename_i h; injection h; done) | omega) only [go_sem, Bool.false_or, Bool.true_or, Bool.or_true, Bool.or_false, Nat.reduceAdd, Nat.reduceSub, Nat.reduceMul, Nat.reduceLT, Nat.reduceLeDiff, Nat.lt_irrefl, Nat.le_refl, List.getElem?_toArray, bne_self_eq_false, Int.le_refl, Int.reduceLE, Int.reduceLT, Int.toNat_zero, Nat.zero_mul, List.all_cons, List.all_nil, Bool.and_self, Bool.and_true, Bool.true_and, Nat.reduceEqDiff, Nat.one_ne_zero, true_and, and_true, and_self, List.drop_succ_cons, List.drop_nil, List.take_succ_cons, List.take_nil, reduceCtorEq, Nat.sub_zero, Option.some.injEq, wrap_i64, wrap_u8, dec_t, dec_f, ite_t, ite_f, Int.toNat_natCast, Int.cast_ofNat_Int, toNat_cast_add, bcells_length, List.length_take, List.length_map, List.length_drop, List.length_append, hd, h1, h2, hw1]; with_reducible refine hN _ _ ?_; clear hN N)
                | (refine aX_seq_k fun N hN => ?_)
                | (refine aX_block ?_)
                | (refine aX_cond (b := true) rfl (fun _ => ?_) (fun h => by cases h))
                | (refine aX_cond (b := false) rfl (fun h => by cases h) (fun _ => ?_))
                | (refine aX_skip ?_)
                | (refine aX_exit ?_)
                | (with_reducible refine nxx_normal ?_)
                | (with_reducible refine nx_normal ?_)
                | (with_reducible refine hN _ _ ?_; clear hN N) | (with_reducible refine hN _ _ _ ?_; clear hN N) | (clear hN N; with_reducible refine hN _ _ ?_; clear hN N) | (clear hN N; with_reducible refine hN _ _ _ ?_; clear hN N) | (clear hN N; clear hN N; with_reducible refine hN _ _ ?_; clear hN N) | (clear hN N; clear hN N; with_reducible refine hN _ _ _ ?_; clear hN N) | (clear hN N; clear hN N; clear hN N; with_reducible refine hN _ _ ?_; clear hN N) | (clear hN N; clear hN N; clear hN N; with_reducible refine hN _ _ _ ?_; clear hN N)
                | (with_reducible refine nxx_exit ?_)
                | (with_reducible refine nxx_ret ?_)
                | (with_reducible refine ibx_normal ?_)
                | (with_reducible refine ibx_exit ?_)
                | (with_reducible refine ibx_ret ?_)
                | (with_reducible refine ibx_exit_ne (by decide) ?_)
                | (with_reducible refine roundx_exit ?_)
                | (with_reducible refine roundx_ret ?_))
              exact ⟨l.length - (k + 1), _, _, _, by omega, Weak.lit [0, 1, 2, 3, 4, 5, 6] (T0 := ((.fn (.yield y.l) [] :: .ptr 4 0 :: .ptr 6 0 :: .ptr 5 0 :: .unk :: .unk :: .unk :: .isl (rE.cells l) l.length :: .int .i64 l.length :: .int .i64 ((k + 1 : Nat) : Int) :: .unk :: .unk :: .unk :: .unk :: .unk :: .unk :: .unk :: .unk :: .unk :: .unk :: .unk :: .unk :: .unk :: .unk :: .unk :: .unk :: .unk :: .unk :: .unk :: .unk :: .unk :: .unk :: .unk :: .unk :: .unk :: []))) (h0 := some (.row [.int .i64 q.id, .str q.name, .int .i64 q.type, .int .i64 q.server] 23 true) :: some (.row [.int .i64 q.id, .int .i64 flags, .isl [.str q.name, .int .i64 q.type, .int .i64 1] 1, .isl (rE.cells l) l.length, .nilsl, .nilsl] 27 true) :: some (.row [.int .i64 0, .nilsl, .int .i64 0, .str [], .int .i64 0] 37 true) :: some (.row [.int .i64 0, adS 7 ([] : List Ad).length, .int .i64 ttl', .str last, .int .i64 pre.length] 37 true) :: some (.row [.isl (rE.cells l) l.length] 24 true) :: some (.row [.str last] 9 true) :: some (.row [.int .i64 q.type] 3 true) :: adH ([] : List Ad)) (by simp [LeL, LeV, ren, renL, pf, adS, rE.ren, aE.ren, sE.ren]) (by simp [Keeps, renB, renL, ren, rE.ren, aE.ren, adH, adS, pf]) (by decide) (by decide), k + 1, ttl', ([] : List Ad), hlt, rfl, by simp, hno, rfl, rfl, rfl⟩
            | cons a0 addrs =>
              simp only [adS, adH, List.length_cons] at hal ⊢
              repeat' (first
                | (refine aX_reg fun N hN => ?_; simp (config := {maxSteps := 10000000}) (disch := first | (intro; intros; rename_i h; injection h; done) | omega) only [go_sem, Bool.false_or, Bool.true_or, Bool.or_true, Bool.or_false, Nat.reduceAdd, Nat.reduceSub, Nat.reduceMul, Nat.reduceLT, Nat.reduceLeDiff, Nat.lt_irrefl, Nat.le_refl, List.getElem?_toArray, bne_self_eq_false, Int.le_refl, Int.reduceLE, Int.reduceLT, Int.toNat_zero, Nat.zero_mul, List.all_cons, List.all_nil, Bool.and_self, Bool.and_true, Bool.true_and, Nat.reduceEqDiff, Nat.one_ne_zero, true_and, and_true, and_self, List.drop_succ_cons, List.drop_nil, List.take_succ_cons, List.take_nil, reduceCtorEq, Nat.sub_zero, Option.some.injEq, wrap_i64, wrap_u8, dec_t, dec_f, ite_t, ite_f, Int.toNat_natCast, Int.cast_ofNat_Int, toNat_cast_add, bcells_length, List.length_take, List.length_map, List.length_drop, List.length_append, hd, h1, h2, hw1]; with_reducible refine hN _ _ ?_; clear hN N)
                | (refine aX_reg1 fun N hN => ?_; simp (config := {maxSteps := 10000000}) (disch := first | (intro; intros; rename_i h; injection h; done) | omega) only [go_sem, Bool.false_or, Bool.true_or, Bool.or_true, Bool.or_false, Nat.reduceAdd, Nat.reduceSub, Nat.reduceMul, Nat.reduceLT, Nat.reduceLeDiff, Nat.lt_irrefl, Nat.le_refl, List.getElem?_toArray, bne_self_eq_false, Int.le_refl, Int.reduceLE, Int.reduceLT, Int.toNat_zero, Nat.zero_mul, List.all_cons, List.all_nil, Bool.and_self, Bool.and_true, Bool.true_and, Nat.reduceEqDiff, Nat.one_ne_zero, true_and, and_true, and_self, List.drop_succ_cons, List.drop_nil, List.take_succ_cons, List.take_nil, reduceCtorEq, Nat.sub_zero, Option.some.injEq, wrap_i64, wrap_u8, dec_t, dec_f, ite_t, ite_f, Int.toNat_natCast, Int.cast_ofNat_Int, toNat_cast_add, bcells_length, List.length_take, List.length_map, List.length_drop, List.length_append, hd, h1, h2, hw1]; with_reducible refine hN _ _ ?_; clear hN N)
                | (refine aX_seq_k fun N hN => ?_)
                | (refine aX_block ?_)
                | (refine aX_cond (b := true) rfl (fun _ => ?_) (fun h => by cases h))
                | (refine aX_cond (b := false) rfl (fun h => by cases h) (fun _ => ?_))
                | (refine aX_skip ?_)
                | (refine aX_exit ?_)
                | (with_reducible refine nxx_normal ?_)
                | (with_reducible refine nx_normal ?_)
                | (with_reducible refine hN _ _ ?_; clear hN N) | (with_reducible refine hN _ _ _ ?_; clear hN N) | (clear hN N; with_reducible refine hN _ _ ?_; clear hN N) | (clear hN N; with_reducible refine hN _ _ _ ?_; clear hN N) | (clear hN N; clear hN N; with_reducible refine hN _ _ ?_; clear hN N) | (clear hN N; clear hN N; with_reducible refine hN _ _ _ ?_; clear hN N) | (clear hN N; clear hN N; clear hN N; with_reducible refine hN _ _ ?_; clear hN N) | (clear hN N; clear hN N; clear hN N; with_reducible refine hN _ _ _ ?_; clear hN N)
                | (with_reducible refine nxx_exit ?_)
                | (with_reducible refine nxx_ret ?_)
                | (with_reducible refine ibx_normal ?_)
                | (with_reducible refine ibx_exit ?_)
                | (with_reducible refine ibx_ret ?_)
                | (with_reducible refine ibx_exit_ne (by decide) ?_)
                | (with_reducible refine roundx_exit ?_)
                | (with_reducible refine roundx_ret ?_))
              exact ⟨l.length - (k + 1), _, _, _, by omega, Weak.lit [0, 1, 2, 3, 4, 5, 6, 7] (T0 := ((.fn (.yield y.l) [] :: .ptr 4 0 :: .ptr 6 0 :: .ptr 5 0 :: .unk :: .unk :: .unk :: .isl (rE.cells l) l.length :: .int .i64 l.length :: .int .i64 ((k + 1 : Nat) : Int) :: .unk :: .unk :: .unk :: .unk :: .unk :: .unk :: .unk :: .unk :: .unk :: .unk :: .unk :: .unk :: .unk :: .unk :: .unk :: .unk :: .unk :: .unk :: .unk :: .unk :: .unk :: .unk :: .unk :: .unk :: .unk :: []))) (h0 := some (.row [.int .i64 q.id, .str q.name, .int .i64 q.type, .int .i64 q.server] 23 true) :: some (.row [.int .i64 q.id, .int .i64 flags, .isl [.str q.name, .int .i64 q.type, .int .i64 1] 1, .isl (rE.cells l) l.length, .nilsl, .nilsl] 27 true) :: some (.row [.int .i64 0, .nilsl, .int .i64 0, .str [], .int .i64 0] 37 true) :: some (.row [.int .i64 0, adS 7 (a0 :: addrs).length, .int .i64 ttl', .str last, .int .i64 pre.length] 37 true) :: some (.row [.isl (rE.cells l) l.length] 24 true) :: some (.row [.str last] 9 true) :: some (.row [.int .i64 q.type] 3 true) :: adH (a0 :: addrs)) (by simp [LeL, LeV, ren, renL, pf, adS, rE.ren, aE.ren, sE.ren]) (by simp [Keeps, renB, renL, ren, rE.ren, aE.ren, adH, adS, pf]) (by decide) (by decide), k + 1, ttl', (a0 :: addrs), hlt, rfl, by simp only [List.length_cons]; omega, hno, rfl, rfl, rfl⟩
          | true =>
            cases h3 : lower x.name == lower last with
            | false =>
              rw [h3] at hlk
              have hno := no (by simp [isR, h3])
              cases addrs with
              | nil =>
                simp only [adS, adH, List.length_nil]
                repeat' (first
                  | (refine aX_reg fun N hN => ?_; simp (config := {maxSteps := 10000000}) (disch := first | (intro; intros; rename_i h; injection h; done) | omega) only [go_sem, Bool.false_or, Bool.true_or, Bool.or_true, Bool.or_false, Nat.reduceAdd, Nat.reduceSub, Nat.reduceMul, Nat.reduceLT, Nat.reduceLeDiff, Nat.lt_irrefl, Nat.le_refl, List.getElem?_toArray, bne_self_eq_false, Int.le_refl, Int.reduceLE, Int.reduceLT, Int.toNat_zero, Nat.zero_mul, List.all_cons, List.all_nil, Bool.and_self, Bool.and_true, Bool.true_and, Nat.reduceEqDiff, Nat.one_ne_zero, true_and, and_true, and_self, List.drop_succ_cons, List.drop_nil, List.take_succ_cons, List.take_nil, reduceCtorEq, Nat.sub_zero, Option.some.injEq, wrap_i64, wrap_u8, dec_t, dec_f, ite_t, ite_f, Int.toNat_natCast, Int.cast_ofNat_Int, toNat_cast_add, bcells_length, List.length_take, List.length_map, List.length_drop, List.length_append, hd, h1, h2, hw1]; with_reducible refine hN _ _ ?_; clear hN N)
                  | (refine aX_reg fun N hN => ?_; (try simp (config := {maxSteps := 10000000}) (disch := first | (intro; intros; rename_i h; injection h; done) | omega) only [go_sem, Bool.false_or, Bool.true_or, Bool.or_true, Bool.or_false, Nat.reduceAdd, Nat.reduceSub, Nat.reduceMul, Nat.reduceLT, Nat.reduceLeDiff, Nat.lt_irrefl, Nat.le_refl, List.getElem?_toArray, bne_self_eq_false, Int.le_refl, Int.reduceLE, Int.reduceLT, Int.toNat_zero, Nat.zero_mul, List.all_cons, List.all_nil, Bool.and_self, Bool.and_true, Bool.true_and, Nat.reduceEqDiff, Nat.one_ne_zero, true_and, and_true, and_self, List.drop_succ_cons, List.drop_nil, List.take_succ_cons, List.take_nil, reduceCtorEq, Nat.sub_zero, Option.some.injEq, wrap_i64, wrap_u8, dec_t, dec_f, ite_t, ite_f, Int.toNat_natCast, Int.cast_ofNat_Int, toNat_cast_add, bcells_length, List.length_take, List.length_map, List.length_drop, List.length_append, hd, h1, h2, hw1]); (repeat ((first | (refine (hlk).plain (by first | rfl | simp only [renL, ren, rE.ren, aE.ren, sE.ren, acell_noid, rcell_noid]) (by first | rfl | simp only [renL, ren, rE.ren, aE.ren, sE.ren, acell_noid, rcell_noid]) ?_)); try simp (config := {maxSteps := 10000000}) (disch := first | (intro; intros; rename_i h; injection h; done) | omega) only [go_sem, Bool.false_or, Bool.true_or, Bool.or_true, Bool.or_false, Nat.reduceAdd, Nat.reduceSub, Nat.reduceMul, Nat.reduceLT, Nat.reduceLeDiff, Nat.lt_irrefl, Nat.le_refl, List.getElem?_toArray, bne_self_eq_false, Int.le_refl, Int.reduceLE, Int.reduceLT, Int.toNat_zero, Nat.zero_mul, List.all_cons, List.all_nil, Bool.and_self, Bool.and_true, Bool.true_and, Nat.reduceEqDiff, Nat.one_ne_zero, true_and, and_true, and_self, List.drop_succ_cons, List.drop_nil, List.take_succ_cons, List.take_nil, reduceCtorEq, Nat.sub_zero, Option.some.injEq, wrap_i64, wrap_u8, dec_t, dec_f, ite_t, ite_f, Int.toNat_natCast, Int.cast_ofNat_Int, toNat_cast_add, bcells_length, List.length_take, List.length_map, List.length_drop, List.length_append, hd, h1, h2, hw1])); with_reducible refine hN _ _ ?_; clear hN N)
                  | (refine aX_reg1 fun N hN => ?_; simp (config := {maxSteps := 10000000}) (disch := first | (intro; intros; rename_i h; injection h; done) | omega) only [go_sem, Bool.false_or, Bool.true_or, Bool.or_true, Bool.or_false, Nat.reduceAdd, Nat.reduceSub, Nat.reduceMul, Nat.reduceLT, Nat.reduceLeDiff, Nat.lt_irrefl, Nat.le_refl, List.getElem?_toArray, bne_self_eq_false, Int.le_refl, Int.reduceLE, Int.reduceLT, Int.toNat_zero, Nat.zero_mul, List.all_cons, List.all_nil, Bool.and_self, Bool.and_true, Bool.true_and, Nat.reduceEqDiff, Nat.one_ne_zero, true_and, and_true, and_self, List.drop_succ_cons, List.drop_nil, List.take_succ_cons, List.take_nil, reduceCtorEq, Nat.sub_zero, Option.some.injEq, wrap_i64, wrap_u8, dec_t, dec_f, ite_t, ite_f, Int.toNat_natCast, Int.cast_ofNat_Int, toNat_cast_add, bcells_length, List.length_take, List.length_map, List.length_drop, List.length_append, hd, h1, h2, hw1]; with_reducible refine hN _ _ ?_; clear hN N)
                  | (refine aX_reg1 fun N hN => ?_; (try simp (config := {maxSteps := 10000000}) (disch := first | (intro; intros; rename_i h; injection h; done) | omega) only [go_sem, Bool.false_or, Bool.true_or, Bool.or_true, Bool.or_false, Nat.reduceAdd, Nat.reduceSub, Nat.reduceMul, Nat.reduceLT, Nat.reduceLeDiff, Nat.lt_irrefl, Nat.le_refl, List.getElem?_toArray, bne_self_eq_false, Int.le_refl, Int.reduceLE, Int.reduceLT, Int.toNat_zero, Nat.zero_mul, List.all_cons, List.all_nil, Bool.and_self, Bool.and_true, Bool.true_and, Nat.reduceEqDiff, Nat.one_ne_zero, true_and, and_true, and_self, List.drop_succ_cons, List.drop_nil, List.take_succ_cons, List.take_nil, reduceCtorEq, Nat.sub_zero, Option.some.injEq, wrap_i64, wrap_u8, dec_t, dec_f, ite_t, ite_f, Int.toNat_natCast, Int.cast_ofNat_Int, toNat_cast_add, bcells_length, List.length_take, List.length_map, List.length_drop, List.length_append, hd, h1, h2, hw1]); (repeat ((first | (refine (hlk).plain (by first | rfl | simp only [renL, ren, rE.ren, aE.ren, sE.ren, acell_noid, rcell_noid]) (by first | rfl | simp only [renL, ren, rE.ren, aE.ren, sE.ren, acell_noid, rcell_noid]) ?_)); try simp (config := {maxSteps := 10000000}) (disch := first | (intro; intros; rename_i h; injection h; done) | omega) only [go_sem, Bool.false_or, Bool.true_or, Bool.or_true, Bool.or_false, Nat.reduceAdd, Nat.reduceSub, Nat.reduceMul, Nat.reduceLT, Nat.reduceLeDiff, Nat.lt_irrefl, Nat.le_refl, List.getElem?_toArray, bne_self_eq_false, Int.le_refl, Int.reduceLE, Int.reduceLT, Int.toNat_zero, Nat.zero_mul, List.all_cons, List.all_nil, Bool.and_self, Bool.and_true, Bool.true_and, Nat.reduceEqDiff, Nat.one_ne_zero, true_and, and_true, and_self, List.drop_succ_cons, List.drop_nil, List.take_succ_cons, List.take_nil, reduceCtorEq, Nat.sub_zero, Option.some.injEq, wrap_i64, wrap_u8, dec_t, dec_f, ite_t, ite_f, Int.toNat_natCast, Int.cast_ofNat_Int, toNat_cast_add, bcells_length, List.length_take, List.length_map, List.length_drop, List.length_append, hd, h1, h2, hw1])); with_reducible refine hN _ _ ?_; clear hN N)
                  | (refine aX_seq_k fun N hN => ?_)
                  | (refine aX_block ?_)
                  | (refine aX_cond (b := true) rfl (fun _ => ?_) (fun h => by cases h))
                  | (refine aX_cond (b := false) rfl (fun h => by cases h) (fun _ => ?_))
                  | (refine aX_skip ?_)
                  | (refine aX_exit ?_)
                  | (with_reducible refine nxx_normal ?_)
                  | (with_reducible refine nx_normal ?_)
                  | (with_reducible refine hN _ _ ?_; clear hN N) | (with_reducible refine hN _ _ _ ?_; clear hN N) | (clear hN N; with_reducible refine hN _ _ ?_; clear hN N) | (clear hN N; with_reducible refine hN _ _ _ ?_; clear hN N) | (clear hN N; clear hN N; with_reducible refine hN _ _ ?_; clear hN N) | (clear hN N; clear hN N; with_reducible refine hN _ _ _ ?_; clear hN N) | (clear hN N; clear hN N; clear hN N; with_reducible refine hN _ _ ?_; clear hN N) | (clear hN N; clear hN N; clear hN N; with_reducible refine hN _ _ _ ?_; clear hN N)
                  | (with_reducible refine nxx_exit ?_)
                  | (with_reducible refine nxx_ret ?_)
                  | (with_reducible refine ibx_normal ?_)
                  | (with_reducible refine ibx_exit ?_)
                  | (with_reducible refine ibx_ret ?_)
                  | (with_reducible refine ibx_exit_ne (by decide) ?_)
                  | (with_reducible refine roundx_exit ?_)
                  | (with_reducible refine roundx_ret ?_))
                exact ⟨l.length - (k + 1), _, _, _, by omega, Weak.lit [0, 1, 2, 3, 4, 5, 6] (T0 := ((.fn (.yield y.l) [] :: .ptr 4 0 :: .ptr 6 0 :: .ptr 5 0 :: .unk :: .unk :: .unk :: .isl (rE.cells l) l.length :: .int .i64 l.length :: .int .i64 ((k + 1 : Nat) : Int) :: .unk :: .unk :: .unk :: .unk :: .unk :: .unk :: .unk :: .unk :: .unk :: .unk :: .unk :: .unk :: .unk :: .unk :: .unk :: .unk :: .unk :: .unk :: .unk :: .unk :: .unk :: .unk :: .unk :: .unk :: .unk :: []))) (h0 := some (.row [.int .i64 q.id, .str q.name, .int .i64 q.type, .int .i64 q.server] 23 true) :: some (.row [.int .i64 q.id, .int .i64 flags, .isl [.str q.name, .int .i64 q.type, .int .i64 1] 1, .isl (rE.cells l) l.length, .nilsl, .nilsl] 27 true) :: some (.row [.int .i64 0, .nilsl, .int .i64 0, .str [], .int .i64 0] 37 true) :: some (.row [.int .i64 0, adS 7 ([] : List Ad).length, .int .i64 ttl', .str last, .int .i64 pre.length] 37 true) :: some (.row [.isl (rE.cells l) l.length] 24 true) :: some (.row [.str last] 9 true) :: some (.row [.int .i64 q.type] 3 true) :: adH ([] : List Ad)) (by simp [LeL, LeV, ren, renL, pf, adS, rE.ren, aE.ren, sE.ren]) (by simp [Keeps, renB, renL, ren, rE.ren, aE.ren, adH, adS, pf]) (by decide) (by decide), k + 1, ttl', ([] : List Ad), hlt, rfl, by simp, hno, rfl, rfl, rfl⟩
              | cons a0 addrs =>
                simp only [adS, adH, List.length_cons] at hal ⊢
                repeat' (first
                  | (refine aX_reg fun N hN => ?_; simp (config := {maxSteps := 10000000}) (disch := first | (intro; intros; rename_i h; injection h; done) | omega) only [go_sem, Bool.false_or, Bool.true_or, Bool.or_true, Bool.or_false, Nat.reduceAdd, Nat.reduceSub, Nat.reduceMul, Nat.reduceLT, Nat.reduceLeDiff, Nat.lt_irrefl, Nat.le_refl, List.getElem?_toArray, bne_self_eq_false, Int.le_refl, Int.reduceLE, Int.reduceLT, Int.toNat_zero, Nat.zero_mul, List.all_cons, List.all_nil, Bool.and_self, Bool.and_true, Bool.true_and, Nat.reduceEqDiff, Nat.one_ne_zero, true_and, and_true, and_self, List.drop_succ_cons, List.drop_nil, List.take_succ_cons, List.take_nil, reduceCtorEq, Nat.sub_zero, Option.some.injEq, wrap_i64, wrap_u8, dec_t, dec_f, ite_t, ite_f, Int.toNat_natCast, Int.cast_ofNat_Int, toNat_cast_add, bcells_length, List.length_take, List.length_map, List.length_drop, List.length_append, hd, h1, h2, hw1]; with_reducible refine hN _ _ ?_; clear hN N)
                  | (refine aX_reg fun N hN => ?_; (try simp (config := {maxSteps := 10000000}) (disch := first | (intro; intros; rename_i h; injection h; done) | omega) only [go_sem, Bool.false_or, Bool.true_or, Bool.or_true, Bool.or_false, Nat.reduceAdd, Nat.reduceSub, Nat.reduceMul, Nat.reduceLT, Nat.reduceLeDiff, Nat.lt_irrefl, Nat.le_refl, List.getElem?_toArray, bne_self_eq_false, Int.le_refl, Int.reduceLE, Int.reduceLT, Int.toNat_zero, Nat.zero_mul, List.all_cons, List.all_nil, Bool.and_self, Bool.and_true, Bool.true_and, Nat.reduceEqDiff, Nat.one_ne_zero, true_and, and_true, and_self, List.drop_succ_cons, List.drop_nil, List.take_succ_cons, List.take_nil, reduceCtorEq, Nat.sub_zero, Option.some.injEq, wrap_i64, wrap_u8, dec_t, dec_f, ite_t, ite_f, Int.toNat_natCast, Int.cast_ofNat_Int, toNat_cast_add, bcells_length, List.length_take, List.length_map, List.length_drop, List.length_append, hd, h1, h2, hw1]); (repeat ((first | (refine (hlk).plain (by first | rfl | simp only [renL, ren, rE.ren, aE.ren, sE.ren, acell_noid, rcell_noid]) (by first | rfl | simp only [renL, ren, rE.ren, aE.ren, sE.ren, acell_noid, rcell_noid]) ?_)); try simp (config := {maxSteps := 10000000}) (disch := first | (intro; intros; rename_i h; injection h; done) | omega) only [go_sem, Bool.false_or, Bool.true_or, Bool.or_true, Bool.or_false, Nat.reduceAdd, Nat.reduceSub, Nat.reduceMul, Nat.reduceLT, Nat.reduceLeDiff, Nat.lt_irrefl, Nat.le_refl, List.getElem?_toArray, bne_self_eq_false, Int.le_refl, Int.reduceLE, Int.reduceLT, Int.toNat_zero, Nat.zero_mul, List.all_cons, List.all_nil, Bool.and_self, Bool.and_true, Bool.true_and, Nat.reduceEqDiff, Nat.one_ne_zero, true_and, and_true, and_self, List.drop_succ_cons, List.drop_nil, List.take_succ_cons, List.take_nil, reduceCtorEq, Nat.sub_zero, Option.some.injEq, wrap_i64, wrap_u8, dec_t, dec_f, ite_t, ite_f, Int.toNat_natCast, Int.cast_ofNat_Int, toNat_cast_add, bcells_length, List.length_take, List.length_map, List.length_drop, List.length_append, hd, h1, h2, hw1])); with_reducible refine hN _ _ ?_; clear hN N)
                  | (refine aX_reg1 fun N hN => ?_; simp (config := {maxSteps := 10000000}) (disch := first | (intro; intros; rename_i h; injection h; done) | omega) only [go_sem, Bool.false_or, Bool.true_or, Bool.or_true, Bool.or_false, Nat.reduceAdd, Nat.reduceSub, Nat.reduceMul, Nat.reduceLT, Nat.reduceLeDiff, Nat.lt_irrefl, Nat.le_refl, List.getElem?_toArray, bne_self_eq_false, Int.le_refl, Int.reduceLE, Int.reduceLT, Int.toNat_zero, Nat.zero_mul, List.all_cons, List.all_nil, Bool.and_self, Bool.and_true, Bool.true_and, Nat.reduceEqDiff, Nat.one_ne_zero, true_and, and_true, and_self, List.drop_succ_cons, List.drop_nil, List.take_succ_cons, List.take_nil, reduceCtorEq, Nat.sub_zero, Option.some.injEq, wrap_i64, wrap_u8, dec_t, dec_f, ite_t, ite_f, Int.toNat_natCast, Int.cast_ofNat_Int, toNat_cast_add, bcells_length, List.length_take, List.length_map, List.length_drop, List.length_append, hd, h1, h2, hw1]; with_reducible refine hN _ _ ?_; clear hN N)
                  | (refine aX_reg1 fun N hN => ?_; (try simp (config := {maxSteps := 10000000}) (disch := first | (intro; intros; rename_i h; injection h; done) | omega) only [go_sem, Bool.false_or, Bool.true_or, Bool.or_true, Bool.or_false, Nat.reduceAdd, Nat.reduceSub, Nat.reduceMul, Nat.reduceLT, Nat.reduceLeDiff, Nat.lt_irrefl, Nat.le_refl, List.getElem?_toArray, bne_self_eq_false, Int.le_refl, Int.reduceLE, Int.reduceLT, Int.toNat_zero, Nat.zero_mul, List.all_cons, List.all_nil, Bool.and_self, Bool.and_true, Bool.true_and, Nat.reduceEqDiff, Nat.one_ne_zero, true_and, and_true, and_self, List.drop_succ_cons, List.drop_nil, List.take_succ_cons, List.take_nil, reduceCtorEq, Nat.sub_zero, Option.some.injEq, wrap_i64, wrap_u8, dec_t, dec_f, ite_t, ite_f, Int.toNat_natCast, Int.cast_ofNat_Int, toNat_cast_add, bcells_length, List.length_take, List.length_map, List.length_drop, List.length_append, hd, h1, h2, hw1]); (repeat ((first | (refine (hlk).plain (by first | rfl | simp only [renL, ren, rE.ren, aE.ren, sE.ren, acell_noid, rcell_noid]) (by first | rfl | simp only [renL, ren, rE.ren, aE.ren, sE.ren, acell_noid, rcell_noid]) ?_)); try simp (config := {maxSteps := 10000000}) (disch := first | (intro; intros; rename_i h; injection h; done) | omega) only [go_sem, Bool.false_or, Bool.true_or, Bool.or_true, Bool.or_false, Nat.reduceAdd, Nat.reduceSub, Nat.reduceMul, Nat.reduceLT, Nat.reduceLeDiff, Nat.lt_irrefl, Nat.le_refl, List.getElem?_toArray, bne_self_eq_false, Int.le_refl, Int.reduceLE, Int.reduceLT, Int.toNat_zero, Nat.zero_mul, List.all_cons, List.all_nil, Bool.and_self, Bool.and_true, Bool.true_and, Nat.reduceEqDiff, Nat.one_ne_zero, true_and, and_true, and_self, List.drop_succ_cons, List.drop_nil, List.take_succ_cons, List.take_nil, reduceCtorEq, Nat.sub_zero, Option.some.injEq, wrap_i64, wrap_u8, dec_t, dec_f, ite_t, ite_f, Int.toNat_natCast, Int.cast_ofNat_Int, toNat_cast_add, bcells_length, List.length_take, List.length_map, List.length_drop, List.length_append, hd, h1, h2, hw1])); with_reducible refine hN _ _ ?_; clear hN N)
                  | (refine aX_seq_k fun N hN => ?_)
                  | (refine aX_block ?_)
                  | (refine aX_cond (b := true) rfl (fun _ => ?_) (fun h => by cases h))
                  | (refine aX_cond (b := false) rfl (fun h => by cases h) (fun _ => ?_))
                  | (refine aX_skip ?_)
                  | (refine aX_exit ?_)
                  | (with_reducible refine nxx_normal ?_)
                  | (with_reducible refine nx_normal ?_)
                  | (with_reducible refine hN _ _ ?_; clear hN N) | (with_reducible refine hN _ _ _ ?_; clear hN N) | (clear hN N; with_reducible refine hN _ _ ?_; clear hN N) | (clear hN N; with_reducible refine hN _ _ _ ?_; clear hN N) | (clear hN N; clear hN N; with_reducible refine hN _ _ ?_; clear hN N) | (clear hN N; clear hN N; with_reducible refine hN _ _ _ ?_; clear hN N) | (clear hN N; clear hN N; clear hN N; with_reducible refine hN _ _ ?_; clear hN N) | (clear hN N; clear hN N; clear hN N; with_reducible refine hN _ _ _ ?_; clear hN N)
                  | (with_reducible refine nxx_exit ?_)
                  | (with_reducible refine nxx_ret ?_)
                  | (with_reducible refine ibx_normal ?_)
                  | (with_reducible refine ibx_exit ?_)
                  | (with_reducible refine ibx_ret ?_)
                  | (with_reducible refine ibx_exit_ne (by decide) ?_)
                  | (with_reducible refine roundx_exit ?_)
                  | (with_reducible refine roundx_ret ?_))
                exact ⟨l.length - (k + 1), _, _, _, by omega, Weak.lit [0, 1, 2, 3, 4, 5, 6, 7] (T0 := ((.fn (.yield y.l) [] :: .ptr 4 0 :: .ptr 6 0 :: .ptr 5 0 :: .unk :: .unk :: .unk :: .isl (rE.cells l) l.length :: .int .i64 l.length :: .int .i64 ((k + 1 : Nat) : Int) :: .unk :: .unk :: .unk :: .unk :: .unk :: .unk :: .unk :: .unk :: .unk :: .unk :: .unk :: .unk :: .unk :: .unk :: .unk :: .unk :: .unk :: .unk :: .unk :: .unk :: .unk :: .unk :: .unk :: .unk :: .unk :: []))) (h0 := some (.row [.int .i64 q.id, .str q.name, .int .i64 q.type, .int .i64 q.server] 23 true) :: some (.row [.int .i64 q.id, .int .i64 flags, .isl [.str q.name, .int .i64 q.type, .int .i64 1] 1, .isl (rE.cells l) l.length, .nilsl, .nilsl] 27 true) :: some (.row [.int .i64 0, .nilsl, .int .i64 0, .str [], .int .i64 0] 37 true) :: some (.row [.int .i64 0, adS 7 (a0 :: addrs).length, .int .i64 ttl', .str last, .int .i64 pre.length] 37 true) :: some (.row [.isl (rE.cells l) l.length] 24 true) :: some (.row [.str last] 9 true) :: some (.row [.int .i64 q.type] 3 true) :: adH (a0 :: addrs)) (by simp [LeL, LeV, ren, renL, pf, adS, rE.ren, aE.ren, sE.ren]) (by simp [Keeps, renB, renL, ren, rE.ren, aE.ren, adH, adS, pf]) (by decide) (by decide), k + 1, ttl', (a0 :: addrs), hlt, rfl, by simp only [List.length_cons]; omega, hno, rfl, rfl, rfl⟩
            | true =>
              rw [h3] at hlk
              have hys := yes (by simp [isR, h1, h2, h3])
              cases addrs with
              | nil =>
                simp only [adS, adH, List.length_nil]
                have hst2 : tStep (ttl', []) x = (min ttl' x.ttl, [x.addr]) := by simp [tStep]
                rw [hst2] at hys
                have he1 : aE.cells [x.addr] = acell x.addr := List.append_nil _
                have hco : ACalls Try.prog 29 [.isl (aE.cells []) 0, .agg (acell x.addr)] [] (fun r h => r = .ret (.bool false) ∧ h = []) := by
                  have := contains_c [] (by simp) x.addr
                  rwa [decide_eq_false (by simp : ¬ x.addr ∈ ([] : List Ad))] at this
                repeat' (first
                  | (refine aX_reg fun N hN => ?_; simp (config := {maxSteps := 10000000}) (disch := first | (intro; intros; rename_i h; injection h; done) | omega) only [go_sem, Bool.false_or, Bool.true_or, Bool.or_true, Bool.or_false, Nat.reduceAdd, Nat.reduceSub, Nat.reduceMul, Nat.reduceLT, Nat.reduceLeDiff, Nat.lt_irrefl, Nat.le_refl, List.getElem?_toArray, bne_self_eq_false, Int.le_refl, Int.reduceLE, Int.reduceLT, Int.toNat_zero, Nat.zero_mul, List.all_cons, List.all_nil, Bool.and_self, Bool.and_true, Bool.true_and, Nat.reduceEqDiff, Nat.one_ne_zero, true_and, and_true, and_self, List.drop_succ_cons, List.drop_nil, List.take_succ_cons, List.take_nil, reduceCtorEq, Nat.sub_zero, Option.some.injEq, wrap_i64, wrap_u8, dec_t, dec_f, ite_t, ite_f, Int.toNat_natCast, Int.cast_ofNat_Int, toNat_cast_add, bcells_length, List.length_take, List.length_map, List.length_drop, List.length_append, hd, h1, h2]; with_reducible refine hN _ _ ?_; clear hN N)
                  | (refine aX_reg1 fun N hN => ?_; simp (config := {maxSteps := 10000000}) (disch := first | (intro; intros; rename_i h; injection h; done) | omega) only [go_sem, Bool.false_or, Bool.true_or, Bool.or_true, Bool.or_false, Nat.reduceAdd, Nat.reduceSub, Nat.reduceMul, Nat.reduceLT, Nat.reduceLeDiff, Nat.lt_irrefl, Nat.le_refl, List.getElem?_toArray, bne_self_eq_false, Int.le_refl, Int.reduceLE, Int.reduceLT, Int.toNat_zero, Nat.zero_mul, List.all_cons, List.all_nil, Bool.and_self, Bool.and_true, Bool.true_and, Nat.reduceEqDiff, Nat.one_ne_zero, true_and, and_true, and_self, List.drop_succ_cons, List.drop_nil, List.take_succ_cons, List.take_nil, reduceCtorEq, Nat.sub_zero, Option.some.injEq, wrap_i64, wrap_u8, dec_t, dec_f, ite_t, ite_f, Int.toNat_natCast, Int.cast_ofNat_Int, toNat_cast_add, bcells_length, List.length_take, List.length_map, List.length_drop, List.length_append, hd, h1, h2]; with_reducible refine hN _ _ ?_; clear hN N)
                  | (refine aX_seq_k fun N hN => ?_)
                  | (refine aX_block ?_)
                  | (refine aX_cond (b := true) rfl (fun _ => ?_) (fun h => by cases h))
                  | (refine aX_cond (b := false) rfl (fun h => by cases h) (fun _ => ?_))
                  | (refine aX_skip ?_)
                  | (refine aX_exit ?_)
                  | (with_reducible refine nxx_normal ?_)
                  | (with_reducible refine nx_normal ?_)
                  | (with_reducible refine hN _ _ ?_; clear hN N) | (with_reducible refine hN _ _ _ ?_; clear hN N) | (clear hN N; with_reducible refine hN _ _ ?_; clear hN N) | (clear hN N; with_reducible refine hN _ _ _ ?_; clear hN N) | (clear hN N; clear hN N; with_reducible refine hN _ _ ?_; clear hN N) | (clear hN N; clear hN N; with_reducible refine hN _ _ _ ?_; clear hN N) | (clear hN N; clear hN N; clear hN N; with_reducible refine hN _ _ ?_; clear hN N) | (clear hN N; clear hN N; clear hN N; with_reducible refine hN _ _ _ ?_; clear hN N)
                  | (with_reducible refine nxx_exit ?_)
                  | (with_reducible refine nxx_ret ?_)
                  | (with_reducible refine ibx_normal ?_)
                  | (with_reducible refine ibx_exit ?_)
                  | (with_reducible refine ibx_ret ?_)
                  | (with_reducible refine ibx_exit_ne (by decide) ?_)
                  | (with_reducible refine roundx_exit ?_)
                  | (with_reducible refine roundx_ret ?_))
                refine aX_regY 18 rfl rfl fun N hN => ?_
                simp only [List.take, List.drop]
                simp (config := {maxSteps := 10000000}) (disch := first | (intro; intros; rename_i h; injection h; done) | omega) only [go_sem, Bool.false_or, Bool.true_or, Bool.or_true, Bool.or_false, Nat.reduceAdd, Nat.reduceSub, Nat.reduceMul, Nat.reduceLT, Nat.reduceLeDiff, Nat.lt_irrefl, Nat.le_refl, List.getElem?_toArray, bne_self_eq_false, Int.le_refl, Int.reduceLE, Int.reduceLT, Int.toNat_zero, Nat.zero_mul, List.all_cons, List.all_nil, Bool.and_self, Bool.and_true, Bool.true_and, Nat.reduceEqDiff, Nat.one_ne_zero, true_and, and_true, and_self, List.drop_succ_cons, List.drop_nil, List.take_succ_cons, List.take_nil, reduceCtorEq, Nat.sub_zero, Option.some.injEq, wrap_i64, wrap_u8, dec_t, dec_f, ite_t, ite_f, Int.toNat_natCast, Int.cast_ofNat_Int, toNat_cast_add, bcells_length, List.length_take, List.length_map, List.length_drop, List.length_append, h1, h2]
                refine hlk.plain rfl rfl ?_
                simp (config := {maxSteps := 10000000}) (disch := first | (intro; intros; rename_i h; injection h; done) | omega) only [go_sem, Bool.false_or, Bool.true_or, Bool.or_true, Bool.or_false, Nat.reduceAdd, Nat.reduceSub, Nat.reduceMul, Nat.reduceLT, Nat.reduceLeDiff, Nat.lt_irrefl, Nat.le_refl, List.getElem?_toArray, bne_self_eq_false, Int.le_refl, Int.reduceLE, Int.reduceLT, Int.toNat_zero, Nat.zero_mul, List.all_cons, List.all_nil, Bool.and_self, Bool.and_true, Bool.true_and, Nat.reduceEqDiff, Nat.one_ne_zero, true_and, and_true, and_self, List.drop_succ_cons, List.drop_nil, List.take_succ_cons, List.take_nil, reduceCtorEq, Nat.sub_zero, Option.some.injEq, wrap_i64, wrap_u8, dec_t, dec_f, ite_t, ite_f, Int.toNat_natCast, Int.cast_ofNat_Int, toNat_cast_add, bcells_length, List.length_take, List.length_map, List.length_drop, List.length_append]
                refine hN _ _ y.l rfl rfl ⟨y, _, rfl, rfl, rfl, rfl, ?_⟩
                clear hN N
                simp only [hya, hyb, hyR, hyp, List.set_cons_zero, List.set_cons_succ]
                refine aX_reg1 fun N hN => ?_
                simp (config := {maxSteps := 10000000}) (disch := first | (intro; intros; rename_i h; injection h; done) | omega) only [go_sem, Bool.false_or, Bool.true_or, Bool.or_true, Bool.or_false, Nat.reduceAdd, Nat.reduceSub, Nat.reduceMul, Nat.reduceLT, Nat.reduceLeDiff, Nat.lt_irrefl, Nat.le_refl, List.getElem?_toArray, bne_self_eq_false, Int.le_refl, Int.reduceLE, Int.reduceLT, Int.toNat_zero, Nat.zero_mul, List.all_cons, List.all_nil, Bool.and_self, Bool.and_true, Bool.true_and, Nat.reduceEqDiff, Nat.one_ne_zero, true_and, and_true, and_self, List.drop_succ_cons, List.drop_nil, List.take_succ_cons, List.take_nil, reduceCtorEq, Nat.sub_zero, Option.some.injEq, wrap_i64, wrap_u8, dec_t, dec_f, ite_t, ite_f, Int.toNat_natCast, Int.cast_ofNat_Int, toNat_cast_add, bcells_length, List.length_take, List.length_map, List.length_drop, List.length_append]
                refine hN _ _ ?_; clear hN N
                show aX _ _ _ _ _ _ _ _
                repeat' (first
                  | (refine aX_reg fun N hN => ?_; simp (config := {maxSteps := 10000000}) (disch := first | (intro; intros; rename_i h; injection h; done) | omega) only [go_sem, Bool.false_or, Bool.true_or, Bool.or_true, Bool.or_false, Nat.reduceAdd, Nat.reduceSub, Nat.reduceMul, Nat.reduceLT, Nat.reduceLeDiff, Nat.lt_irrefl, Nat.le_refl, List.getElem?_toArray, bne_self_eq_false, Int.le_refl, Int.reduceLE, Int.reduceLT, Int.toNat_zero, Nat.zero_mul, List.all_cons, List.all_nil, Bool.and_self, Bool.and_true, Bool.true_and, Nat.reduceEqDiff, Nat.one_ne_zero, true_and, and_true, and_self, List.drop_succ_cons, List.drop_nil, List.take_succ_cons, List.take_nil, reduceCtorEq, Nat.sub_zero, Option.some.injEq, wrap_i64, wrap_u8, dec_t, dec_f, ite_t, ite_f, Int.toNat_natCast, Int.cast_ofNat_Int, toNat_cast_add, bcells_length, List.length_take, List.length_map, List.length_drop, List.length_append, hmn]; with_reducible refine hN _ _ ?_; clear hN N)
                  | (refine aX_reg1 fun N hN => ?_; simp (config := {maxSteps := 10000000}) (disch := first | (intro; intros; rename_i h; injection h; done) | omega) only [go_sem, Bool.false_or, Bool.true_or, Bool.or_true, Bool.or_false, Nat.reduceAdd, Nat.reduceSub, Nat.reduceMul, Nat.reduceLT, Nat.reduceLeDiff, Nat.lt_irrefl, Nat.le_refl, List.getElem?_toArray, bne_self_eq_false, Int.le_refl, Int.reduceLE, Int.reduceLT, Int.toNat_zero, Nat.zero_mul, List.all_cons, List.all_nil, Bool.and_self, Bool.and_true, Bool.true_and, Nat.reduceEqDiff, Nat.one_ne_zero, true_and, and_true, and_self, List.drop_succ_cons, List.drop_nil, List.take_succ_cons, List.take_nil, reduceCtorEq, Nat.sub_zero, Option.some.injEq, wrap_i64, wrap_u8, dec_t, dec_f, ite_t, ite_f, Int.toNat_natCast, Int.cast_ofNat_Int, toNat_cast_add, bcells_length, List.length_take, List.length_map, List.length_drop, List.length_append, hmn]; with_reducible refine hN _ _ ?_; clear hN N)
                  | (refine aX_seq_k fun N hN => ?_)
                  | (refine aX_block ?_)
                  | (refine aX_cond (b := true) rfl (fun _ => ?_) (fun h => by cases h))
                  | (refine aX_cond (b := false) rfl (fun h => by cases h) (fun _ => ?_))
                  | (refine aX_skip ?_)
                  | (refine aX_exit ?_)
                  | (with_reducible refine nxx_normal ?_)
                  | (with_reducible refine nx_normal ?_)
                  | (with_reducible refine hN _ _ ?_; clear hN N) | (with_reducible refine hN _ _ _ ?_; clear hN N) | (clear hN N; with_reducible refine hN _ _ ?_; clear hN N) | (clear hN N; with_reducible refine hN _ _ _ ?_; clear hN N) | (clear hN N; clear hN N; with_reducible refine hN _ _ ?_; clear hN N) | (clear hN N; clear hN N; with_reducible refine hN _ _ _ ?_; clear hN N) | (clear hN N; clear hN N; clear hN N; with_reducible refine hN _ _ ?_; clear hN N) | (clear hN N; clear hN N; clear hN N; with_reducible refine hN _ _ _ ?_; clear hN N)
                  | (with_reducible refine nxx_exit ?_)
                  | (with_reducible refine nxx_ret ?_)
                  | (with_reducible refine ibx_normal ?_)
                  | (with_reducible refine ibx_exit ?_)
                  | (with_reducible refine ibx_ret ?_)
                  | (with_reducible refine ibx_exit_ne (by decide) ?_)
                  | (with_reducible refine roundx_exit ?_)
                  | (with_reducible refine roundx_ret ?_))
                (first | refine aX_reg fun N hN => ?_ | refine aX_reg1 fun N hN => ?_)
                simp (config := {maxSteps := 10000000}) (disch := first | (intro; intros; rename_i h; injection h; done) | omega) only [go_sem, Bool.false_or, Bool.true_or, Bool.or_true, Bool.or_false, Nat.reduceAdd, Nat.reduceSub, Nat.reduceMul, Nat.reduceLT, Nat.reduceLeDiff, Nat.lt_irrefl, Nat.le_refl, List.getElem?_toArray, bne_self_eq_false, Int.le_refl, Int.reduceLE, Int.reduceLT, Int.toNat_zero, Nat.zero_mul, List.all_cons, List.all_nil, Bool.and_self, Bool.and_true, Bool.true_and, Nat.reduceEqDiff, Nat.one_ne_zero, true_and, and_true, and_self, List.drop_succ_cons, List.drop_nil, List.take_succ_cons, List.take_nil, reduceCtorEq, Nat.sub_zero, Option.some.injEq, wrap_i64, wrap_u8, dec_t, dec_f, ite_t, ite_f, Int.toNat_natCast, Int.cast_ofNat_Int, toNat_cast_add, bcells_length, List.length_take, List.length_map, List.length_drop, List.length_append]
                refine hco.pure [] ⟨.inr rfl, .inl (by simp only [LeV, ren, acell_noid]), trivial⟩ (.inl rfl) rfl ?_
                simp (config := {maxSteps := 10000000}) (disch := first | (intro; intros; rename_i h; injection h; done) | omega) only [go_sem, Bool.false_or, Bool.true_or, Bool.or_true, Bool.or_false, Nat.reduceAdd, Nat.reduceSub, Nat.reduceMul, Nat.reduceLT, Nat.reduceLeDiff, Nat.lt_irrefl, Nat.le_refl, List.getElem?_toArray, bne_self_eq_false, Int.le_refl, Int.reduceLE, Int.reduceLT, Int.toNat_zero, Nat.zero_mul, List.all_cons, List.all_nil, Bool.and_self, Bool.and_true, Bool.true_and, Nat.reduceEqDiff, Nat.one_ne_zero, true_and, and_true, and_self, List.drop_succ_cons, List.drop_nil, List.take_succ_cons, List.take_nil, reduceCtorEq, Nat.sub_zero, Option.some.injEq, wrap_i64, wrap_u8, dec_t, dec_f, ite_t, ite_f, Int.toNat_natCast, Int.cast_ofNat_Int, toNat_cast_add, bcells_length, List.length_take, List.length_map, List.length_drop, List.length_append]
                repeat (first | (with_reducible refine nx_normal ?_) | (with_reducible refine nxx_normal ?_) | (with_reducible refine hN _ _ ?_; clear hN N) | (with_reducible refine hN _ _ _ ?_; clear hN N) | (clear hN N; with_reducible refine hN _ _ ?_; clear hN N) | (clear hN N; with_reducible refine hN _ _ _ ?_; clear hN N) | (clear hN N; clear hN N; with_reducible refine hN _ _ ?_; clear hN N) | (clear hN N; clear hN N; with_reducible refine hN _ _ _ ?_; clear hN N) | (clear hN N; clear hN N; clear hN N; with_reducible refine hN _ _ ?_; clear hN N) | (clear hN N; clear hN N; clear hN N; with_reducible refine hN _ _ _ ?_; clear hN N))
                repeat' (first
                  | (refine aX_reg fun N hN => ?_; simp (config := {maxSteps := 10000000}) (disch := first | (intro; intros; rename_i h; injection h; done) | omega) only [go_sem, Bool.false_or, Bool.true_or, Bool.or_true, Bool.or_false, Nat.reduceAdd, Nat.reduceSub, Nat.reduceMul, Nat.reduceLT, Nat.reduceLeDiff, Nat.lt_irrefl, Nat.le_refl, List.getElem?_toArray, bne_self_eq_false, Int.le_refl, Int.reduceLE, Int.reduceLT, Int.toNat_zero, Nat.zero_mul, List.all_cons, List.all_nil, Bool.and_self, Bool.and_true, Bool.true_and, Nat.reduceEqDiff, Nat.one_ne_zero, true_and, and_true, and_self, List.drop_succ_cons, List.drop_nil, List.take_succ_cons, List.take_nil, reduceCtorEq, Nat.sub_zero, Option.some.injEq, wrap_i64, wrap_u8, dec_t, dec_f, ite_t, ite_f, Int.toNat_natCast, Int.cast_ofNat_Int, toNat_cast_add, bcells_length, List.length_take, List.length_map, List.length_drop, List.length_append]; with_reducible refine hN _ _ ?_; clear hN N)
                  | (refine aX_reg1 fun N hN => ?_; simp (config := {maxSteps := 10000000}) (disch := first | (intro; intros; rename_i h; injection h; done) | omega) only [go_sem, Bool.false_or, Bool.true_or, Bool.or_true, Bool.or_false, Nat.reduceAdd, Nat.reduceSub, Nat.reduceMul, Nat.reduceLT, Nat.reduceLeDiff, Nat.lt_irrefl, Nat.le_refl, List.getElem?_toArray, bne_self_eq_false, Int.le_refl, Int.reduceLE, Int.reduceLT, Int.toNat_zero, Nat.zero_mul, List.all_cons, List.all_nil, Bool.and_self, Bool.and_true, Bool.true_and, Nat.reduceEqDiff, Nat.one_ne_zero, true_and, and_true, and_self, List.drop_succ_cons, List.drop_nil, List.take_succ_cons, List.take_nil, reduceCtorEq, Nat.sub_zero, Option.some.injEq, wrap_i64, wrap_u8, dec_t, dec_f, ite_t, ite_f, Int.toNat_natCast, Int.cast_ofNat_Int, toNat_cast_add, bcells_length, List.length_take, List.length_map, List.length_drop, List.length_append]; with_reducible refine hN _ _ ?_; clear hN N)
                  | (refine aX_seq_k fun N hN => ?_)
                  | (refine aX_block ?_)
                  | (refine aX_cond (b := true) rfl (fun _ => ?_) (fun h => by cases h))
                  | (refine aX_cond (b := false) rfl (fun h => by cases h) (fun _ => ?_))
                  | (refine aX_skip ?_)
                  | (refine aX_exit ?_)
                  | (with_reducible refine nxx_normal ?_)
                  | (with_reducible refine nx_normal ?_)
                  | (with_reducible refine hN _ _ ?_; clear hN N) | (with_reducible refine hN _ _ _ ?_; clear hN N) | (clear hN N; with_reducible refine hN _ _ ?_; clear hN N) | (clear hN N; with_reducible refine hN _ _ _ ?_; clear hN N) | (clear hN N; clear hN N; with_reducible refine hN _ _ ?_; clear hN N) | (clear hN N; clear hN N; with_reducible refine hN _ _ _ ?_; clear hN N) | (clear hN N; clear hN N; clear hN N; with_reducible refine hN _ _ ?_; clear hN N) | (clear hN N; clear hN N; clear hN N; with_reducible refine hN _ _ _ ?_; clear hN N)
                  | (with_reducible refine nxx_exit ?_)
                  | (with_reducible refine nxx_ret ?_)
                  | (with_reducible refine ibx_normal ?_)
                  | (with_reducible refine ibx_exit ?_)
                  | (with_reducible refine ibx_ret ?_)
                  | (with_reducible refine ibx_exit_ne (by decide) ?_)
                  | (with_reducible refine roundx_exit ?_)
                  | (with_reducible refine roundx_ret ?_))
                show sOps _ _ _ _ _
                simp only [List.drop, List.map_cons, List.map_nil]
                simp (config := {maxSteps := 10000000}) (disch := first | (intro; intros; rename_i h; injection h; done) | omega) only [go_sem, Bool.false_or, Bool.true_or, Bool.or_true, Bool.or_false, Nat.reduceAdd, Nat.reduceSub, Nat.reduceMul, Nat.reduceLT, Nat.reduceLeDiff, Nat.lt_irrefl, Nat.le_refl, List.getElem?_toArray, bne_self_eq_false, Int.le_refl, Int.reduceLE, Int.reduceLT, Int.toNat_zero, Nat.zero_mul, List.all_cons, List.all_nil, Bool.and_self, Bool.and_true, Bool.true_and, Nat.reduceEqDiff, Nat.one_ne_zero, true_and, and_true, and_self, List.drop_succ_cons, List.drop_nil, List.take_succ_cons, List.take_nil, reduceCtorEq, Nat.sub_zero, Option.some.injEq, wrap_i64, wrap_u8, dec_t, dec_f, ite_t, ite_f, Int.toNat_natCast, Int.cast_ofNat_Int, toNat_cast_add, bcells_length, List.length_take, List.length_map, List.length_drop, List.length_append]
                repeat (first | (with_reducible refine nx_normal ?_) | (with_reducible refine nxx_normal ?_) | (with_reducible refine hN _ _ ?_; clear hN N) | (with_reducible refine hN _ _ _ ?_; clear hN N) | (clear hN N; with_reducible refine hN _ _ ?_; clear hN N) | (clear hN N; with_reducible refine hN _ _ _ ?_; clear hN N) | (clear hN N; clear hN N; with_reducible refine hN _ _ ?_; clear hN N) | (clear hN N; clear hN N; with_reducible refine hN _ _ _ ?_; clear hN N) | (clear hN N; clear hN N; clear hN N; with_reducible refine hN _ _ ?_; clear hN N) | (clear hN N; clear hN N; clear hN N; with_reducible refine hN _ _ _ ?_; clear hN N))
                repeat' (first
                  | (refine aX_reg fun N hN => ?_; simp (config := {maxSteps := 10000000}) (disch := first | (intro; intros; rename_i h; injection h; done) | omega) only [go_sem, Bool.false_or, Bool.true_or, Bool.or_true, Bool.or_false, Nat.reduceAdd, Nat.reduceSub, Nat.reduceMul, Nat.reduceLT, Nat.reduceLeDiff, Nat.lt_irrefl, Nat.le_refl, List.getElem?_toArray, bne_self_eq_false, Int.le_refl, Int.reduceLE, Int.reduceLT, Int.toNat_zero, Nat.zero_mul, List.all_cons, List.all_nil, Bool.and_self, Bool.and_true, Bool.true_and, Nat.reduceEqDiff, Nat.one_ne_zero, true_and, and_true, and_self, List.drop_succ_cons, List.drop_nil, List.take_succ_cons, List.take_nil, reduceCtorEq, Nat.sub_zero, Option.some.injEq, wrap_i64, wrap_u8, dec_t, dec_f, ite_t, ite_f, Int.toNat_natCast, Int.cast_ofNat_Int, toNat_cast_add, bcells_length, List.length_take, List.length_map, List.length_drop, List.length_append, hw1]; with_reducible refine hN _ _ ?_; clear hN N)
                  | (refine aX_reg1 fun N hN => ?_; simp (config := {maxSteps := 10000000}) (disch := first | (intro; intros; rename_i h; injection h; done) | omega) only [go_sem, Bool.false_or, Bool.true_or, Bool.or_true, Bool.or_false, Nat.reduceAdd, Nat.reduceSub, Nat.reduceMul, Nat.reduceLT, Nat.reduceLeDiff, Nat.lt_irrefl, Nat.le_refl, List.getElem?_toArray, bne_self_eq_false, Int.le_refl, Int.reduceLE, Int.reduceLT, Int.toNat_zero, Nat.zero_mul, List.all_cons, List.all_nil, Bool.and_self, Bool.and_true, Bool.true_and, Nat.reduceEqDiff, Nat.one_ne_zero, true_and, and_true, and_self, List.drop_succ_cons, List.drop_nil, List.take_succ_cons, List.take_nil, reduceCtorEq, Nat.sub_zero, Option.some.injEq, wrap_i64, wrap_u8, dec_t, dec_f, ite_t, ite_f, Int.toNat_natCast, Int.cast_ofNat_Int, toNat_cast_add, bcells_length, List.length_take, List.length_map, List.length_drop, List.length_append, hw1]; with_reducible refine hN _ _ ?_; clear hN N)
                  | (refine aX_seq_k fun N hN => ?_)
                  | (refine aX_block ?_)
                  | (refine aX_cond (b := true) rfl (fun _ => ?_) (fun h => by cases h))
                  | (refine aX_cond (b := false) rfl (fun h => by cases h) (fun _ => ?_))
                  | (refine aX_skip ?_)
                  | (refine aX_exit ?_)
                  | (with_reducible refine nxx_normal ?_)
                  | (with_reducible refine nx_normal ?_)
                  | (with_reducible refine hN _ _ ?_; clear hN N) | (with_reducible refine hN _ _ _ ?_; clear hN N) | (clear hN N; with_reducible refine hN _ _ ?_; clear hN N) | (clear hN N; with_reducible refine hN _ _ _ ?_; clear hN N) | (clear hN N; clear hN N; with_reducible refine hN _ _ ?_; clear hN N) | (clear hN N; clear hN N; with_reducible refine hN _ _ _ ?_; clear hN N) | (clear hN N; clear hN N; clear hN N; with_reducible refine hN _ _ ?_; clear hN N) | (clear hN N; clear hN N; clear hN N; with_reducible refine hN _ _ _ ?_; clear hN N)
                  | (with_reducible refine nxx_exit ?_)
                  | (with_reducible refine nxx_ret ?_)
                  | (with_reducible refine ibx_normal ?_)
                  | (with_reducible refine ibx_exit ?_)
                  | (with_reducible refine ibx_ret ?_)
                  | (with_reducible refine ibx_exit_ne (by decide) ?_)
                  | (with_reducible refine roundx_exit ?_)
                  | (with_reducible refine roundx_ret ?_))
                exact ⟨l.length - (k + 1), _, _, _, by omega, Weak.lit [0, 1, 2, 3, 4, 5, 6, 10] (T0 := ((.fn (.yield y.l) [] :: .ptr 4 0 :: .ptr 6 0 :: .ptr 5 0 :: .unk :: .unk :: .unk :: .isl (rE.cells l) l.length :: .int .i64 l.length :: .int .i64 ((k + 1 : Nat) : Int) :: .unk :: .unk :: .unk :: .unk :: .unk :: .unk :: .unk :: .unk :: .unk :: .unk :: .unk :: .unk :: .unk :: .unk :: .unk :: .unk :: .unk :: .unk :: .unk :: .unk :: .unk :: .unk :: .unk :: .unk :: .unk :: []))) (h0 := some (.row [.int .i64 q.id, .str q.name, .int .i64 q.type, .int .i64 q.server] 23 true) :: some (.row [.int .i64 q.id, .int .i64 flags, .isl [.str q.name, .int .i64 q.type, .int .i64 1] 1, .isl (rE.cells l) l.length, .nilsl, .nilsl] 27 true) :: some (.row [.int .i64 0, .nilsl, .int .i64 0, .str [], .int .i64 0] 37 true) :: some (.row [.int .i64 0, adS 7 [x.addr].length, .int .i64 (min ttl' x.ttl), .str last, .int .i64 pre.length] 37 true) :: some (.row [.isl (rE.cells l) l.length] 24 true) :: some (.row [.str last] 9 true) :: some (.row [.int .i64 q.type] 3 true) :: adH [x.addr]) (by simp [LeL, LeV, ren, renL, pf, adS, rE.ren, aE.ren, sE.ren]) (by simp [Keeps, renB, renL, ren, rE.ren, aE.ren, adH, adS, pf, he1, acell_noid]) (by decide) (by decide), k + 1, (min ttl' x.ttl), [x.addr], hlt, rfl, by simp, hys, rfl, rfl, rfl⟩
              | cons a0 addrs =>
                simp only [adS, adH, List.length_cons] at hal ⊢
                by_cases hmem : x.addr ∈ a0 :: addrs
                · have hst2 : tStep (ttl', a0 :: addrs) x = (min ttl' x.ttl, a0 :: addrs) := by simp only [tStep, if_pos hmem]
                  rw [hst2] at hys
                  have hco := contains_c (a0 :: addrs) (by simp only [List.length_cons]; omega) x.addr
                  rw [decide_eq_true hmem] at hco
                  repeat' (first
                    | (refine aX_reg fun N hN => ?_; simp (config := {maxSteps := 10000000}) (disch := first | (intro; intros; rename_i h; injection h; done) | omega) only [go_sem, Bool.false_or, Bool.true_or, Bool.or_true, Bool.or_false, Nat.reduceAdd, Nat.reduceSub, Nat.reduceMul, Nat.reduceLT, Nat.reduceLeDiff, Nat.lt_irrefl, Nat.le_refl, List.getElem?_toArray, bne_self_eq_false, Int.le_refl, Int.reduceLE, Int.reduceLT, Int.toNat_zero, Nat.zero_mul, List.all_cons, List.all_nil, Bool.and_self, Bool.and_true, Bool.true_and, Nat.reduceEqDiff, Nat.one_ne_zero, true_and, and_true, and_self, List.drop_succ_cons, List.drop_nil, List.take_succ_cons, List.take_nil, reduceCtorEq, Nat.sub_zero, Option.some.injEq, wrap_i64, wrap_u8, dec_t, dec_f, ite_t, ite_f, Int.toNat_natCast, Int.cast_ofNat_Int, toNat_cast_add, bcells_length, List.length_take, List.length_map, List.length_drop, List.length_append, hd, h1, h2]; with_reducible refine hN _ _ ?_; clear hN N)
                    | (refine aX_reg1 fun N hN => ?_; simp (config := {maxSteps := 10000000}) (disch := first | (intro; intros; rename_i h; injection h; done) | omega) only [go_sem, Bool.false_or, Bool.true_or, Bool.or_true, Bool.or_false, Nat.reduceAdd, Nat.reduceSub, Nat.reduceMul, Nat.reduceLT, Nat.reduceLeDiff, Nat.lt_irrefl, Nat.le_refl, List.getElem?_toArray, bne_self_eq_false, Int.le_refl, Int.reduceLE, Int.reduceLT, Int.toNat_zero, Nat.zero_mul, List.all_cons, List.all_nil, Bool.and_self, Bool.and_true, Bool.true_and, Nat.reduceEqDiff, Nat.one_ne_zero, true_and, and_true, and_self, List.drop_succ_cons, List.drop_nil, List.take_succ_cons, List.take_nil, reduceCtorEq, Nat.sub_zero, Option.some.injEq, wrap_i64, wrap_u8, dec_t, dec_f, ite_t, ite_f, Int.toNat_natCast, Int.cast_ofNat_Int, toNat_cast_add, bcells_length, List.length_take, List.length_map, List.length_drop, List.length_append, hd, h1, h2]; with_reducible refine hN _ _ ?_; clear hN N)
                    | (refine aX_seq_k fun N hN => ?_)
                    | (refine aX_block ?_)
                    | (refine aX_cond (b := true) rfl (fun _ => ?_) (fun h => by cases h))
                    | (refine aX_cond (b := false) rfl (fun h => by cases h) (fun _ => ?_))
                    | (refine aX_skip ?_)
                    | (refine aX_exit ?_)
                    | (with_reducible refine nxx_normal ?_)
                    | (with_reducible refine nx_normal ?_)
                    | (with_reducible refine hN _ _ ?_; clear hN N) | (with_reducible refine hN _ _ _ ?_; clear hN N) | (clear hN N; with_reducible refine hN _ _ ?_; clear hN N) | (clear hN N; with_reducible refine hN _ _ _ ?_; clear hN N) | (clear hN N; clear hN N; with_reducible refine hN _ _ ?_; clear hN N) | (clear hN N; clear hN N; with_reducible refine hN _ _ _ ?_; clear hN N) | (clear hN N; clear hN N; clear hN N; with_reducible refine hN _ _ ?_; clear hN N) | (clear hN N; clear hN N; clear hN N; with_reducible refine hN _ _ _ ?_; clear hN N)
                    | (with_reducible refine nxx_exit ?_)
                    | (with_reducible refine nxx_ret ?_)
                    | (with_reducible refine ibx_normal ?_)
                    | (with_reducible refine ibx_exit ?_)
                    | (with_reducible refine ibx_ret ?_)
                    | (with_reducible refine ibx_exit_ne (by decide) ?_)
                    | (with_reducible refine roundx_exit ?_)
                    | (with_reducible refine roundx_ret ?_))
                  refine aX_regY 18 rfl rfl fun N hN => ?_
                  simp only [List.take, List.drop]
                  simp (config := {maxSteps := 10000000}) (disch := first | (intro; intros; rename_i h; injection h; done) | omega) only [go_sem, Bool.false_or, Bool.true_or, Bool.or_true, Bool.or_false, Nat.reduceAdd, Nat.reduceSub, Nat.reduceMul, Nat.reduceLT, Nat.reduceLeDiff, Nat.lt_irrefl, Nat.le_refl, List.getElem?_toArray, bne_self_eq_false, Int.le_refl, Int.reduceLE, Int.reduceLT, Int.toNat_zero, Nat.zero_mul, List.all_cons, List.all_nil, Bool.and_self, Bool.and_true, Bool.true_and, Nat.reduceEqDiff, Nat.one_ne_zero, true_and, and_true, and_self, List.drop_succ_cons, List.drop_nil, List.take_succ_cons, List.take_nil, reduceCtorEq, Nat.sub_zero, Option.some.injEq, wrap_i64, wrap_u8, dec_t, dec_f, ite_t, ite_f, Int.toNat_natCast, Int.cast_ofNat_Int, toNat_cast_add, bcells_length, List.length_take, List.length_map, List.length_drop, List.length_append, h1, h2]
                  refine hlk.plain rfl rfl ?_
                  simp (config := {maxSteps := 10000000}) (disch := first | (intro; intros; rename_i h; injection h; done) | omega) only [go_sem, Bool.false_or, Bool.true_or, Bool.or_true, Bool.or_false, Nat.reduceAdd, Nat.reduceSub, Nat.reduceMul, Nat.reduceLT, Nat.reduceLeDiff, Nat.lt_irrefl, Nat.le_refl, List.getElem?_toArray, bne_self_eq_false, Int.le_refl, Int.reduceLE, Int.reduceLT, Int.toNat_zero, Nat.zero_mul, List.all_cons, List.all_nil, Bool.and_self, Bool.and_true, Bool.true_and, Nat.reduceEqDiff, Nat.one_ne_zero, true_and, and_true, and_self, List.drop_succ_cons, List.drop_nil, List.take_succ_cons, List.take_nil, reduceCtorEq, Nat.sub_zero, Option.some.injEq, wrap_i64, wrap_u8, dec_t, dec_f, ite_t, ite_f, Int.toNat_natCast, Int.cast_ofNat_Int, toNat_cast_add, bcells_length, List.length_take, List.length_map, List.length_drop, List.length_append]
                  refine hN _ _ y.l rfl rfl ⟨y, _, rfl, rfl, rfl, rfl, ?_⟩
                  clear hN N
                  simp only [hya, hyb, hyR, hyp, List.set_cons_zero, List.set_cons_succ]
                  refine aX_reg1 fun N hN => ?_
                  simp (config := {maxSteps := 10000000}) (disch := first | (intro; intros; rename_i h; injection h; done) | omega) only [go_sem, Bool.false_or, Bool.true_or, Bool.or_true, Bool.or_false, Nat.reduceAdd, Nat.reduceSub, Nat.reduceMul, Nat.reduceLT, Nat.reduceLeDiff, Nat.lt_irrefl, Nat.le_refl, List.getElem?_toArray, bne_self_eq_false, Int.le_refl, Int.reduceLE, Int.reduceLT, Int.toNat_zero, Nat.zero_mul, List.all_cons, List.all_nil, Bool.and_self, Bool.and_true, Bool.true_and, Nat.reduceEqDiff, Nat.one_ne_zero, true_and, and_true, and_self, List.drop_succ_cons, List.drop_nil, List.take_succ_cons, List.take_nil, reduceCtorEq, Nat.sub_zero, Option.some.injEq, wrap_i64, wrap_u8, dec_t, dec_f, ite_t, ite_f, Int.toNat_natCast, Int.cast_ofNat_Int, toNat_cast_add, bcells_length, List.length_take, List.length_map, List.length_drop, List.length_append]
                  refine hN _ _ ?_; clear hN N
                  show aX _ _ _ _ _ _ _ _
                  repeat' (first
                    | (refine aX_reg fun N hN => ?_; simp (config := {maxSteps := 10000000}) (disch := first | (intro; intros; rename_i h; injection h; done) | omega) only [go_sem, Bool.false_or, Bool.true_or, Bool.or_true, Bool.or_false, Nat.reduceAdd, Nat.reduceSub, Nat.reduceMul, Nat.reduceLT, Nat.reduceLeDiff, Nat.lt_irrefl, Nat.le_refl, List.getElem?_toArray, bne_self_eq_false, Int.le_refl, Int.reduceLE, Int.reduceLT, Int.toNat_zero, Nat.zero_mul, List.all_cons, List.all_nil, Bool.and_self, Bool.and_true, Bool.true_and, Nat.reduceEqDiff, Nat.one_ne_zero, true_and, and_true, and_self, List.drop_succ_cons, List.drop_nil, List.take_succ_cons, List.take_nil, reduceCtorEq, Nat.sub_zero, Option.some.injEq, wrap_i64, wrap_u8, dec_t, dec_f, ite_t, ite_f, Int.toNat_natCast, Int.cast_ofNat_Int, toNat_cast_add, bcells_length, List.length_take, List.length_map, List.length_drop, List.length_append, hmn]; with_reducible refine hN _ _ ?_; clear hN N)
                    | (refine aX_reg1 fun N hN => ?_; simp (config := {maxSteps := 10000000}) (disch := first | (intro; intros; rename_i h; injection h; done) | omega) only [go_sem, Bool.false_or, Bool.true_or, Bool.or_true, Bool.or_false, Nat.reduceAdd, Nat.reduceSub, Nat.reduceMul, Nat.reduceLT, Nat.reduceLeDiff, Nat.lt_irrefl, Nat.le_refl, List.getElem?_toArray, bne_self_eq_false, Int.le_refl, Int.reduceLE, Int.reduceLT, Int.toNat_zero, Nat.zero_mul, List.all_cons, List.all_nil, Bool.and_self, Bool.and_true, Bool.true_and, Nat.reduceEqDiff, Nat.one_ne_zero, true_and, and_true, and_self, List.drop_succ_cons, List.drop_nil, List.take_succ_cons, List.take_nil, reduceCtorEq, Nat.sub_zero, Option.some.injEq, wrap_i64, wrap_u8, dec_t, dec_f, ite_t, ite_f, Int.toNat_natCast, Int.cast_ofNat_Int, toNat_cast_add, bcells_length, List.length_take, List.length_map, List.length_drop, List.length_append, hmn]; with_reducible refine hN _ _ ?_; clear hN N)
                    | (refine aX_seq_k fun N hN => ?_)
                    | (refine aX_block ?_)
                    | (refine aX_cond (b := true) rfl (fun _ => ?_) (fun h => by cases h))
                    | (refine aX_cond (b := false) rfl (fun h => by cases h) (fun _ => ?_))
                    | (refine aX_skip ?_)
                    | (refine aX_exit ?_)
                    | (with_reducible refine nxx_normal ?_)
                    | (with_reducible refine nx_normal ?_)
                    | (with_reducible refine hN _ _ ?_; clear hN N) | (with_reducible refine hN _ _ _ ?_; clear hN N) | (clear hN N; with_reducible refine hN _ _ ?_; clear hN N) | (clear hN N; with_reducible refine hN _ _ _ ?_; clear hN N) | (clear hN N; clear hN N; with_reducible refine hN _ _ ?_; clear hN N) | (clear hN N; clear hN N; with_reducible refine hN _ _ _ ?_; clear hN N) | (clear hN N; clear hN N; clear hN N; with_reducible refine hN _ _ ?_; clear hN N) | (clear hN N; clear hN N; clear hN N; with_reducible refine hN _ _ _ ?_; clear hN N)
                    | (with_reducible refine nxx_exit ?_)
                    | (with_reducible refine nxx_ret ?_)
                    | (with_reducible refine ibx_normal ?_)
                    | (with_reducible refine ibx_exit ?_)
                    | (with_reducible refine ibx_ret ?_)
                    | (with_reducible refine ibx_exit_ne (by decide) ?_)
                    | (with_reducible refine roundx_exit ?_)
                    | (with_reducible refine roundx_ret ?_))
                  (first | refine aX_reg fun N hN => ?_ | refine aX_reg1 fun N hN => ?_)
                  simp (config := {maxSteps := 10000000}) (disch := first | (intro; intros; rename_i h; injection h; done) | omega) only [go_sem, Bool.false_or, Bool.true_or, Bool.or_true, Bool.or_false, Nat.reduceAdd, Nat.reduceSub, Nat.reduceMul, Nat.reduceLT, Nat.reduceLeDiff, Nat.lt_irrefl, Nat.le_refl, List.getElem?_toArray, bne_self_eq_false, Int.le_refl, Int.reduceLE, Int.reduceLT, Int.toNat_zero, Nat.zero_mul, List.all_cons, List.all_nil, Bool.and_self, Bool.and_true, Bool.true_and, Nat.reduceEqDiff, Nat.one_ne_zero, true_and, and_true, and_self, List.drop_succ_cons, List.drop_nil, List.take_succ_cons, List.take_nil, reduceCtorEq, Nat.sub_zero, Option.some.injEq, wrap_i64, wrap_u8, dec_t, dec_f, ite_t, ite_f, Int.toNat_natCast, Int.cast_ofNat_Int, toNat_cast_add, bcells_length, List.length_take, List.length_map, List.length_drop, List.length_append]
                  refine hco.pure [7] ⟨.inr ⟨by simp, rfl, _, _, _, rfl, by rw [aE.ren]; exact (List.take_of_length_le (Nat.le_refl _)).symm⟩, .inl (by simp only [LeV, ren, acell_noid]), trivial⟩ (.inr rfl) rfl ?_
                  simp (config := {maxSteps := 10000000}) (disch := first | (intro; intros; rename_i h; injection h; done) | omega) only [go_sem, Bool.false_or, Bool.true_or, Bool.or_true, Bool.or_false, Nat.reduceAdd, Nat.reduceSub, Nat.reduceMul, Nat.reduceLT, Nat.reduceLeDiff, Nat.lt_irrefl, Nat.le_refl, List.getElem?_toArray, bne_self_eq_false, Int.le_refl, Int.reduceLE, Int.reduceLT, Int.toNat_zero, Nat.zero_mul, List.all_cons, List.all_nil, Bool.and_self, Bool.and_true, Bool.true_and, Nat.reduceEqDiff, Nat.one_ne_zero, true_and, and_true, and_self, List.drop_succ_cons, List.drop_nil, List.take_succ_cons, List.take_nil, reduceCtorEq, Nat.sub_zero, Option.some.injEq, wrap_i64, wrap_u8, dec_t, dec_f, ite_t, ite_f, Int.toNat_natCast, Int.cast_ofNat_Int, toNat_cast_add, bcells_length, List.length_take, List.length_map, List.length_drop, List.length_append]
                  repeat (first | (with_reducible refine nx_normal ?_) | (with_reducible refine nxx_normal ?_) | (with_reducible refine hN _ _ ?_; clear hN N) | (with_reducible refine hN _ _ _ ?_; clear hN N) | (clear hN N; with_reducible refine hN _ _ ?_; clear hN N) | (clear hN N; with_reducible refine hN _ _ _ ?_; clear hN N) | (clear hN N; clear hN N; with_reducible refine hN _ _ ?_; clear hN N) | (clear hN N; clear hN N; with_reducible refine hN _ _ _ ?_; clear hN N) | (clear hN N; clear hN N; clear hN N; with_reducible refine hN _ _ ?_; clear hN N) | (clear hN N; clear hN N; clear hN N; with_reducible refine hN _ _ _ ?_; clear hN N))
                  repeat' (first
                    | (refine aX_reg fun N hN => ?_; simp (config := {maxSteps := 10000000}) (disch := first | (intro; intros; rename_i h; injection h; done) | omega) only [go_sem, Bool.false_or, Bool.true_or, Bool.or_true, Bool.or_false, Nat.reduceAdd, Nat.reduceSub, Nat.reduceMul, Nat.reduceLT, Nat.reduceLeDiff, Nat.lt_irrefl, Nat.le_refl, List.getElem?_toArray, bne_self_eq_false, Int.le_refl, Int.reduceLE, Int.reduceLT, Int.toNat_zero, Nat.zero_mul, List.all_cons, List.all_nil, Bool.and_self, Bool.and_true, Bool.true_and, Nat.reduceEqDiff, Nat.one_ne_zero, true_and, and_true, and_self, List.drop_succ_cons, List.drop_nil, List.take_succ_cons, List.take_nil, reduceCtorEq, Nat.sub_zero, Option.some.injEq, wrap_i64, wrap_u8, dec_t, dec_f, ite_t, ite_f, Int.toNat_natCast, Int.cast_ofNat_Int, toNat_cast_add, bcells_length, List.length_take, List.length_map, List.length_drop, List.length_append]; with_reducible refine hN _ _ ?_; clear hN N)
                    | (refine aX_reg1 fun N hN => ?_; simp (config := {maxSteps := 10000000}) (disch := first | (intro; intros; rename_i h; injection h; done) | omega) only [go_sem, Bool.false_or, Bool.true_or, Bool.or_true, Bool.or_false, Nat.reduceAdd, Nat.reduceSub, Nat.reduceMul, Nat.reduceLT, Nat.reduceLeDiff, Nat.lt_irrefl, Nat.le_refl, List.getElem?_toArray, bne_self_eq_false, Int.le_refl, Int.reduceLE, Int.reduceLT, Int.toNat_zero, Nat.zero_mul, List.all_cons, List.all_nil, Bool.and_self, Bool.and_true, Bool.true_and, Nat.reduceEqDiff, Nat.one_ne_zero, true_and, and_true, and_self, List.drop_succ_cons, List.drop_nil, List.take_succ_cons, List.take_nil, reduceCtorEq, Nat.sub_zero, Option.some.injEq, wrap_i64, wrap_u8, dec_t, dec_f, ite_t, ite_f, Int.toNat_natCast, Int.cast_ofNat_Int, toNat_cast_add, bcells_length, List.length_take, List.length_map, List.length_drop, List.length_append]; with_reducible refine hN _ _ ?_; clear hN N)
                    | (refine aX_seq_k fun N hN => ?_)
                    | (refine aX_block ?_)
                    | (refine aX_cond (b := true) rfl (fun _ => ?_) (fun h => by cases h))
                    | (refine aX_cond (b := false) rfl (fun h => by cases h) (fun _ => ?_))
                    | (refine aX_skip ?_)
                    | (refine aX_exit ?_)
                    | (with_reducible refine nxx_normal ?_)
                    | (with_reducible refine nx_normal ?_)
                    | (with_reducible refine hN _ _ ?_; clear hN N) | (with_reducible refine hN _ _ _ ?_; clear hN N) | (clear hN N; with_reducible refine hN _ _ ?_; clear hN N) | (clear hN N; with_reducible refine hN _ _ _ ?_; clear hN N) | (clear hN N; clear hN N; with_reducible refine hN _ _ ?_; clear hN N) | (clear hN N; clear hN N; with_reducible refine hN _ _ _ ?_; clear hN N) | (clear hN N; clear hN N; clear hN N; with_reducible refine hN _ _ ?_; clear hN N) | (clear hN N; clear hN N; clear hN N; with_reducible refine hN _ _ _ ?_; clear hN N)
                    | (with_reducible refine nxx_exit ?_)
                    | (with_reducible refine nxx_ret ?_)
                    | (with_reducible refine ibx_normal ?_)
                    | (with_reducible refine ibx_exit ?_)
                    | (with_reducible refine ibx_ret ?_)
                    | (with_reducible refine ibx_exit_ne (by decide) ?_)
                    | (with_reducible refine roundx_exit ?_)
                    | (with_reducible refine roundx_ret ?_))
                  show sOps _ _ _ _ _
                  simp only [List.drop, List.map_cons, List.map_nil]
                  simp (config := {maxSteps := 10000000}) (disch := first | (intro; intros; rename_i h; injection h; done) | omega) only [go_sem, Bool.false_or, Bool.true_or, Bool.or_true, Bool.or_false, Nat.reduceAdd, Nat.reduceSub, Nat.reduceMul, Nat.reduceLT, Nat.reduceLeDiff, Nat.lt_irrefl, Nat.le_refl, List.getElem?_toArray, bne_self_eq_false, Int.le_refl, Int.reduceLE, Int.reduceLT, Int.toNat_zero, Nat.zero_mul, List.all_cons, List.all_nil, Bool.and_self, Bool.and_true, Bool.true_and, Nat.reduceEqDiff, Nat.one_ne_zero, true_and, and_true, and_self, List.drop_succ_cons, List.drop_nil, List.take_succ_cons, List.take_nil, reduceCtorEq, Nat.sub_zero, Option.some.injEq, wrap_i64, wrap_u8, dec_t, dec_f, ite_t, ite_f, Int.toNat_natCast, Int.cast_ofNat_Int, toNat_cast_add, bcells_length, List.length_take, List.length_map, List.length_drop, List.length_append]
                  repeat (first | (with_reducible refine nx_normal ?_) | (with_reducible refine nxx_normal ?_) | (with_reducible refine hN _ _ ?_; clear hN N) | (with_reducible refine hN _ _ _ ?_; clear hN N) | (clear hN N; with_reducible refine hN _ _ ?_; clear hN N) | (clear hN N; with_reducible refine hN _ _ _ ?_; clear hN N) | (clear hN N; clear hN N; with_reducible refine hN _ _ ?_; clear hN N) | (clear hN N; clear hN N; with_reducible refine hN _ _ _ ?_; clear hN N) | (clear hN N; clear hN N; clear hN N; with_reducible refine hN _ _ ?_; clear hN N) | (clear hN N; clear hN N; clear hN N; with_reducible refine hN _ _ _ ?_; clear hN N))
                  repeat' (first
                    | (refine aX_reg fun N hN => ?_; simp (config := {maxSteps := 10000000}) (disch := first | (intro; intros; rename_i h; injection h; done) | omega) only [go_sem, Bool.false_or, Bool.true_or, Bool.or_true, Bool.or_false, Nat.reduceAdd, Nat.reduceSub, Nat.reduceMul, Nat.reduceLT, Nat.reduceLeDiff, Nat.lt_irrefl, Nat.le_refl, List.getElem?_toArray, bne_self_eq_false, Int.le_refl, Int.reduceLE, Int.reduceLT, Int.toNat_zero, Nat.zero_mul, List.all_cons, List.all_nil, Bool.and_self, Bool.and_true, Bool.true_and, Nat.reduceEqDiff, Nat.one_ne_zero, true_and, and_true, and_self, List.drop_succ_cons, List.drop_nil, List.take_succ_cons, List.take_nil, reduceCtorEq, Nat.sub_zero, Option.some.injEq, wrap_i64, wrap_u8, dec_t, dec_f, ite_t, ite_f, Int.toNat_natCast, Int.cast_ofNat_Int, toNat_cast_add, bcells_length, List.length_take, List.length_map, List.length_drop, List.length_append, hw1]; with_reducible refine hN _ _ ?_; clear hN N)
                    | (refine aX_reg1 fun N hN => ?_; simp (config := {maxSteps := 10000000}) (disch := first | (intro; intros; rename_i h; injection h; done) | omega) only [go_sem, Bool.false_or, Bool.true_or, Bool.or_true, Bool.or_false, Nat.reduceAdd, Nat.reduceSub, Nat.reduceMul, Nat.reduceLT, Nat.reduceLeDiff, Nat.lt_irrefl, Nat.le_refl, List.getElem?_toArray, bne_self_eq_false, Int.le_refl, Int.reduceLE, Int.reduceLT, Int.toNat_zero, Nat.zero_mul, List.all_cons, List.all_nil, Bool.and_self, Bool.and_true, Bool.true_and, Nat.reduceEqDiff, Nat.one_ne_zero, true_and, and_true, and_self, List.drop_succ_cons, List.drop_nil, List.take_succ_cons, List.take_nil, reduceCtorEq, Nat.sub_zero, Option.some.injEq, wrap_i64, wrap_u8, dec_t, dec_f, ite_t, ite_f, Int.toNat_natCast, Int.cast_ofNat_Int, toNat_cast_add, bcells_length, List.length_take, List.length_map, List.length_drop, List.length_append, hw1]; with_reducible refine hN _ _ ?_; clear hN N)
                    | (refine aX_seq_k fun N hN => ?_)
                    | (refine aX_block ?_)
                    | (refine aX_cond (b := true) rfl (fun _ => ?_) (fun h => by cases h))
                    | (refine aX_cond (b := false) rfl (fun h => by cases h) (fun _ => ?_))
                    | (refine aX_skip ?_)
                    | (refine aX_exit ?_)
                    | (with_reducible refine nxx_normal ?_)
                    | (with_reducible refine nx_normal ?_)
                    | (with_reducible refine hN _ _ ?_; clear hN N) | (with_reducible refine hN _ _ _ ?_; clear hN N) | (clear hN N; with_reducible refine hN _ _ ?_; clear hN N) | (clear hN N; with_reducible refine hN _ _ _ ?_; clear hN N) | (clear hN N; clear hN N; with_reducible refine hN _ _ ?_; clear hN N) | (clear hN N; clear hN N; with_reducible refine hN _ _ _ ?_; clear hN N) | (clear hN N; clear hN N; clear hN N; with_reducible refine hN _ _ ?_; clear hN N) | (clear hN N; clear hN N; clear hN N; with_reducible refine hN _ _ _ ?_; clear hN N)
                    | (with_reducible refine nxx_exit ?_)
                    | (with_reducible refine nxx_ret ?_)
                    | (with_reducible refine ibx_normal ?_)
                    | (with_reducible refine ibx_exit ?_)
                    | (with_reducible refine ibx_ret ?_)
                    | (with_reducible refine ibx_exit_ne (by decide) ?_)
                    | (with_reducible refine roundx_exit ?_)
                    | (with_reducible refine roundx_ret ?_))
                  exact ⟨l.length - (k + 1), _, _, _, by omega, Weak.lit [0, 1, 2, 3, 4, 5, 6, 7] (T0 := ((.fn (.yield y.l) [] :: .ptr 4 0 :: .ptr 6 0 :: .ptr 5 0 :: .unk :: .unk :: .unk :: .isl (rE.cells l) l.length :: .int .i64 l.length :: .int .i64 ((k + 1 : Nat) : Int) :: .unk :: .unk :: .unk :: .unk :: .unk :: .unk :: .unk :: .unk :: .unk :: .unk :: .unk :: .unk :: .unk :: .unk :: .unk :: .unk :: .unk :: .unk :: .unk :: .unk :: .unk :: .unk :: .unk :: .unk :: .unk :: []))) (h0 := some (.row [.int .i64 q.id, .str q.name, .int .i64 q.type, .int .i64 q.server] 23 true) :: some (.row [.int .i64 q.id, .int .i64 flags, .isl [.str q.name, .int .i64 q.type, .int .i64 1] 1, .isl (rE.cells l) l.length, .nilsl, .nilsl] 27 true) :: some (.row [.int .i64 0, .nilsl, .int .i64 0, .str [], .int .i64 0] 37 true) :: some (.row [.int .i64 0, adS 7 (a0 :: addrs).length, .int .i64 (min ttl' x.ttl), .str last, .int .i64 pre.length] 37 true) :: some (.row [.isl (rE.cells l) l.length] 24 true) :: some (.row [.str last] 9 true) :: some (.row [.int .i64 q.type] 3 true) :: adH (a0 :: addrs)) (by simp [LeL, LeV, ren, renL, pf, adS, rE.ren, aE.ren, sE.ren]) (by simp [Keeps, renB, renL, ren, rE.ren, aE.ren, adH, adS, pf]) (by decide) (by decide), k + 1, (min ttl' x.ttl), (a0 :: addrs), hlt, rfl, by simp only [List.length_cons]; omega, hys, rfl, rfl, rfl⟩
                · have hst2 : tStep (ttl', a0 :: addrs) x = (min ttl' x.ttl, a0 :: addrs ++ [x.addr]) := by simp only [tStep, if_neg hmem]
                  rw [hst2] at hys
                  have hco := contains_c (a0 :: addrs) (by simp only [List.length_cons]; omega) x.addr
                  rw [decide_eq_false hmem] at hco
                  have hla : (aE.cells (a0 :: addrs)).length = (addrs.length + 1) * 17 := aE.length (a0 :: addrs)
                  have htk : (aE.cells (a0 :: addrs)).take ((addrs.length + 1) * 17) = aE.cells (a0 :: addrs) := aE.takeAll0 (a0 :: addrs)
                  have hsn : aE.cells (a0 :: addrs) ++ acell x.addr = aE.cells (a0 :: (addrs ++ [x.addr])) := aE.snoc (a0 :: addrs) x.addr
                  repeat' (first
                    | (refine aX_reg fun N hN => ?_; simp (config := {maxSteps := 10000000}) (disch := first | (intro; intros; rename_i h; injection h; done) | omega) only [go_sem, Bool.false_or, Bool.true_or, Bool.or_true, Bool.or_false, Nat.reduceAdd, Nat.reduceSub, Nat.reduceMul, Nat.reduceLT, Nat.reduceLeDiff, Nat.lt_irrefl, Nat.le_refl, List.getElem?_toArray, bne_self_eq_false, Int.le_refl, Int.reduceLE, Int.reduceLT, Int.toNat_zero, Nat.zero_mul, List.all_cons, List.all_nil, Bool.and_self, Bool.and_true, Bool.true_and, Nat.reduceEqDiff, Nat.one_ne_zero, true_and, and_true, and_self, List.drop_succ_cons, List.drop_nil, List.take_succ_cons, List.take_nil, reduceCtorEq, Nat.sub_zero, Option.some.injEq, wrap_i64, wrap_u8, dec_t, dec_f, ite_t, ite_f, Int.toNat_natCast, Int.cast_ofNat_Int, toNat_cast_add, bcells_length, List.length_take, List.length_map, List.length_drop, List.length_append, hd, h1, h2]; with_reducible refine hN _ _ ?_; clear hN N)
                    | (refine aX_reg1 fun N hN => ?_; simp (config := {maxSteps := 10000000}) (disch := first | (intro; intros; rename_i h; injection h; done) | omega) only [go_sem, Bool.false_or, Bool.true_or, Bool.or_true, Bool.or_false, Nat.reduceAdd, Nat.reduceSub, Nat.reduceMul, Nat.reduceLT, Nat.reduceLeDiff, Nat.lt_irrefl, Nat.le_refl, List.getElem?_toArray, bne_self_eq_false, Int.le_refl, Int.reduceLE, Int.reduceLT, Int.toNat_zero, Nat.zero_mul, List.all_cons, List.all_nil, Bool.and_self, Bool.and_true, Bool.true_and, Nat.reduceEqDiff, Nat.one_ne_zero, true_and, and_true, and_self, List.drop_succ_cons, List.drop_nil, List.take_succ_cons, List.take_nil, reduceCtorEq, Nat.sub_zero, Option.some.injEq, wrap_i64, wrap_u8, dec_t, dec_f, ite_t, ite_f, Int.toNat_natCast, Int.cast_ofNat_Int, toNat_cast_add, bcells_length, List.length_take, List.length_map, List.length_drop, List.length_append, hd, h1, h2]; with_reducible refine hN _ _ ?_; clear hN N)
                    | (refine aX_seq_k fun N hN => ?_)
                    | (refine aX_block ?_)
                    | (refine aX_cond (b := true) rfl (fun _ => ?_) (fun h => by cases h))
                    | (refine aX_cond (b := false) rfl (fun h => by cases h) (fun _ => ?_))
                    | (refine aX_skip ?_)
                    | (refine aX_exit ?_)
                    | (with_reducible refine nxx_normal ?_)
                    | (with_reducible refine nx_normal ?_)
                    | (with_reducible refine hN _ _ ?_; clear hN N) | (with_reducible refine hN _ _ _ ?_; clear hN N) | (clear hN N; with_reducible refine hN _ _ ?_; clear hN N) | (clear hN N; with_reducible refine hN _ _ _ ?_; clear hN N) | (clear hN N; clear hN N; with_reducible refine hN _ _ ?_; clear hN N) | (clear hN N; clear hN N; with_reducible refine hN _ _ _ ?_; clear hN N) | (clear hN N; clear hN N; clear hN N; with_reducible refine hN _ _ ?_; clear hN N) | (clear hN N; clear hN N; clear hN N; with_reducible refine hN _ _ _ ?_; clear hN N)
                    | (with_reducible refine nxx_exit ?_)
                    | (with_reducible refine nxx_ret ?_)
                    | (with_reducible refine ibx_normal ?_)
                    | (with_reducible refine ibx_exit ?_)
                    | (with_reducible refine ibx_ret ?_)
                    | (with_reducible refine ibx_exit_ne (by decide) ?_)
                    | (with_reducible refine roundx_exit ?_)
                    | (with_reducible refine roundx_ret ?_))
                  refine aX_regY 18 rfl rfl fun N hN => ?_
                  simp only [List.take, List.drop]
                  simp (config := {maxSteps := 10000000}) (disch := first | (intro; intros; rename_i h; injection h; done) | omega) only [go_sem, Bool.false_or, Bool.true_or, Bool.or_true, Bool.or_false, Nat.reduceAdd, Nat.reduceSub, Nat.reduceMul, Nat.reduceLT, Nat.reduceLeDiff, Nat.lt_irrefl, Nat.le_refl, List.getElem?_toArray, bne_self_eq_false, Int.le_refl, Int.reduceLE, Int.reduceLT, Int.toNat_zero, Nat.zero_mul, List.all_cons, List.all_nil, Bool.and_self, Bool.and_true, Bool.true_and, Nat.reduceEqDiff, Nat.one_ne_zero, true_and, and_true, and_self, List.drop_succ_cons, List.drop_nil, List.take_succ_cons, List.take_nil, reduceCtorEq, Nat.sub_zero, Option.some.injEq, wrap_i64, wrap_u8, dec_t, dec_f, ite_t, ite_f, Int.toNat_natCast, Int.cast_ofNat_Int, toNat_cast_add, bcells_length, List.length_take, List.length_map, List.length_drop, List.length_append, h1, h2]
                  refine hlk.plain rfl rfl ?_
                  simp (config := {maxSteps := 10000000}) (disch := first | (intro; intros; rename_i h; injection h; done) | omega) only [go_sem, Bool.false_or, Bool.true_or, Bool.or_true, Bool.or_false, Nat.reduceAdd, Nat.reduceSub, Nat.reduceMul, Nat.reduceLT, Nat.reduceLeDiff, Nat.lt_irrefl, Nat.le_refl, List.getElem?_toArray, bne_self_eq_false, Int.le_refl, Int.reduceLE, Int.reduceLT, Int.toNat_zero, Nat.zero_mul, List.all_cons, List.all_nil, Bool.and_self, Bool.and_true, Bool.true_and, Nat.reduceEqDiff, Nat.one_ne_zero, true_and, and_true, and_self, List.drop_succ_cons, List.drop_nil, List.take_succ_cons, List.take_nil, reduceCtorEq, Nat.sub_zero, Option.some.injEq, wrap_i64, wrap_u8, dec_t, dec_f, ite_t, ite_f, Int.toNat_natCast, Int.cast_ofNat_Int, toNat_cast_add, bcells_length, List.length_take, List.length_map, List.length_drop, List.length_append]
                  refine hN _ _ y.l rfl rfl ⟨y, _, rfl, rfl, rfl, rfl, ?_⟩
                  clear hN N
                  simp only [hya, hyb, hyR, hyp, List.set_cons_zero, List.set_cons_succ]
                  refine aX_reg1 fun N hN => ?_
                  simp (config := {maxSteps := 10000000}) (disch := first | (intro; intros; rename_i h; injection h; done) | omega) only [go_sem, Bool.false_or, Bool.true_or, Bool.or_true, Bool.or_false, Nat.reduceAdd, Nat.reduceSub, Nat.reduceMul, Nat.reduceLT, Nat.reduceLeDiff, Nat.lt_irrefl, Nat.le_refl, List.getElem?_toArray, bne_self_eq_false, Int.le_refl, Int.reduceLE, Int.reduceLT, Int.toNat_zero, Nat.zero_mul, List.all_cons, List.all_nil, Bool.and_self, Bool.and_true, Bool.true_and, Nat.reduceEqDiff, Nat.one_ne_zero, true_and, and_true, and_self, List.drop_succ_cons, List.drop_nil, List.take_succ_cons, List.take_nil, reduceCtorEq, Nat.sub_zero, Option.some.injEq, wrap_i64, wrap_u8, dec_t, dec_f, ite_t, ite_f, Int.toNat_natCast, Int.cast_ofNat_Int, toNat_cast_add, bcells_length, List.length_take, List.length_map, List.length_drop, List.length_append]
                  refine hN _ _ ?_; clear hN N
                  show aX _ _ _ _ _ _ _ _
                  repeat' (first
                    | (refine aX_reg fun N hN => ?_; simp (config := {maxSteps := 10000000}) (disch := first | (intro; intros; rename_i h; injection h; done) | omega) only [go_sem, Bool.false_or, Bool.true_or, Bool.or_true, Bool.or_false, Nat.reduceAdd, Nat.reduceSub, Nat.reduceMul, Nat.reduceLT, Nat.reduceLeDiff, Nat.lt_irrefl, Nat.le_refl, List.getElem?_toArray, bne_self_eq_false, Int.le_refl, Int.reduceLE, Int.reduceLT, Int.toNat_zero, Nat.zero_mul, List.all_cons, List.all_nil, Bool.and_self, Bool.and_true, Bool.true_and, Nat.reduceEqDiff, Nat.one_ne_zero, true_and, and_true, and_self, List.drop_succ_cons, List.drop_nil, List.take_succ_cons, List.take_nil, reduceCtorEq, Nat.sub_zero, Option.some.injEq, wrap_i64, wrap_u8, dec_t, dec_f, ite_t, ite_f, Int.toNat_natCast, Int.cast_ofNat_Int, toNat_cast_add, bcells_length, List.length_take, List.length_map, List.length_drop, List.length_append, hmn]; with_reducible refine hN _ _ ?_; clear hN N)
                    | (refine aX_reg1 fun N hN => ?_; simp (config := {maxSteps := 10000000}) (disch := first | (intro; intros; rename_i h; injection h; done) | omega) only [go_sem, Bool.false_or, Bool.true_or, Bool.or_true, Bool.or_false, Nat.reduceAdd, Nat.reduceSub, Nat.reduceMul, Nat.reduceLT, Nat.reduceLeDiff, Nat.lt_irrefl, Nat.le_refl, List.getElem?_toArray, bne_self_eq_false, Int.le_refl, Int.reduceLE, Int.reduceLT, Int.toNat_zero, Nat.zero_mul, List.all_cons, List.all_nil, Bool.and_self, Bool.and_true, Bool.true_and, Nat.reduceEqDiff, Nat.one_ne_zero, true_and, and_true, and_self, List.drop_succ_cons, List.drop_nil, List.take_succ_cons, List.take_nil, reduceCtorEq, Nat.sub_zero, Option.some.injEq, wrap_i64, wrap_u8, dec_t, dec_f, ite_t, ite_f, Int.toNat_natCast, Int.cast_ofNat_Int, toNat_cast_add, bcells_length, List.length_take, List.length_map, List.length_drop, List.length_append, hmn]; with_reducible refine hN _ _ ?_; clear hN N)
                    | (refine aX_seq_k fun N hN => ?_)
                    | (refine aX_block ?_)
                    | (refine aX_cond (b := true) rfl (fun _ => ?_) (fun h => by cases h))
                    | (refine aX_cond (b := false) rfl (fun h => by cases h) (fun _ => ?_))
                    | (refine aX_skip ?_)
                    | (refine aX_exit ?_)
                    | (with_reducible refine nxx_normal ?_)
                    | (with_reducible refine nx_normal ?_)
                    | (with_reducible refine hN _ _ ?_; clear hN N) | (with_reducible refine hN _ _ _ ?_; clear hN N) | (clear hN N; with_reducible refine hN _ _ ?_; clear hN N) | (clear hN N; with_reducible refine hN _ _ _ ?_; clear hN N) | (clear hN N; clear hN N; with_reducible refine hN _ _ ?_; clear hN N) | (clear hN N; clear hN N; with_reducible refine hN _ _ _ ?_; clear hN N) | (clear hN N; clear hN N; clear hN N; with_reducible refine hN _ _ ?_; clear hN N) | (clear hN N; clear hN N; clear hN N; with_reducible refine hN _ _ _ ?_; clear hN N)
                    | (with_reducible refine nxx_exit ?_)
                    | (with_reducible refine nxx_ret ?_)
                    | (with_reducible refine ibx_normal ?_)
                    | (with_reducible refine ibx_exit ?_)
                    | (with_reducible refine ibx_ret ?_)
                    | (with_reducible refine ibx_exit_ne (by decide) ?_)
                    | (with_reducible refine roundx_exit ?_)
                    | (with_reducible refine roundx_ret ?_))
                  (first | refine aX_reg fun N hN => ?_ | refine aX_reg1 fun N hN => ?_)
                  simp (config := {maxSteps := 10000000}) (disch := first | (intro; intros; rename_i h; injection h; done) | omega) only [go_sem, Bool.false_or, Bool.true_or, Bool.or_true, Bool.or_false, Nat.reduceAdd, Nat.reduceSub, Nat.reduceMul, Nat.reduceLT, Nat.reduceLeDiff, Nat.lt_irrefl, Nat.le_refl, List.getElem?_toArray, bne_self_eq_false, Int.le_refl, Int.reduceLE, Int.reduceLT, Int.toNat_zero, Nat.zero_mul, List.all_cons, List.all_nil, Bool.and_self, Bool.and_true, Bool.true_and, Nat.reduceEqDiff, Nat.one_ne_zero, true_and, and_true, and_self, List.drop_succ_cons, List.drop_nil, List.take_succ_cons, List.take_nil, reduceCtorEq, Nat.sub_zero, Option.some.injEq, wrap_i64, wrap_u8, dec_t, dec_f, ite_t, ite_f, Int.toNat_natCast, Int.cast_ofNat_Int, toNat_cast_add, bcells_length, List.length_take, List.length_map, List.length_drop, List.length_append]
                  refine hco.pure [7] ⟨.inr ⟨by simp, rfl, _, _, _, rfl, by rw [aE.ren]; exact (List.take_of_length_le (Nat.le_refl _)).symm⟩, .inl (by simp only [LeV, ren, acell_noid]), trivial⟩ (.inr rfl) rfl ?_
                  simp (config := {maxSteps := 10000000}) (disch := first | (intro; intros; rename_i h; injection h; done) | omega) only [go_sem, Bool.false_or, Bool.true_or, Bool.or_true, Bool.or_false, Nat.reduceAdd, Nat.reduceSub, Nat.reduceMul, Nat.reduceLT, Nat.reduceLeDiff, Nat.lt_irrefl, Nat.le_refl, List.getElem?_toArray, bne_self_eq_false, Int.le_refl, Int.reduceLE, Int.reduceLT, Int.toNat_zero, Nat.zero_mul, List.all_cons, List.all_nil, Bool.and_self, Bool.and_true, Bool.true_and, Nat.reduceEqDiff, Nat.one_ne_zero, true_and, and_true, and_self, List.drop_succ_cons, List.drop_nil, List.take_succ_cons, List.take_nil, reduceCtorEq, Nat.sub_zero, Option.some.injEq, wrap_i64, wrap_u8, dec_t, dec_f, ite_t, ite_f, Int.toNat_natCast, Int.cast_ofNat_Int, toNat_cast_add, bcells_length, List.length_take, List.length_map, List.length_drop, List.length_append]
                  repeat (first | (with_reducible refine nx_normal ?_) | (with_reducible refine nxx_normal ?_) | (with_reducible refine hN _ _ ?_; clear hN N) | (with_reducible refine hN _ _ _ ?_; clear hN N) | (clear hN N; with_reducible refine hN _ _ ?_; clear hN N) | (clear hN N; with_reducible refine hN _ _ _ ?_; clear hN N) | (clear hN N; clear hN N; with_reducible refine hN _ _ ?_; clear hN N) | (clear hN N; clear hN N; with_reducible refine hN _ _ _ ?_; clear hN N) | (clear hN N; clear hN N; clear hN N; with_reducible refine hN _ _ ?_; clear hN N) | (clear hN N; clear hN N; clear hN N; with_reducible refine hN _ _ _ ?_; clear hN N))
                  repeat' (first
                    | (refine aX_reg fun N hN => ?_; simp (config := {maxSteps := 10000000}) (disch := first | (intro; intros; rename_i h; injection h; done) | omega) only [go_sem, Bool.false_or, Bool.true_or, Bool.or_true, Bool.or_false, Nat.reduceAdd, Nat.reduceSub, Nat.reduceMul, Nat.reduceLT, Nat.reduceLeDiff, Nat.lt_irrefl, Nat.le_refl, List.getElem?_toArray, bne_self_eq_false, Int.le_refl, Int.reduceLE, Int.reduceLT, Int.toNat_zero, Nat.zero_mul, List.all_cons, List.all_nil, Bool.and_self, Bool.and_true, Bool.true_and, Nat.reduceEqDiff, Nat.one_ne_zero, true_and, and_true, and_self, List.drop_succ_cons, List.drop_nil, List.take_succ_cons, List.take_nil, reduceCtorEq, Nat.sub_zero, Option.some.injEq, wrap_i64, wrap_u8, dec_t, dec_f, ite_t, ite_f, Int.toNat_natCast, Int.cast_ofNat_Int, toNat_cast_add, bcells_length, List.length_take, List.length_map, List.length_drop, List.length_append, hla, htk, hsn]; with_reducible refine hN _ _ ?_; clear hN N)
                    | (refine aX_reg1 fun N hN => ?_; simp (config := {maxSteps := 10000000}) (disch := first | (intro; intros; rename_i h; injection h; done) | omega) only [go_sem, Bool.false_or, Bool.true_or, Bool.or_true, Bool.or_false, Nat.reduceAdd, Nat.reduceSub, Nat.reduceMul, Nat.reduceLT, Nat.reduceLeDiff, Nat.lt_irrefl, Nat.le_refl, List.getElem?_toArray, bne_self_eq_false, Int.le_refl, Int.reduceLE, Int.reduceLT, Int.toNat_zero, Nat.zero_mul, List.all_cons, List.all_nil, Bool.and_self, Bool.and_true, Bool.true_and, Nat.reduceEqDiff, Nat.one_ne_zero, true_and, and_true, and_self, List.drop_succ_cons, List.drop_nil, List.take_succ_cons, List.take_nil, reduceCtorEq, Nat.sub_zero, Option.some.injEq, wrap_i64, wrap_u8, dec_t, dec_f, ite_t, ite_f, Int.toNat_natCast, Int.cast_ofNat_Int, toNat_cast_add, bcells_length, List.length_take, List.length_map, List.length_drop, List.length_append, hla, htk, hsn]; with_reducible refine hN _ _ ?_; clear hN N)
                    | (refine aX_seq_k fun N hN => ?_)
                    | (refine aX_block ?_)
                    | (refine aX_cond (b := true) rfl (fun _ => ?_) (fun h => by cases h))
                    | (refine aX_cond (b := false) rfl (fun h => by cases h) (fun _ => ?_))
                    | (refine aX_skip ?_)
                    | (refine aX_exit ?_)
                    | (with_reducible refine nxx_normal ?_)
                    | (with_reducible refine nx_normal ?_)
                    | (with_reducible refine hN _ _ ?_; clear hN N) | (with_reducible refine hN _ _ _ ?_; clear hN N) | (clear hN N; with_reducible refine hN _ _ ?_; clear hN N) | (clear hN N; with_reducible refine hN _ _ _ ?_; clear hN N) | (clear hN N; clear hN N; with_reducible refine hN _ _ ?_; clear hN N) | (clear hN N; clear hN N; with_reducible refine hN _ _ _ ?_; clear hN N) | (clear hN N; clear hN N; clear hN N; with_reducible refine hN _ _ ?_; clear hN N) | (clear hN N; clear hN N; clear hN N; with_reducible refine hN _ _ _ ?_; clear hN N)
                    | (with_reducible refine nxx_exit ?_)
                    | (with_reducible refine nxx_ret ?_)
                    | (with_reducible refine ibx_normal ?_)
                    | (with_reducible refine ibx_exit ?_)
                    | (with_reducible refine ibx_ret ?_)
                    | (with_reducible refine ibx_exit_ne (by decide) ?_)
                    | (with_reducible refine roundx_exit ?_)
                    | (with_reducible refine roundx_ret ?_))
                  show sOps _ _ _ _ _
                  simp only [List.drop, List.map_cons, List.map_nil]
                  simp (config := {maxSteps := 10000000}) (disch := first | (intro; intros; rename_i h; injection h; done) | omega) only [go_sem, Bool.false_or, Bool.true_or, Bool.or_true, Bool.or_false, Nat.reduceAdd, Nat.reduceSub, Nat.reduceMul, Nat.reduceLT, Nat.reduceLeDiff, Nat.lt_irrefl, Nat.le_refl, List.getElem?_toArray, bne_self_eq_false, Int.le_refl, Int.reduceLE, Int.reduceLT, Int.toNat_zero, Nat.zero_mul, List.all_cons, List.all_nil, Bool.and_self, Bool.and_true, Bool.true_and, Nat.reduceEqDiff, Nat.one_ne_zero, true_and, and_true, and_self, List.drop_succ_cons, List.drop_nil, List.take_succ_cons, List.take_nil, reduceCtorEq, Nat.sub_zero, Option.some.injEq, wrap_i64, wrap_u8, dec_t, dec_f, ite_t, ite_f, Int.toNat_natCast, Int.cast_ofNat_Int, toNat_cast_add, bcells_length, List.length_take, List.length_map, List.length_drop, List.length_append]
                  repeat (first | (with_reducible refine nx_normal ?_) | (with_reducible refine nxx_normal ?_) | (with_reducible refine hN _ _ ?_; clear hN N) | (with_reducible refine hN _ _ _ ?_; clear hN N) | (clear hN N; with_reducible refine hN _ _ ?_; clear hN N) | (clear hN N; with_reducible refine hN _ _ _ ?_; clear hN N) | (clear hN N; clear hN N; with_reducible refine hN _ _ ?_; clear hN N) | (clear hN N; clear hN N; with_reducible refine hN _ _ _ ?_; clear hN N) | (clear hN N; clear hN N; clear hN N; with_reducible refine hN _ _ ?_; clear hN N) | (clear hN N; clear hN N; clear hN N; with_reducible refine hN _ _ _ ?_; clear hN N))
                  repeat' (first
                    | (refine aX_reg fun N hN => ?_; simp (config := {maxSteps := 10000000}) (disch := first | (intro; intros; rename_i h; injection h; done) | omega) only [go_sem, Bool.false_or, Bool.true_or, Bool.or_true, Bool.or_false, Nat.reduceAdd, Nat.reduceSub, Nat.reduceMul, Nat.reduceLT, Nat.reduceLeDiff, Nat.lt_irrefl, Nat.le_refl, List.getElem?_toArray, bne_self_eq_false, Int.le_refl, Int.reduceLE, Int.reduceLT, Int.toNat_zero, Nat.zero_mul, List.all_cons, List.all_nil, Bool.and_self, Bool.and_true, Bool.true_and, Nat.reduceEqDiff, Nat.one_ne_zero, true_and, and_true, and_self, List.drop_succ_cons, List.drop_nil, List.take_succ_cons, List.take_nil, reduceCtorEq, Nat.sub_zero, Option.some.injEq, wrap_i64, wrap_u8, dec_t, dec_f, ite_t, ite_f, Int.toNat_natCast, Int.cast_ofNat_Int, toNat_cast_add, bcells_length, List.length_take, List.length_map, List.length_drop, List.length_append, hw1]; with_reducible refine hN _ _ ?_; clear hN N)
                    | (refine aX_reg1 fun N hN => ?_; simp (config := {maxSteps := 10000000}) (disch := first | (intro; intros; rename_i h; injection h; done) | omega) only [go_sem, Bool.false_or, Bool.true_or, Bool.or_true, Bool.or_false, Nat.reduceAdd, Nat.reduceSub, Nat.reduceMul, Nat.reduceLT, Nat.reduceLeDiff, Nat.lt_irrefl, Nat.le_refl, List.getElem?_toArray, bne_self_eq_false, Int.le_refl, Int.reduceLE, Int.reduceLT, Int.toNat_zero, Nat.zero_mul, List.all_cons, List.all_nil, Bool.and_self, Bool.and_true, Bool.true_and, Nat.reduceEqDiff, Nat.one_ne_zero, true_and, and_true, and_self, List.drop_succ_cons, List.drop_nil, List.take_succ_cons, List.take_nil, reduceCtorEq, Nat.sub_zero, Option.some.injEq, wrap_i64, wrap_u8, dec_t, dec_f, ite_t, ite_f, Int.toNat_natCast, Int.cast_ofNat_Int, toNat_cast_add, bcells_length, List.length_take, List.length_map, List.length_drop, List.length_append, hw1]; with_reducible refine hN _ _ ?_; clear hN N)
                    | (refine aX_seq_k fun N hN => ?_)
                    | (refine aX_block ?_)
                    | (refine aX_cond (b := true) rfl (fun _ => ?_) (fun h => by cases h))
                    | (refine aX_cond (b := false) rfl (fun h => by cases h) (fun _ => ?_))
                    | (refine aX_skip ?_)
                    | (refine aX_exit ?_)
                    | (with_reducible refine nxx_normal ?_)
                    | (with_reducible refine nx_normal ?_)
                    | (with_reducible refine hN _ _ ?_; clear hN N) | (with_reducible refine hN _ _ _ ?_; clear hN N) | (clear hN N; with_reducible refine hN _ _ ?_; clear hN N) | (clear hN N; with_reducible refine hN _ _ _ ?_; clear hN N) | (clear hN N; clear hN N; with_reducible refine hN _ _ ?_; clear hN N) | (clear hN N; clear hN N; with_reducible refine hN _ _ _ ?_; clear hN N) | (clear hN N; clear hN N; clear hN N; with_reducible refine hN _ _ ?_; clear hN N) | (clear hN N; clear hN N; clear hN N; with_reducible refine hN _ _ _ ?_; clear hN N)
                    | (with_reducible refine nxx_exit ?_)
                    | (with_reducible refine nxx_ret ?_)
                    | (with_reducible refine ibx_normal ?_)
                    | (with_reducible refine ibx_exit ?_)
                    | (with_reducible refine ibx_ret ?_)
                    | (with_reducible refine ibx_exit_ne (by decide) ?_)
                    | (with_reducible refine roundx_exit ?_)
                    | (with_reducible refine roundx_ret ?_))
                  exact ⟨l.length - (k + 1), _, _, _, by omega, Weak.lit [0, 1, 2, 3, 4, 5, 6, 11] (T0 := ((.fn (.yield y.l) [] :: .ptr 4 0 :: .ptr 6 0 :: .ptr 5 0 :: .unk :: .unk :: .unk :: .isl (rE.cells l) l.length :: .int .i64 l.length :: .int .i64 ((k + 1 : Nat) : Int) :: .unk :: .unk :: .unk :: .unk :: .unk :: .unk :: .unk :: .unk :: .unk :: .unk :: .unk :: .unk :: .unk :: .unk :: .unk :: .unk :: .unk :: .unk :: .unk :: .unk :: .unk :: .unk :: .unk :: .unk :: .unk :: []))) (h0 := some (.row [.int .i64 q.id, .str q.name, .int .i64 q.type, .int .i64 q.server] 23 true) :: some (.row [.int .i64 q.id, .int .i64 flags, .isl [.str q.name, .int .i64 q.type, .int .i64 1] 1, .isl (rE.cells l) l.length, .nilsl, .nilsl] 27 true) :: some (.row [.int .i64 0, .nilsl, .int .i64 0, .str [], .int .i64 0] 37 true) :: some (.row [.int .i64 0, adS 7 (a0 :: addrs ++ [x.addr]).length, .int .i64 (min ttl' x.ttl), .str last, .int .i64 pre.length] 37 true) :: some (.row [.isl (rE.cells l) l.length] 24 true) :: some (.row [.str last] 9 true) :: some (.row [.int .i64 q.type] 3 true) :: adH (a0 :: addrs ++ [x.addr])) (by simp [LeL, LeV, ren, renL, pf, adS, rE.ren, aE.ren, sE.ren]) (by simp [Keeps, renB, renL, ren, rE.ren, aE.ren, adH, adS, pf]) (by decide) (by decide), k + 1, (min ttl' x.ttl), (a0 :: addrs ++ [x.addr]), hlt, rfl, by simp only [List.length_append, List.length_cons, List.length_nil]; omega, hys, rfl, rfl, rfl⟩
      · obtain rfl : k = l.length := by omega
        rw [List.drop_length] at hfin
        have hfin' : FIN = (ttl', addrs) := by rw [← hfin]; rfl
        rw [hfin'] at htf
        cases addrs with
        | nil =>
          simp only [adS, adH, List.length_nil]
          repeat' (first
            | (refine aX_reg fun N hN => ?_; simp (config := {maxSteps := 10000000}) (disch := first | (intro; intros; rename_i h; injection h; done) | omega) only [go_sem, Bool.false_or, Bool.true_or, Bool.or_true, Bool.or_false, Nat.reduceAdd, Nat.reduceSub, Nat.reduceMul, Nat.reduceLT, Nat.reduceLeDiff, Nat.lt_irrefl, Nat.le_refl, List.getElem?_toArray, bne_self_eq_false, Int.le_refl, Int.reduceLE, Int.reduceLT, Int.toNat_zero, Nat.zero_mul, List.all_cons, List.all_nil, Bool.and_self, Bool.and_true, Bool.true_and, Nat.reduceEqDiff, Nat.one_ne_zero, true_and, and_true, and_self, List.drop_succ_cons, List.drop_nil, List.take_succ_cons, List.take_nil, reduceCtorEq, Nat.sub_zero, Option.some.injEq, wrap_i64, wrap_u8, dec_t, dec_f, ite_t, ite_f, Int.toNat_natCast, Int.cast_ofNat_Int, toNat_cast_add, bcells_length, List.length_take, List.length_map, List.length_drop, List.length_append]; with_reducible refine hN _ _ ?_; clear hN N)
            | (refine aX_reg1 fun N hN => ?_; simp (config := {maxSteps := 10000000}) (disch := first | (intro; intros; rename_i h; injection h; done) | omega) only [go_sem, Bool.false_or, Bool.true_or, Bool.or_true, Bool.or_false, Nat.reduceAdd, Nat.reduceSub, Nat.reduceMul, Nat.reduceLT, Nat.reduceLeDiff, Nat.lt_irrefl, Nat.le_refl, List.getElem?_toArray, bne_self_eq_false, Int.le_refl, Int.reduceLE, Int.reduceLT, Int.toNat_zero, Nat.zero_mul, List.all_cons, List.all_nil, Bool.and_self, Bool.and_true, Bool.true_and, Nat.reduceEqDiff, Nat.one_ne_zero, true_and, and_true, and_self, List.drop_succ_cons, List.drop_nil, List.take_succ_cons, List.take_nil, reduceCtorEq, Nat.sub_zero, Option.some.injEq, wrap_i64, wrap_u8, dec_t, dec_f, ite_t, ite_f, Int.toNat_natCast, Int.cast_ofNat_Int, toNat_cast_add, bcells_length, List.length_take, List.length_map, List.length_drop, List.length_append]; with_reducible refine hN _ _ ?_; clear hN N)
            | (refine aX_seq_k fun N hN => ?_)
            | (refine aX_block ?_)
            | (refine aX_cond (b := true) rfl (fun _ => ?_) (fun h => by cases h))
            | (refine aX_cond (b := false) rfl (fun h => by cases h) (fun _ => ?_))
            | (refine aX_skip ?_)
            | (refine aX_exit ?_)
            | (with_reducible refine nxx_normal ?_)
            | (with_reducible refine nx_normal ?_)
            | (with_reducible refine hN _ _ ?_; clear hN N) | (with_reducible refine hN _ _ _ ?_; clear hN N) | (clear hN N; with_reducible refine hN _ _ ?_; clear hN N) | (clear hN N; with_reducible refine hN _ _ _ ?_; clear hN N) | (clear hN N; clear hN N; with_reducible refine hN _ _ ?_; clear hN N) | (clear hN N; clear hN N; with_reducible refine hN _ _ _ ?_; clear hN N) | (clear hN N; clear hN N; clear hN N; with_reducible refine hN _ _ ?_; clear hN N) | (clear hN N; clear hN N; clear hN N; with_reducible refine hN _ _ _ ?_; clear hN N)
            | (with_reducible refine nxx_exit ?_)
            | (with_reducible refine nxx_ret ?_)
            | (with_reducible refine ibx_normal ?_)
            | (with_reducible refine ibx_exit ?_)
            | (with_reducible refine ibx_ret ?_)
            | (with_reducible refine ibx_exit_ne (by decide) ?_)
            | (with_reducible refine roundx_exit ?_)
            | (with_reducible refine roundx_ret ?_))
          simp only [RangeK]
          repeat' (first
            | (refine aX_reg fun N hN => ?_; simp (config := {maxSteps := 10000000}) (disch := first | (intro; intros; rename_i h; injection h; done) | omega) only [go_sem, Bool.false_or, Bool.true_or, Bool.or_true, Bool.or_false, Nat.reduceAdd, Nat.reduceSub, Nat.reduceMul, Nat.reduceLT, Nat.reduceLeDiff, Nat.lt_irrefl, Nat.le_refl, List.getElem?_toArray, bne_self_eq_false, Int.le_refl, Int.reduceLE, Int.reduceLT, Int.toNat_zero, Nat.zero_mul, List.all_cons, List.all_nil, Bool.and_self, Bool.and_true, Bool.true_and, Nat.reduceEqDiff, Nat.one_ne_zero, true_and, and_true, and_self, List.drop_succ_cons, List.drop_nil, List.take_succ_cons, List.take_nil, reduceCtorEq, Nat.sub_zero, Option.some.injEq, wrap_i64, wrap_u8, dec_t, dec_f, ite_t, ite_f, Int.toNat_natCast, Int.cast_ofNat_Int, toNat_cast_add, bcells_length, List.length_take, List.length_map, List.length_drop, List.length_append, hpe]; with_reducible refine hN _ _ ?_; clear hN N)
            | (refine aX_reg1 fun N hN => ?_; simp (config := {maxSteps := 10000000}) (disch := first | (intro; intros; rename_i h; injection h; done) | omega) only [go_sem, Bool.false_or, Bool.true_or, Bool.or_true, Bool.or_false, Nat.reduceAdd, Nat.reduceSub, Nat.reduceMul, Nat.reduceLT, Nat.reduceLeDiff, Nat.lt_irrefl, Nat.le_refl, List.getElem?_toArray, bne_self_eq_false, Int.le_refl, Int.reduceLE, Int.reduceLT, Int.toNat_zero, Nat.zero_mul, List.all_cons, List.all_nil, Bool.and_self, Bool.and_true, Bool.true_and, Nat.reduceEqDiff, Nat.one_ne_zero, true_and, and_true, and_self, List.drop_succ_cons, List.drop_nil, List.take_succ_cons, List.take_nil, reduceCtorEq, Nat.sub_zero, Option.some.injEq, wrap_i64, wrap_u8, dec_t, dec_f, ite_t, ite_f, Int.toNat_natCast, Int.cast_ofNat_Int, toNat_cast_add, bcells_length, List.length_take, List.length_map, List.length_drop, List.length_append, hpe]; with_reducible refine hN _ _ ?_; clear hN N)
            | (refine aX_seq_k fun N hN => ?_)
            | (refine aX_block ?_)
            | (refine aX_cond (b := true) rfl (fun _ => ?_) (fun h => by cases h))
            | (refine aX_cond (b := false) rfl (fun h => by cases h) (fun _ => ?_))
            | (refine aX_skip ?_)
            | (refine aX_exit ?_)
            | (with_reducible refine nxx_normal ?_)
            | (with_reducible refine nx_normal ?_)
            | (with_reducible refine hN _ _ ?_; clear hN N) | (with_reducible refine hN _ _ _ ?_; clear hN N) | (clear hN N; with_reducible refine hN _ _ ?_; clear hN N) | (clear hN N; with_reducible refine hN _ _ _ ?_; clear hN N) | (clear hN N; clear hN N; with_reducible refine hN _ _ ?_; clear hN N) | (clear hN N; clear hN N; with_reducible refine hN _ _ _ ?_; clear hN N) | (clear hN N; clear hN N; clear hN N; with_reducible refine hN _ _ ?_; clear hN N) | (clear hN N; clear hN N; clear hN N; with_reducible refine hN _ _ _ ?_; clear hN N)
            | (with_reducible refine nxx_exit ?_)
            | (with_reducible refine nxx_ret ?_)
            | (with_reducible refine ibx_normal ?_)
            | (with_reducible refine ibx_exit ?_)
            | (with_reducible refine ibx_ret ?_)
            | (with_reducible refine ibx_exit_ne (by decide) ?_)
            | (with_reducible refine roundx_exit ?_)
            | (with_reducible refine roundx_ret ?_))
          cases hpp : pre.isEmpty with
          | true =>
            have htf2 : tellF q flags l = ⟨8, [], 0, [], 0⟩ := by rw [htf, if_pos rfl, tEnd, hpp]; rfl
            repeat' (first
              | (refine aX_reg fun N hN => ?_; simp (config := {maxSteps := 10000000}) (disch := first | (intro; intros; rename_i h; injection h; done) | omega) only [go_sem, Bool.false_or, Bool.true_or, Bool.or_true, Bool.or_false, Nat.reduceAdd, Nat.reduceSub, Nat.reduceMul, Nat.reduceLT, Nat.reduceLeDiff, Nat.lt_irrefl, Nat.le_refl, List.getElem?_toArray, bne_self_eq_false, Int.le_refl, Int.reduceLE, Int.reduceLT, Int.toNat_zero, Nat.zero_mul, List.all_cons, List.all_nil, Bool.and_self, Bool.and_true, Bool.true_and, Nat.reduceEqDiff, Nat.one_ne_zero, true_and, and_true, and_self, List.drop_succ_cons, List.drop_nil, List.take_succ_cons, List.take_nil, reduceCtorEq, Nat.sub_zero, Option.some.injEq, wrap_i64, wrap_u8, dec_t, dec_f, ite_t, ite_f, Int.toNat_natCast, Int.cast_ofNat_Int, toNat_cast_add, bcells_length, List.length_take, List.length_map, List.length_drop, List.length_append]; with_reducible refine hN _ _ ?_; clear hN N)
              | (refine aX_reg1 fun N hN => ?_; simp (config := {maxSteps := 10000000}) (disch := first | (intro; intros; rename_i h; injection h; done) | omega) only [go_sem, Bool.false_or, Bool.true_or, Bool.or_true, Bool.or_false, Nat.reduceAdd, Nat.reduceSub, Nat.reduceMul, Nat.reduceLT, Nat.reduceLeDiff, Nat.lt_irrefl, Nat.le_refl, List.getElem?_toArray, bne_self_eq_false, Int.le_refl, Int.reduceLE, Int.reduceLT, Int.toNat_zero, Nat.zero_mul, List.all_cons, List.all_nil, Bool.and_self, Bool.and_true, Bool.true_and, Nat.reduceEqDiff, Nat.one_ne_zero, true_and, and_true, and_self, List.drop_succ_cons, List.drop_nil, List.take_succ_cons, List.take_nil, reduceCtorEq, Nat.sub_zero, Option.some.injEq, wrap_i64, wrap_u8, dec_t, dec_f, ite_t, ite_f, Int.toNat_natCast, Int.cast_ofNat_Int, toNat_cast_add, bcells_length, List.length_take, List.length_map, List.length_drop, List.length_append]; with_reducible refine hN _ _ ?_; clear hN N)
              | (refine aX_seq_k fun N hN => ?_)
              | (refine aX_block ?_)
              | (refine aX_cond (b := true) rfl (fun _ => ?_) (fun h => by cases h))
              | (refine aX_cond (b := false) rfl (fun h => by cases h) (fun _ => ?_))
              | (refine aX_skip ?_)
              | (refine aX_exit ?_)
              | (with_reducible refine nxx_normal ?_)
              | (with_reducible refine nx_normal ?_)
              | (with_reducible refine hN _ _ ?_; clear hN N) | (with_reducible refine hN _ _ _ ?_; clear hN N) | (clear hN N; with_reducible refine hN _ _ ?_; clear hN N) | (clear hN N; with_reducible refine hN _ _ _ ?_; clear hN N) | (clear hN N; clear hN N; with_reducible refine hN _ _ ?_; clear hN N) | (clear hN N; clear hN N; with_reducible refine hN _ _ _ ?_; clear hN N) | (clear hN N; clear hN N; clear hN N; with_reducible refine hN _ _ ?_; clear hN N) | (clear hN N; clear hN N; clear hN N; with_reducible refine hN _ _ _ ?_; clear hN N)
              | (with_reducible refine nxx_exit ?_)
              | (with_reducible refine nxx_ret ?_)
              | (with_reducible refine ibx_normal ?_)
              | (with_reducible refine ibx_exit ?_)
              | (with_reducible refine ibx_ret ?_)
              | (with_reducible refine ibx_exit_ne (by decide) ?_)
              | (with_reducible refine roundx_exit ?_)
              | (with_reducible refine roundx_ret ?_))
            refine aX_ret ?_
            repeat' (first | (with_reducible refine nxx_ret ?_) | (with_reducible refine ibx_ret ?_) | (with_reducible refine roundx_ret ?_))
            refine Body.keep [] (R := .agg [.int .i64 8, .nilsl, .int .i64 0, .str [], .int .i64 0]) (.agg [.int .i64 8, .nilsl, .int .i64 0, .str [], .int .i64 0]) [] ?_ rfl trivial (by decide) (by decide) ⟨⟨_, rfl, by rw [htf2]; exact leE 8⟩, rfl⟩
            rw [res15]
            simp (config := {maxSteps := 10000000}) (disch := first | (intro; intros; rename_i h; injection h; done) | omega) only [go_sem, Bool.false_or, Bool.true_or, Bool.or_true, Bool.or_false, Nat.reduceAdd, Nat.reduceSub, Nat.reduceMul, Nat.reduceLT, Nat.reduceLeDiff, Nat.lt_irrefl, Nat.le_refl, List.getElem?_toArray, bne_self_eq_false, Int.le_refl, Int.reduceLE, Int.reduceLT, Int.toNat_zero, Nat.zero_mul, List.all_cons, List.all_nil, Bool.and_self, Bool.and_true, Bool.true_and, Nat.reduceEqDiff, Nat.one_ne_zero, true_and, and_true, and_self, List.drop_succ_cons, List.drop_nil, List.take_succ_cons, List.take_nil, reduceCtorEq, Nat.sub_zero, Option.some.injEq, wrap_i64, wrap_u8, dec_t, dec_f, ite_t, ite_f, Int.toNat_natCast, Int.cast_ofNat_Int, toNat_cast_add, bcells_length, List.length_take, List.length_map, List.length_drop, List.length_append]
          | false =>
            have htf2 : tellF q flags l = ⟨0, [], ttl', last, (pre.length : Int)⟩ := by rw [htf, if_pos rfl, tEnd, hpp]; rfl
            repeat' (first
              | (refine aX_reg fun N hN => ?_; simp (config := {maxSteps := 10000000}) (disch := first | (intro; intros; rename_i h; injection h; done) | omega) only [go_sem, Bool.false_or, Bool.true_or, Bool.or_true, Bool.or_false, Nat.reduceAdd, Nat.reduceSub, Nat.reduceMul, Nat.reduceLT, Nat.reduceLeDiff, Nat.lt_irrefl, Nat.le_refl, List.getElem?_toArray, bne_self_eq_false, Int.le_refl, Int.reduceLE, Int.reduceLT, Int.toNat_zero, Nat.zero_mul, List.all_cons, List.all_nil, Bool.and_self, Bool.and_true, Bool.true_and, Nat.reduceEqDiff, Nat.one_ne_zero, true_and, and_true, and_self, List.drop_succ_cons, List.drop_nil, List.take_succ_cons, List.take_nil, reduceCtorEq, Nat.sub_zero, Option.some.injEq, wrap_i64, wrap_u8, dec_t, dec_f, ite_t, ite_f, Int.toNat_natCast, Int.cast_ofNat_Int, toNat_cast_add, bcells_length, List.length_take, List.length_map, List.length_drop, List.length_append]; with_reducible refine hN _ _ ?_; clear hN N)
              | (refine aX_reg1 fun N hN => ?_; simp (config := {maxSteps := 10000000}) (disch := first | (intro; intros; rename_i h; injection h; done) | omega) only [go_sem, Bool.false_or, Bool.true_or, Bool.or_true, Bool.or_false, Nat.reduceAdd, Nat.reduceSub, Nat.reduceMul, Nat.reduceLT, Nat.reduceLeDiff, Nat.lt_irrefl, Nat.le_refl, List.getElem?_toArray, bne_self_eq_false, Int.le_refl, Int.reduceLE, Int.reduceLT, Int.toNat_zero, Nat.zero_mul, List.all_cons, List.all_nil, Bool.and_self, Bool.and_true, Bool.true_and, Nat.reduceEqDiff, Nat.one_ne_zero, true_and, and_true, and_self, List.drop_succ_cons, List.drop_nil, List.take_succ_cons, List.take_nil, reduceCtorEq, Nat.sub_zero, Option.some.injEq, wrap_i64, wrap_u8, dec_t, dec_f, ite_t, ite_f, Int.toNat_natCast, Int.cast_ofNat_Int, toNat_cast_add, bcells_length, List.length_take, List.length_map, List.length_drop, List.length_append]; with_reducible refine hN _ _ ?_; clear hN N)
              | (refine aX_seq_k fun N hN => ?_)
              | (refine aX_block ?_)
              | (refine aX_cond (b := true) rfl (fun _ => ?_) (fun h => by cases h))
              | (refine aX_cond (b := false) rfl (fun h => by cases h) (fun _ => ?_))
              | (refine aX_skip ?_)
              | (refine aX_exit ?_)
              | (with_reducible refine nxx_normal ?_)
              | (with_reducible refine nx_normal ?_)
              | (with_reducible refine hN _ _ ?_; clear hN N) | (with_reducible refine hN _ _ _ ?_; clear hN N) | (clear hN N; with_reducible refine hN _ _ ?_; clear hN N) | (clear hN N; with_reducible refine hN _ _ _ ?_; clear hN N) | (clear hN N; clear hN N; with_reducible refine hN _ _ ?_; clear hN N) | (clear hN N; clear hN N; with_reducible refine hN _ _ _ ?_; clear hN N) | (clear hN N; clear hN N; clear hN N; with_reducible refine hN _ _ ?_; clear hN N) | (clear hN N; clear hN N; clear hN N; with_reducible refine hN _ _ _ ?_; clear hN N)
              | (with_reducible refine nxx_exit ?_)
              | (with_reducible refine nxx_ret ?_)
              | (with_reducible refine ibx_normal ?_)
              | (with_reducible refine ibx_exit ?_)
              | (with_reducible refine ibx_ret ?_)
              | (with_reducible refine ibx_exit_ne (by decide) ?_)
              | (with_reducible refine roundx_exit ?_)
              | (with_reducible refine roundx_ret ?_))
            refine aX_ret ?_
            repeat' (first | (with_reducible refine nxx_ret ?_) | (with_reducible refine ibx_ret ?_) | (with_reducible refine roundx_ret ?_))
            refine Body.keep [] (R := .agg [.int .i64 0, .nilsl, .int .i64 ttl', .str last, .int .i64 pre.length]) (.agg [.int .i64 0, .nilsl, .int .i64 ttl', .str last, .int .i64 pre.length]) [] ?_ rfl trivial (by decide) (by decide) ⟨⟨_, rfl, by rw [htf2]; exact LeS.agg ⟨LeS.refl _, LeS.nil, LeS.refl _, LeS.refl _, LeS.refl _, trivial⟩⟩, rfl⟩
            rw [res15]
            simp (config := {maxSteps := 10000000}) (disch := first | (intro; intros; rename_i h; injection h; done) | omega) only [go_sem, Bool.false_or, Bool.true_or, Bool.or_true, Bool.or_false, Nat.reduceAdd, Nat.reduceSub, Nat.reduceMul, Nat.reduceLT, Nat.reduceLeDiff, Nat.lt_irrefl, Nat.le_refl, List.getElem?_toArray, bne_self_eq_false, Int.le_refl, Int.reduceLE, Int.reduceLT, Int.toNat_zero, Nat.zero_mul, List.all_cons, List.all_nil, Bool.and_self, Bool.and_true, Bool.true_and, Nat.reduceEqDiff, Nat.one_ne_zero, true_and, and_true, and_self, List.drop_succ_cons, List.drop_nil, List.take_succ_cons, List.take_nil, reduceCtorEq, Nat.sub_zero, Option.some.injEq, wrap_i64, wrap_u8, dec_t, dec_f, ite_t, ite_f, Int.toNat_natCast, Int.cast_ofNat_Int, toNat_cast_add, bcells_length, List.length_take, List.length_map, List.length_drop, List.length_append]
        | cons a0 addrs =>
          simp only [adS, adH, List.length_cons] at hal ⊢
          repeat' (first
            | (refine aX_reg fun N hN => ?_; simp (config := {maxSteps := 10000000}) (disch := first | (intro; intros; rename_i h; injection h; done) | omega) only [go_sem, Bool.false_or, Bool.true_or, Bool.or_true, Bool.or_false, Nat.reduceAdd, Nat.reduceSub, Nat.reduceMul, Nat.reduceLT, Nat.reduceLeDiff, Nat.lt_irrefl, Nat.le_refl, List.getElem?_toArray, bne_self_eq_false, Int.le_refl, Int.reduceLE, Int.reduceLT, Int.toNat_zero, Nat.zero_mul, List.all_cons, List.all_nil, Bool.and_self, Bool.and_true, Bool.true_and, Nat.reduceEqDiff, Nat.one_ne_zero, true_and, and_true, and_self, List.drop_succ_cons, List.drop_nil, List.take_succ_cons, List.take_nil, reduceCtorEq, Nat.sub_zero, Option.some.injEq, wrap_i64, wrap_u8, dec_t, dec_f, ite_t, ite_f, Int.toNat_natCast, Int.cast_ofNat_Int, toNat_cast_add, bcells_length, List.length_take, List.length_map, List.length_drop, List.length_append]; with_reducible refine hN _ _ ?_; clear hN N)
            | (refine aX_reg1 fun N hN => ?_; simp (config := {maxSteps := 10000000}) (disch := first | (intro; intros; rename_i h; injection h; done) | omega) only [go_sem, Bool.false_or, Bool.true_or, Bool.or_true, Bool.or_false, Nat.reduceAdd, Nat.reduceSub, Nat.reduceMul, Nat.reduceLT, Nat.reduceLeDiff, Nat.lt_irrefl, Nat.le_refl, List.getElem?_toArray, bne_self_eq_false, Int.le_refl, Int.reduceLE, Int.reduceLT, Int.toNat_zero, Nat.zero_mul, List.all_cons, List.all_nil, Bool.and_self, Bool.and_true, Bool.true_and, Nat.reduceEqDiff, Nat.one_ne_zero, true_and, and_true, and_self, List.drop_succ_cons, List.drop_nil, List.take_succ_cons, List.take_nil, reduceCtorEq, Nat.sub_zero, Option.some.injEq, wrap_i64, wrap_u8, dec_t, dec_f, ite_t, ite_f, Int.toNat_natCast, Int.cast_ofNat_Int, toNat_cast_add, bcells_length, List.length_take, List.length_map, List.length_drop, List.length_append]; with_reducible refine hN _ _ ?_; clear hN N)
            | (refine aX_seq_k fun N hN => ?_)
            | (refine aX_block ?_)
            | (refine aX_cond (b := true) rfl (fun _ => ?_) (fun h => by cases h))
            | (refine aX_cond (b := false) rfl (fun h => by cases h) (fun _ => ?_))
            | (refine aX_skip ?_)
            | (refine aX_exit ?_)
            | (with_reducible refine nxx_normal ?_)
            | (with_reducible refine nx_normal ?_)
            | (with_reducible refine hN _ _ ?_; clear hN N) | (with_reducible refine hN _ _ _ ?_; clear hN N) | (clear hN N; with_reducible refine hN _ _ ?_; clear hN N) | (clear hN N; with_reducible refine hN _ _ _ ?_; clear hN N) | (clear hN N; clear hN N; with_reducible refine hN _ _ ?_; clear hN N) | (clear hN N; clear hN N; with_reducible refine hN _ _ _ ?_; clear hN N) | (clear hN N; clear hN N; clear hN N; with_reducible refine hN _ _ ?_; clear hN N) | (clear hN N; clear hN N; clear hN N; with_reducible refine hN _ _ _ ?_; clear hN N)
            | (with_reducible refine nxx_exit ?_)
            | (with_reducible refine nxx_ret ?_)
            | (with_reducible refine ibx_normal ?_)
            | (with_reducible refine ibx_exit ?_)
            | (with_reducible refine ibx_ret ?_)
            | (with_reducible refine ibx_exit_ne (by decide) ?_)
            | (with_reducible refine roundx_exit ?_)
            | (with_reducible refine roundx_ret ?_))
          simp only [RangeK]
          have htf2 : tellF q flags l = ⟨0, a0 :: addrs, ttl', [], (pre.length : Int)⟩ := by rw [htf, if_pos rfl]; rfl
          repeat' (first
            | (refine aX_reg fun N hN => ?_; simp (config := {maxSteps := 10000000}) (disch := first | (intro; intros; rename_i h; injection h; done) | omega) only [go_sem, Bool.false_or, Bool.true_or, Bool.or_true, Bool.or_false, Nat.reduceAdd, Nat.reduceSub, Nat.reduceMul, Nat.reduceLT, Nat.reduceLeDiff, Nat.lt_irrefl, Nat.le_refl, List.getElem?_toArray, bne_self_eq_false, Int.le_refl, Int.reduceLE, Int.reduceLT, Int.toNat_zero, Nat.zero_mul, List.all_cons, List.all_nil, Bool.and_self, Bool.and_true, Bool.true_and, Nat.reduceEqDiff, Nat.one_ne_zero, true_and, and_true, and_self, List.drop_succ_cons, List.drop_nil, List.take_succ_cons, List.take_nil, reduceCtorEq, Nat.sub_zero, Option.some.injEq, wrap_i64, wrap_u8, dec_t, dec_f, ite_t, ite_f, Int.toNat_natCast, Int.cast_ofNat_Int, toNat_cast_add, bcells_length, List.length_take, List.length_map, List.length_drop, List.length_append, hpe]; with_reducible refine hN _ _ ?_; clear hN N)
            | (refine aX_reg1 fun N hN => ?_; simp (config := {maxSteps := 10000000}) (disch := first | (intro; intros; rename_i h; injection h; done) | omega) only [go_sem, Bool.false_or, Bool.true_or, Bool.or_true, Bool.or_false, Nat.reduceAdd, Nat.reduceSub, Nat.reduceMul, Nat.reduceLT, Nat.reduceLeDiff, Nat.lt_irrefl, Nat.le_refl, List.getElem?_toArray, bne_self_eq_false, Int.le_refl, Int.reduceLE, Int.reduceLT, Int.toNat_zero, Nat.zero_mul, List.all_cons, List.all_nil, Bool.and_self, Bool.and_true, Bool.true_and, Nat.reduceEqDiff, Nat.one_ne_zero, true_and, and_true, and_self, List.drop_succ_cons, List.drop_nil, List.take_succ_cons, List.take_nil, reduceCtorEq, Nat.sub_zero, Option.some.injEq, wrap_i64, wrap_u8, dec_t, dec_f, ite_t, ite_f, Int.toNat_natCast, Int.cast_ofNat_Int, toNat_cast_add, bcells_length, List.length_take, List.length_map, List.length_drop, List.length_append, hpe]; with_reducible refine hN _ _ ?_; clear hN N)
            | (refine aX_seq_k fun N hN => ?_)
            | (refine aX_block ?_)
            | (refine aX_cond (b := true) rfl (fun _ => ?_) (fun h => by cases h))
            | (refine aX_cond (b := false) rfl (fun h => by cases h) (fun _ => ?_))
            | (refine aX_skip ?_)
            | (refine aX_exit ?_)
            | (with_reducible refine nxx_normal ?_)
            | (with_reducible refine nx_normal ?_)
            | (with_reducible refine hN _ _ ?_; clear hN N) | (with_reducible refine hN _ _ _ ?_; clear hN N) | (clear hN N; with_reducible refine hN _ _ ?_; clear hN N) | (clear hN N; with_reducible refine hN _ _ _ ?_; clear hN N) | (clear hN N; clear hN N; with_reducible refine hN _ _ ?_; clear hN N) | (clear hN N; clear hN N; with_reducible refine hN _ _ _ ?_; clear hN N) | (clear hN N; clear hN N; clear hN N; with_reducible refine hN _ _ ?_; clear hN N) | (clear hN N; clear hN N; clear hN N; with_reducible refine hN _ _ _ ?_; clear hN N)
            | (with_reducible refine nxx_exit ?_)
            | (with_reducible refine nxx_ret ?_)
            | (with_reducible refine ibx_normal ?_)
            | (with_reducible refine ibx_exit ?_)
            | (with_reducible refine ibx_ret ?_)
            | (with_reducible refine ibx_exit_ne (by decide) ?_)
            | (with_reducible refine roundx_exit ?_)
            | (with_reducible refine roundx_ret ?_))
          refine aX_forget ((.unk :: .unk :: .unk :: .unk :: .ptr 2 0 :: .unk :: .unk :: .unk :: .unk :: .unk :: .unk :: .unk :: .unk :: .unk :: .unk :: .unk :: .unk :: .unk :: .unk :: .unk :: .unk :: .unk :: .unk :: .unk :: .unk :: .unk :: .unk :: .unk :: .unk :: .unk :: .unk :: .unk :: .unk :: .unk :: .unk :: .unk :: .unk :: .unk :: .unk :: .unk :: .unk :: .unk :: .unk :: .unk :: .unk :: .unk :: .unk :: .unk :: .unk :: .unk :: .unk :: .unk :: .unk :: .unk :: .unk :: .unk :: .unk :: .unk :: .unk :: .unk :: .unk :: .unk :: .unk :: .unk :: .unk :: .unk :: .unk :: .unk :: .unk :: .unk :: .unk :: .unk :: .unk :: .unk :: .unk :: .unk :: .unk :: .unk :: .unk :: .unk :: .unk :: [])) (by simp [LeU]) fun _ => ?_
          refine aX_freeze 7 rfl ?_
          simp only [go_sem, frzL, frz, frzH, frzB, List.set_cons_zero, List.set_cons_succ, if_true, if_false, Nat.reduceEqDiff, Option.some.injEq, reduceCtorEq]
          refine aX_ret ?_
          repeat' (first | (with_reducible refine nxx_ret ?_) | (with_reducible refine ibx_ret ?_) | (with_reducible refine roundx_ret ?_))
          refine Body.keep [] (R := .agg (tcell (tellF q flags l))) (.agg (tcell (tellF q flags l))) [] ?_ ?_ trivial (by decide) (by decide) ⟨⟨_, rfl, LeS.refl _⟩, rfl⟩
          · rw [res15, htf2]
            simp (config := {maxSteps := 10000000}) (disch := first | (intro; intros; rename_i h; injection h; done) | omega) only [go_sem, Bool.false_or, Bool.true_or, Bool.or_true, Bool.or_false, Nat.reduceAdd, Nat.reduceSub, Nat.reduceMul, Nat.reduceLT, Nat.reduceLeDiff, Nat.lt_irrefl, Nat.le_refl, List.getElem?_toArray, bne_self_eq_false, Int.le_refl, Int.reduceLE, Int.reduceLT, Int.toNat_zero, Nat.zero_mul, List.all_cons, List.all_nil, Bool.and_self, Bool.and_true, Bool.true_and, Nat.reduceEqDiff, Nat.one_ne_zero, true_and, and_true, and_self, List.drop_succ_cons, List.drop_nil, List.take_succ_cons, List.take_nil, reduceCtorEq, Nat.sub_zero, Option.some.injEq, wrap_i64, wrap_u8, dec_t, dec_f, ite_t, ite_f, Int.toNat_natCast, Int.cast_ofNat_Int, toNat_cast_add, bcells_length, List.length_take, List.length_map, List.length_drop, List.length_append, tcell]
          · simp only [LeV, ren, renL, tcell, aE.ren]
  · have hb2 : (((lowB flags 4 : Nat) : Int) == 0) = false := by simp; omega
    rw [hb2]
    repeat' (first
      | (refine aX_reg fun N hN => ?_; simp (config := {maxSteps := 10000000}) (disch := first | (intro; intros; rename_i h; injection h; done) | omega) only [go_sem, Bool.false_or, Bool.true_or, Bool.or_true, Bool.or_false, Nat.reduceAdd, Nat.reduceSub, Nat.reduceMul, Nat.reduceLT, Nat.reduceLeDiff, Nat.lt_irrefl, Nat.le_refl, List.getElem?_toArray, bne_self_eq_false, Int.le_refl, Int.reduceLE, Int.reduceLT, Int.toNat_zero, Nat.zero_mul, List.all_cons, List.all_nil, Bool.and_self, Bool.and_true, Bool.true_and, Nat.reduceEqDiff, Nat.one_ne_zero, true_and, and_true, and_self, List.drop_succ_cons, List.drop_nil, List.take_succ_cons, List.take_nil, reduceCtorEq, Nat.sub_zero, Option.some.injEq, wrap_i64, wrap_u8, dec_t, dec_f, ite_t, ite_f, Int.toNat_natCast, Int.cast_ofNat_Int, toNat_cast_add, bcells_length, List.length_take, List.length_map, List.length_drop, List.length_append]; with_reducible refine hN _ _ ?_; clear hN N)
      | (refine aX_reg1 fun N hN => ?_; simp (config := {maxSteps := 10000000}) (disch := first | (intro; intros; rename_i h; injection h; done) | omega) only [go_sem, Bool.false_or, Bool.true_or, Bool.or_true, Bool.or_false, Nat.reduceAdd, Nat.reduceSub, Nat.reduceMul, Nat.reduceLT, Nat.reduceLeDiff, Nat.lt_irrefl, Nat.le_refl, List.getElem?_toArray, bne_self_eq_false, Int.le_refl, Int.reduceLE, Int.reduceLT, Int.toNat_zero, Nat.zero_mul, List.all_cons, List.all_nil, Bool.and_self, Bool.and_true, Bool.true_and, Nat.reduceEqDiff, Nat.one_ne_zero, true_and, and_true, and_self, List.drop_succ_cons, List.drop_nil, List.take_succ_cons, List.take_nil, reduceCtorEq, Nat.sub_zero, Option.some.injEq, wrap_i64, wrap_u8, dec_t, dec_f, ite_t, ite_f, Int.toNat_natCast, Int.cast_ofNat_Int, toNat_cast_add, bcells_length, List.length_take, List.length_map, List.length_drop, List.length_append]; with_reducible refine hN _ _ ?_; clear hN N)
      | (refine aX_seq_k fun N hN => ?_)
      | (refine aX_block ?_)
      | (refine aX_cond (b := true) rfl (fun _ => ?_) (fun h => by cases h))
      | (refine aX_cond (b := false) rfl (fun h => by cases h) (fun _ => ?_))
      | (refine aX_skip ?_)
      | (refine aX_exit ?_)
      | (with_reducible refine nxx_normal ?_)
      | (with_reducible refine nx_normal ?_)
      | (with_reducible refine hN _ _ ?_; clear hN N) | (with_reducible refine hN _ _ _ ?_; clear hN N) | (clear hN N; with_reducible refine hN _ _ ?_; clear hN N) | (clear hN N; with_reducible refine hN _ _ _ ?_; clear hN N) | (clear hN N; clear hN N; with_reducible refine hN _ _ ?_; clear hN N) | (clear hN N; clear hN N; with_reducible refine hN _ _ _ ?_; clear hN N) | (clear hN N; clear hN N; clear hN N; with_reducible refine hN _ _ ?_; clear hN N) | (clear hN N; clear hN N; clear hN N; with_reducible refine hN _ _ _ ?_; clear hN N)
      | (with_reducible refine nxx_exit ?_)
      | (with_reducible refine nxx_ret ?_)
      | (with_reducible refine ibx_normal ?_)
      | (with_reducible refine ibx_exit ?_)
      | (with_reducible refine ibx_ret ?_)
      | (with_reducible refine ibx_exit_ne (by decide) ?_)
      | (with_reducible refine roundx_exit ?_)
      | (with_reducible refine roundx_ret ?_))
    by_cases h3 : lowB flags 4 = 3
    · have hb1 : (((lowB flags 4 : Nat) : Int) == 3) = true := by rw [h3]; rfl
      have htf : tellF q flags l = ⟨8, [], 0, [], 0⟩ := by rw [tellF, if_pos h3]
      rw [hb1]
      repeat' (first
        | (refine aX_reg fun N hN => ?_; simp (config := {maxSteps := 10000000}) (disch := first | (intro; intros; rename_i h; injection h; done) | omega) only [go_sem, Bool.false_or, Bool.true_or, Bool.or_true, Bool.or_false, Nat.reduceAdd, Nat.reduceSub, Nat.reduceMul, Nat.reduceLT, Nat.reduceLeDiff, Nat.lt_irrefl, Nat.le_refl, List.getElem?_toArray, bne_self_eq_false, Int.le_refl, Int.reduceLE, Int.reduceLT, Int.toNat_zero, Nat.zero_mul, List.all_cons, List.all_nil, Bool.and_self, Bool.and_true, Bool.true_and, Nat.reduceEqDiff, Nat.one_ne_zero, true_and, and_true, and_self, List.drop_succ_cons, List.drop_nil, List.take_succ_cons, List.take_nil, reduceCtorEq, Nat.sub_zero, Option.some.injEq, wrap_i64, wrap_u8, dec_t, dec_f, ite_t, ite_f, Int.toNat_natCast, Int.cast_ofNat_Int, toNat_cast_add, bcells_length, List.length_take, List.length_map, List.length_drop, List.length_append]; with_reducible refine hN _ _ ?_; clear hN N)
        | (refine aX_reg1 fun N hN => ?_; simp (config := {maxSteps := 10000000}) (disch := first | (intro; intros; rename_i h; injection h; done) | omega) only [go_sem, Bool.false_or, Bool.true_or, Bool.or_true, Bool.or_false, Nat.reduceAdd, Nat.reduceSub, Nat.reduceMul, Nat.reduceLT, Nat.reduceLeDiff, Nat.lt_irrefl, Nat.le_refl, List.getElem?_toArray, bne_self_eq_false, Int.le_refl, Int.reduceLE, Int.reduceLT, Int.toNat_zero, Nat.zero_mul, List.all_cons, List.all_nil, Bool.and_self, Bool.and_true, Bool.true_and, Nat.reduceEqDiff, Nat.one_ne_zero, true_and, and_true, and_self, List.drop_succ_cons, List.drop_nil, List.take_succ_cons, List.take_nil, reduceCtorEq, Nat.sub_zero, Option.some.injEq, wrap_i64, wrap_u8, dec_t, dec_f, ite_t, ite_f, Int.toNat_natCast, Int.cast_ofNat_Int, toNat_cast_add, bcells_length, List.length_take, List.length_map, List.length_drop, List.length_append]; with_reducible refine hN _ _ ?_; clear hN N)
        | (refine aX_seq_k fun N hN => ?_)
        | (refine aX_block ?_)
        | (refine aX_cond (b := true) rfl (fun _ => ?_) (fun h => by cases h))
        | (refine aX_cond (b := false) rfl (fun h => by cases h) (fun _ => ?_))
        | (refine aX_skip ?_)
        | (refine aX_exit ?_)
        | (with_reducible refine nxx_normal ?_)
        | (with_reducible refine nx_normal ?_)
        | (with_reducible refine hN _ _ ?_; clear hN N) | (with_reducible refine hN _ _ _ ?_; clear hN N) | (clear hN N; with_reducible refine hN _ _ ?_; clear hN N) | (clear hN N; with_reducible refine hN _ _ _ ?_; clear hN N) | (clear hN N; clear hN N; with_reducible refine hN _ _ ?_; clear hN N) | (clear hN N; clear hN N; with_reducible refine hN _ _ _ ?_; clear hN N) | (clear hN N; clear hN N; clear hN N; with_reducible refine hN _ _ ?_; clear hN N) | (clear hN N; clear hN N; clear hN N; with_reducible refine hN _ _ _ ?_; clear hN N)
        | (with_reducible refine nxx_exit ?_)
        | (with_reducible refine nxx_ret ?_)
        | (with_reducible refine ibx_normal ?_)
        | (with_reducible refine ibx_exit ?_)
        | (with_reducible refine ibx_ret ?_)
        | (with_reducible refine ibx_exit_ne (by decide) ?_)
        | (with_reducible refine roundx_exit ?_)
        | (with_reducible refine roundx_ret ?_))
      refine aX_ret ?_
      repeat' (first | (with_reducible refine nxx_ret ?_) | (with_reducible refine ibx_ret ?_) | (with_reducible refine roundx_ret ?_))
      refine Body.keep [] (R := .agg [.int .i64 8, .nilsl, .int .i64 0, .str [], .int .i64 0]) (.agg [.int .i64 8, .nilsl, .int .i64 0, .str [], .int .i64 0]) [] ?_ rfl trivial (by decide) (by decide) ⟨⟨_, rfl, by rw [htf]; exact leE 8⟩, rfl⟩
      rw [res15]
      simp (config := {maxSteps := 10000000}) (disch := first | (intro; intros; rename_i h; injection h; done) | omega) only [go_sem, Bool.false_or, Bool.true_or, Bool.or_true, Bool.or_false, Nat.reduceAdd, Nat.reduceSub, Nat.reduceMul, Nat.reduceLT, Nat.reduceLeDiff, Nat.lt_irrefl, Nat.le_refl, List.getElem?_toArray, bne_self_eq_false, Int.le_refl, Int.reduceLE, Int.reduceLT, Int.toNat_zero, Nat.zero_mul, List.all_cons, List.all_nil, Bool.and_self, Bool.and_true, Bool.true_and, Nat.reduceEqDiff, Nat.one_ne_zero, true_and, and_true, and_self, List.drop_succ_cons, List.drop_nil, List.take_succ_cons, List.take_nil, reduceCtorEq, Nat.sub_zero, Option.some.injEq, wrap_i64, wrap_u8, dec_t, dec_f, ite_t, ite_f, Int.toNat_natCast, Int.cast_ofNat_Int, toNat_cast_add, bcells_length, List.length_take, List.length_map, List.length_drop, List.length_append]
    · have hb1 : (((lowB flags 4 : Nat) : Int) == 3) = false := by simp; omega
      have htf : tellF q flags l = ⟨7, [], 0, [], 0⟩ := by rw [tellF, if_neg h3, if_neg h0]
      rw [hb1]
      repeat' (first
        | (refine aX_reg fun N hN => ?_; simp (config := {maxSteps := 10000000}) (disch := first | (intro; intros; rename_i h; injection h; done) | omega) only [go_sem, Bool.false_or, Bool.true_or, Bool.or_true, Bool.or_false, Nat.reduceAdd, Nat.reduceSub, Nat.reduceMul, Nat.reduceLT, Nat.reduceLeDiff, Nat.lt_irrefl, Nat.le_refl, List.getElem?_toArray, bne_self_eq_false, Int.le_refl, Int.reduceLE, Int.reduceLT, Int.toNat_zero, Nat.zero_mul, List.all_cons, List.all_nil, Bool.and_self, Bool.and_true, Bool.true_and, Nat.reduceEqDiff, Nat.one_ne_zero, true_and, and_true, and_self, List.drop_succ_cons, List.drop_nil, List.take_succ_cons, List.take_nil, reduceCtorEq, Nat.sub_zero, Option.some.injEq, wrap_i64, wrap_u8, dec_t, dec_f, ite_t, ite_f, Int.toNat_natCast, Int.cast_ofNat_Int, toNat_cast_add, bcells_length, List.length_take, List.length_map, List.length_drop, List.length_append]; with_reducible refine hN _ _ ?_; clear hN N)
        | (refine aX_reg1 fun N hN => ?_; simp (config := {maxSteps := 10000000}) (disch := first | (intro; intros; rename_i h; injection h; done) | omega) only [go_sem, Bool.false_or, Bool.true_or, Bool.or_true, Bool.or_false, Nat.reduceAdd, Nat.reduceSub, Nat.reduceMul, Nat.reduceLT, Nat.reduceLeDiff, Nat.lt_irrefl, Nat.le_refl, List.getElem?_toArray, bne_self_eq_false, Int.le_refl, Int.reduceLE, Int.reduceLT, Int.toNat_zero, Nat.zero_mul, List.all_cons, List.all_nil, Bool.and_self, Bool.and_true, Bool.true_and, Nat.reduceEqDiff, Nat.one_ne_zero, true_and, and_true, and_self, List.drop_succ_cons, List.drop_nil, List.take_succ_cons, List.take_nil, reduceCtorEq, Nat.sub_zero, Option.some.injEq, wrap_i64, wrap_u8, dec_t, dec_f, ite_t, ite_f, Int.toNat_natCast, Int.cast_ofNat_Int, toNat_cast_add, bcells_length, List.length_take, List.length_map, List.length_drop, List.length_append]; with_reducible refine hN _ _ ?_; clear hN N)
        | (refine aX_seq_k fun N hN => ?_)
        | (refine aX_block ?_)
        | (refine aX_cond (b := true) rfl (fun _ => ?_) (fun h => by cases h))
        | (refine aX_cond (b := false) rfl (fun h => by cases h) (fun _ => ?_))
        | (refine aX_skip ?_)
        | (refine aX_exit ?_)
        | (with_reducible refine nxx_normal ?_)
        | (with_reducible refine nx_normal ?_)
        | (with_reducible refine hN _ _ ?_; clear hN N) | (with_reducible refine hN _ _ _ ?_; clear hN N) | (clear hN N; with_reducible refine hN _ _ ?_; clear hN N) | (clear hN N; with_reducible refine hN _ _ _ ?_; clear hN N) | (clear hN N; clear hN N; with_reducible refine hN _ _ ?_; clear hN N) | (clear hN N; clear hN N; with_reducible refine hN _ _ _ ?_; clear hN N) | (clear hN N; clear hN N; clear hN N; with_reducible refine hN _ _ ?_; clear hN N) | (clear hN N; clear hN N; clear hN N; with_reducible refine hN _ _ _ ?_; clear hN N)
        | (with_reducible refine nxx_exit ?_)
        | (with_reducible refine nxx_ret ?_)
        | (with_reducible refine ibx_normal ?_)
        | (with_reducible refine ibx_exit ?_)
        | (with_reducible refine ibx_ret ?_)
        | (with_reducible refine ibx_exit_ne (by decide) ?_)
        | (with_reducible refine roundx_exit ?_)
        | (with_reducible refine roundx_ret ?_))
      refine aX_ret ?_
      repeat' (first | (with_reducible refine nxx_ret ?_) | (with_reducible refine ibx_ret ?_) | (with_reducible refine roundx_ret ?_))
      refine Body.keep [] (R := .agg [.int .i64 7, .nilsl, .int .i64 0, .str [], .int .i64 0]) (.agg [.int .i64 7, .nilsl, .int .i64 0, .str [], .int .i64 0]) [] ?_ rfl trivial (by decide) (by decide) ⟨⟨_, rfl, by rw [htf]; exact leE 7⟩, rfl⟩
      rw [res15]
      simp (config := {maxSteps := 10000000}) (disch := first | (intro; intros; rename_i h; injection h; done) | omega) only [go_sem, Bool.false_or, Bool.true_or, Bool.or_true, Bool.or_false, Nat.reduceAdd, Nat.reduceSub, Nat.reduceMul, Nat.reduceLT, Nat.reduceLeDiff, Nat.lt_irrefl, Nat.le_refl, List.getElem?_toArray, bne_self_eq_false, Int.le_refl, Int.reduceLE, Int.reduceLT, Int.toNat_zero, Nat.zero_mul, List.all_cons, List.all_nil, Bool.and_self, Bool.and_true, Bool.true_and, Nat.reduceEqDiff, Nat.one_ne_zero, true_and, and_true, and_self, List.drop_succ_cons, List.drop_nil, List.take_succ_cons, List.take_nil, reduceCtorEq, Nat.sub_zero, Option.some.injEq, wrap_i64, wrap_u8, dec_t, dec_f, ite_t, ite_f, Int.toNat_natCast, Int.cast_ofNat_Int, toNat_cast_add, bcells_length, List.length_take, List.length_map, List.length_drop, List.length_append]
end Go.Proofs
