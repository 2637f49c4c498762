/- Contracts of the package's functions, by the walk over abstract values. No condition. -/
import Derived.Test.YtoikhkfipefmeaaPin10
namespace Go.Proofs
open Go Go.AH TryTy
set_option linter.unusedSimpArgs false
set_option linter.unusedVariables false
set_option maxRecDepth 10000

theorem kcell_len (x : Pn) (r : List AV) : (2 ≤ (kcell x ++ r).length) = True := by simp [kcell]
theorem kcell_take (x : Pn) (r : List AV) : List.take 2 (kcell x ++ r) = kcell x := by simp [kcell]

theorem c29 (p : Pn) (k : Int) : ACalls Try.prog 29 [.agg (kcell p), .ptr 0 0] [some (.row [.int .i64 k] 3 true)] (fun r h => r = .ret (.bool (!decide (p.page = k))) ∧ h = [some (.row [.int .i64 k] 3 true)]) := by
  simp only [kcell]
  refine acalls_body Try.func29 rfl (by decide +kernel) ?_
  simp only [List.length_nil, List.length_cons, List.length_append, Nat.zero_add, Try.ntmps29, List.replicate, List.cons_append, List.nil_append, List.append_assoc, Nat.reduceSub, Nat.reduceAdd]
  repeat' (first
    | (refine aW_reg fun N hN => ?_; simp (config := {maxSteps := 10000000}) (disch := first | (intro; intros; rename_i h; injection h; done) | omega) only [go_sem, Bool.false_or, Bool.true_or, Bool.or_true, Bool.or_false, Nat.reduceAdd, Nat.reduceSub, Nat.reduceMul, Nat.reduceLT, Nat.reduceLeDiff, Nat.lt_irrefl, Nat.le_refl, List.getElem?_toArray, bne_self_eq_false, Int.le_refl, Int.reduceLE, Int.reduceLT, Int.toNat_zero, Nat.zero_mul, List.all_cons, List.all_nil, Bool.and_self, Bool.and_true, Bool.true_and, Nat.reduceEqDiff, Nat.one_ne_zero, true_and, and_true, and_self, List.drop_succ_cons, List.drop_nil, List.take_succ_cons, List.take_nil, wrap_i64, wrap_u8, dec_t, dec_f, ite_t, ite_f, Int.toNat_natCast, Int.cast_ofNat_Int, toNat_cast_add, bcells_length, List.length_take, List.length_map, List.length_drop, List.length_append]; with_reducible refine hN _ _ ?_; clear hN N)
    | (refine aW_reg1 fun N hN => ?_; simp (config := {maxSteps := 10000000}) (disch := first | (intro; intros; rename_i h; injection h; done) | omega) only [go_sem, Bool.false_or, Bool.true_or, Bool.or_true, Bool.or_false, Nat.reduceAdd, Nat.reduceSub, Nat.reduceMul, Nat.reduceLT, Nat.reduceLeDiff, Nat.lt_irrefl, Nat.le_refl, List.getElem?_toArray, bne_self_eq_false, Int.le_refl, Int.reduceLE, Int.reduceLT, Int.toNat_zero, Nat.zero_mul, List.all_cons, List.all_nil, Bool.and_self, Bool.and_true, Bool.true_and, Nat.reduceEqDiff, Nat.one_ne_zero, true_and, and_true, and_self, List.drop_succ_cons, List.drop_nil, List.take_succ_cons, List.take_nil, wrap_i64, wrap_u8, dec_t, dec_f, ite_t, ite_f, Int.toNat_natCast, Int.cast_ofNat_Int, toNat_cast_add, bcells_length, List.length_take, List.length_map, List.length_drop, List.length_append]; with_reducible refine hN _ _ ?_; clear hN N)
    | (refine aW_seq_k fun N hN => ?_)
    | (refine aW_block ?_)
    | (refine aW_cond (b := true) rfl (fun _ => ?_) (fun h => by cases h))
    | (refine aW_cond (b := false) rfl (fun h => by cases h) (fun _ => ?_))
    | (refine aW_skip ?_)
    | (refine aW_exit ?_)
    | (with_reducible refine nx_normal ?_)
    | (first | (with_reducible refine hN _ _ ?_; clear hN N) | (clear hN N; with_reducible refine hN _ _ ?_; clear hN N) | (clear hN N; clear hN N; with_reducible refine hN _ _ ?_; clear hN N) | (clear hN N; clear hN N; clear hN N; with_reducible refine hN _ _ ?_; clear hN N))
    | (with_reducible refine nx_exit ?_)
    | (with_reducible refine nx_ret ?_)
    | (with_reducible refine ib_normal ?_)
    | (with_reducible refine ib_exit ?_)
    | (with_reducible refine ib_ret ?_)
    | (with_reducible refine ib_exit_ne (by decide) ?_)
    | (with_reducible refine for_exit ?_)
    | (with_reducible refine for_ret ?_)
    | (with_reducible refine forq_exit ?_)
    | (with_reducible refine forq_ret ?_)
    | (with_reducible refine round_exit ?_)
    | (with_reducible refine round_ret ?_))
  refine aW_ret ?_
  repeat' (first | (with_reducible refine nx_ret ?_) | (with_reducible refine ib_ret ?_) | (with_reducible refine for_ret ?_) | (with_reducible refine forq_ret ?_) | (with_reducible refine round_ret ?_))
  refine Body.keep [0] (.bool (!decide (p.page = k))) [some (.row [.int .i64 k] 3 true)] rfl ?_ ⟨rfl, trivial⟩ (by decide) (by decide) ⟨rfl, rfl⟩
  simp [go_sem, bne, beq_eq_decide']
theorem c31 (p : Pn) (k : Int) : ACalls Try.prog 31 [.agg (pcell p), .ptr 0 0] [some (.row [.int .i64 k] 3 true)] (fun r h => r = .ret (.bool (decide (p.page = k))) ∧ h = [some (.row [.int .i64 k] 3 true)]) := by
  simp only [pcell]
  refine acalls_body Try.func31 rfl (by decide +kernel) ?_
  simp only [List.length_nil, List.length_cons, List.length_append, Nat.zero_add, Try.ntmps31, List.replicate, List.cons_append, List.nil_append, List.append_assoc, Nat.reduceSub, Nat.reduceAdd]
  repeat' (first
    | (refine aW_reg fun N hN => ?_; simp (config := {maxSteps := 10000000}) (disch := first | (intro; intros; rename_i h; injection h; done) | omega) only [go_sem, Bool.false_or, Bool.true_or, Bool.or_true, Bool.or_false, Nat.reduceAdd, Nat.reduceSub, Nat.reduceMul, Nat.reduceLT, Nat.reduceLeDiff, Nat.lt_irrefl, Nat.le_refl, List.getElem?_toArray, bne_self_eq_false, Int.le_refl, Int.reduceLE, Int.reduceLT, Int.toNat_zero, Nat.zero_mul, List.all_cons, List.all_nil, Bool.and_self, Bool.and_true, Bool.true_and, Nat.reduceEqDiff, Nat.one_ne_zero, true_and, and_true, and_self, List.drop_succ_cons, List.drop_nil, List.take_succ_cons, List.take_nil, wrap_i64, wrap_u8, dec_t, dec_f, ite_t, ite_f, Int.toNat_natCast, Int.cast_ofNat_Int, toNat_cast_add, bcells_length, List.length_take, List.length_map, List.length_drop, List.length_append]; with_reducible refine hN _ _ ?_; clear hN N)
    | (refine aW_reg1 fun N hN => ?_; simp (config := {maxSteps := 10000000}) (disch := first | (intro; intros; rename_i h; injection h; done) | omega) only [go_sem, Bool.false_or, Bool.true_or, Bool.or_true, Bool.or_false, Nat.reduceAdd, Nat.reduceSub, Nat.reduceMul, Nat.reduceLT, Nat.reduceLeDiff, Nat.lt_irrefl, Nat.le_refl, List.getElem?_toArray, bne_self_eq_false, Int.le_refl, Int.reduceLE, Int.reduceLT, Int.toNat_zero, Nat.zero_mul, List.all_cons, List.all_nil, Bool.and_self, Bool.and_true, Bool.true_and, Nat.reduceEqDiff, Nat.one_ne_zero, true_and, and_true, and_self, List.drop_succ_cons, List.drop_nil, List.take_succ_cons, List.take_nil, wrap_i64, wrap_u8, dec_t, dec_f, ite_t, ite_f, Int.toNat_natCast, Int.cast_ofNat_Int, toNat_cast_add, bcells_length, List.length_take, List.length_map, List.length_drop, List.length_append]; with_reducible refine hN _ _ ?_; clear hN N)
    | (refine aW_seq_k fun N hN => ?_)
    | (refine aW_block ?_)
    | (refine aW_cond (b := true) rfl (fun _ => ?_) (fun h => by cases h))
    | (refine aW_cond (b := false) rfl (fun h => by cases h) (fun _ => ?_))
    | (refine aW_skip ?_)
    | (refine aW_exit ?_)
    | (with_reducible refine nx_normal ?_)
    | (first | (with_reducible refine hN _ _ ?_; clear hN N) | (clear hN N; with_reducible refine hN _ _ ?_; clear hN N) | (clear hN N; clear hN N; with_reducible refine hN _ _ ?_; clear hN N) | (clear hN N; clear hN N; clear hN N; with_reducible refine hN _ _ ?_; clear hN N))
    | (with_reducible refine nx_exit ?_)
    | (with_reducible refine nx_ret ?_)
    | (with_reducible refine ib_normal ?_)
    | (with_reducible refine ib_exit ?_)
    | (with_reducible refine ib_ret ?_)
    | (with_reducible refine ib_exit_ne (by decide) ?_)
    | (with_reducible refine for_exit ?_)
    | (with_reducible refine for_ret ?_)
    | (with_reducible refine forq_exit ?_)
    | (with_reducible refine forq_ret ?_)
    | (with_reducible refine round_exit ?_)
    | (with_reducible refine round_ret ?_))
  refine aW_ret ?_
  repeat' (first | (with_reducible refine nx_ret ?_) | (with_reducible refine ib_ret ?_) | (with_reducible refine for_ret ?_) | (with_reducible refine forq_ret ?_) | (with_reducible refine round_ret ?_))
  refine Body.keep [0] (.bool (decide (p.page = k))) [some (.row [.int .i64 k] 3 true)] rfl ?_ ⟨rfl, trivial⟩ (by decide) (by decide) ⟨rfl, rfl⟩
  simp [go_sem, beq_eq_decide']

theorem index35_c (l : List Pn) (hl : l.length ≤ 9223372036854775806) (f : FuncId) (caps : List AV) (h0 : Heap) (q : Pn → Bool)
    (hq : ∀ p, ACalls Try.prog f ([.agg (kcell p)] ++ caps) h0 (fun r h => r = .ret (.bool (q p)) ∧ h = h0)) :
    ACalls Try.prog 35 [.isl (kE.cells l) l.length, .fn (.func f) caps] h0 (fun r h => r = .ret (.int .i64 (idx q l)) ∧ h = h0) := by
  refine acalls_body Try.func35 rfl (by decide +kernel) ?_
  simp only [List.length_nil, List.length_cons, List.length_append, Nat.zero_add, Try.ntmps35, List.replicate, List.cons_append, List.nil_append, List.append_assoc, Nat.reduceSub, Nat.reduceAdd]
  refine aW_reg fun N hN => ?_
  simp (config := {maxSteps := 10000000}) only [go_sem, Nat.reduceAdd, Nat.reduceSub, Nat.reduceMul, Nat.reduceLT, Nat.reduceLeDiff, Nat.lt_irrefl, Nat.le_refl, List.getElem?_toArray, bne_self_eq_false, Int.le_refl, Int.reduceLE, Int.reduceLT, Int.toNat_zero, Nat.zero_mul, List.all_cons, List.all_nil, Bool.and_self, Bool.and_true, Bool.true_and, Nat.reduceEqDiff, Nat.one_ne_zero, true_and, and_true, and_self, List.drop_succ_cons, List.drop_nil, List.take_succ_cons, List.take_nil]
  refine hN _ _ ?_; clear hN N
  refine aW_seq_k fun N hN => ?_
  refine aW_reg fun N hN => ?_
  simp (config := {maxSteps := 10000000}) only [go_sem, Nat.reduceAdd, Nat.reduceSub, Nat.reduceMul, Nat.reduceLT, Nat.reduceLeDiff, Nat.lt_irrefl, Nat.le_refl, List.getElem?_toArray, bne_self_eq_false, Int.le_refl, Int.reduceLE, Int.reduceLT, Int.toNat_zero, Nat.zero_mul, List.all_cons, List.all_nil, Bool.and_self, Bool.and_true, Bool.true_and, Nat.reduceEqDiff, Nat.one_ne_zero, true_and, and_true, and_self, List.drop_succ_cons, List.drop_nil, List.take_succ_cons, List.take_nil]
  refine hN _ _ ?_; clear hN N
  refine aW_forget ([.isl (kE.cells l) l.length, .fn (.func f) caps, .unk, .unk, .unk, .unk, .unk, .int .i64 l.length, .int .i64 ((0 : Nat) : Int), .unk, .unk, .unk, .unk, .unk, .unk, .unk, .unk, .unk, .unk]) (by simp [LeU]) fun _ => ?_
  refine aW_block (aW_loop (fun m T h => ∃ k : Nat, k ≤ l.length ∧ (∀ j (hj : j < k) (hl : j < l.length), q l[j] = false) ∧ m = l.length - k ∧ T = ([.isl (kE.cells l) l.length, .fn (.func f) caps, .unk, .unk, .unk, .unk, .unk, .int .i64 l.length, .int .i64 (k : Int), .unk, .unk, .unk, .unk, .unk, .unk, .unk, .unk, .unk, .unk]) ∧ h0 = h) l.length ⟨0, Nat.zero_le _, by omega, rfl, rfl, rfl⟩ ?_)
  rintro m T h hn ⟨k, hk, hno, rfl, rfl, rfl⟩
  by_cases hlt : k < l.length
  · have hd : decide ((k : Int) < (l.length : Int)) = true := by simpa using hlt
    have hidx : (0 ≤ (k : Int) ∧ (k : Int) < (l.length : Int)) = True := by simp; omega
    have hdk : (kE.cells l).drop (k * 2) = kcell l[k] ++ kE.cells (l.drop (k + 1)) := kE.drop0 l k hlt
    refine aW_reg fun N hN => ?_
    simp (config := {maxSteps := 10000000}) only [go_sem, Nat.reduceAdd, Nat.reduceSub, Nat.reduceMul, Nat.reduceLT, Nat.reduceLeDiff, Nat.lt_irrefl, Nat.le_refl, List.getElem?_toArray, bne_self_eq_false, Int.le_refl, Int.reduceLE, Int.reduceLT, Int.toNat_zero, Nat.zero_mul, List.all_cons, List.all_nil, Bool.and_self, Bool.and_true, Bool.true_and, Nat.reduceEqDiff, Nat.one_ne_zero, true_and, and_true, and_self, List.drop_succ_cons, List.drop_nil, List.take_succ_cons, List.take_nil, hd]
    refine hN _ _ ?_; clear hN N
    refine aW_seq_k fun N hN => ?_
    refine aW_cond (b := true) rfl (fun _ => aW_skip ?_) (fun h => by cases h)
    refine hN _ _ ?_; clear hN N
    refine aW_seq_k fun N hN => ?_
    refine aW_block ?_
    refine aW_reg fun N hN => ?_
    simp (config := {maxSteps := 10000000}) only [go_sem, Nat.reduceAdd, Nat.reduceSub, Nat.reduceMul, Nat.reduceLT, Nat.reduceLeDiff, Nat.lt_irrefl, Nat.le_refl, List.getElem?_toArray, bne_self_eq_false, Int.le_refl, Int.reduceLE, Int.reduceLT, Int.toNat_zero, Nat.zero_mul, List.all_cons, List.all_nil, Bool.and_self, Bool.and_true, Bool.true_and, Nat.reduceEqDiff, Nat.one_ne_zero, true_and, and_true, and_self, List.drop_succ_cons, List.drop_nil, List.take_succ_cons, List.take_nil]
    refine hN _ _ ?_; clear hN N
    (first | refine aW_reg fun N hN => ?_ | refine aW_reg1 fun N hN => ?_)
    simp (config := {maxSteps := 10000000}) only [go_sem, Nat.reduceAdd, Nat.reduceSub, Nat.reduceMul, Nat.reduceLT, Nat.reduceLeDiff, Nat.lt_irrefl, Nat.le_refl, List.getElem?_toArray, bne_self_eq_false, Int.le_refl, Int.reduceLE, Int.reduceLT, Int.toNat_zero, Nat.zero_mul, List.all_cons, List.all_nil, Bool.and_self, Bool.and_true, Bool.true_and, Nat.reduceEqDiff, Nat.one_ne_zero, true_and, and_true, and_self, List.drop_succ_cons, List.drop_nil, List.take_succ_cons, List.take_nil, hidx, Int.toNat_natCast, hdk, kcell_len, kcell_take]
    refine (hq l[k]).mono ?_
    rintro r h' ⟨rfl, rfl⟩
    simp only [go_sem]
    refine hN _ _ ?_; clear hN N
    cases hb : q l[k] with
    | true =>
      refine aW_cond (b := true) (by simp only [go_sem]) (fun _ => ?_) (fun h => by cases h)
      refine aW_seq_k fun N hN => ?_
      refine aW_reg1 fun N hN => ?_
      simp (config := {maxSteps := 10000000}) only [go_sem, Nat.reduceAdd, Nat.reduceSub, Nat.reduceMul, Nat.reduceLT, Nat.reduceLeDiff, Nat.lt_irrefl, Nat.le_refl, List.getElem?_toArray, bne_self_eq_false, Int.le_refl, Int.reduceLE, Int.reduceLT, Int.toNat_zero, Nat.zero_mul, List.all_cons, List.all_nil, Bool.and_self, Bool.and_true, Bool.true_and, Nat.reduceEqDiff, Nat.one_ne_zero, true_and, and_true, and_self, List.drop_succ_cons, List.drop_nil, List.take_succ_cons, List.take_nil]
      refine hN _ _ ?_; clear hN N
      refine hN _ _ ?_; clear hN N
      refine aW_ret ?_
      simp only [go_sem]
      refine Body.done (R := .int .i64 (idx q l)) ?_ (Nat.le_refl _) ⟨rfl, rfl⟩
      rw [idx_some hlt hb fun j hj => hno j hj (by omega)]
      rfl
    | false =>
      refine aW_cond (b := false) (by simp only [go_sem]) (fun h => by cases h) (fun _ => aW_skip ?_)
      refine hN _ _ ?_; clear hN N
      have hw1 : IntKind.i64.wrap ((k : Int) + 1) = ((k + 1 : Nat) : Int) := by rw [IntWalk.i64_in _ (by omega)]; simp
      refine aW_reg1 fun N hN => ?_
      simp (config := {maxSteps := 10000000}) only [go_sem, Nat.reduceAdd, Nat.reduceSub, Nat.reduceMul, Nat.reduceLT, Nat.reduceLeDiff, Nat.lt_irrefl, Nat.le_refl, List.getElem?_toArray, bne_self_eq_false, Int.le_refl, Int.reduceLE, Int.reduceLT, Int.toNat_zero, Nat.zero_mul, List.all_cons, List.all_nil, Bool.and_self, Bool.and_true, Bool.true_and, Nat.reduceEqDiff, Nat.one_ne_zero, true_and, and_true, and_self, List.drop_succ_cons, List.drop_nil, List.take_succ_cons, List.take_nil, hw1]
      refine hN _ _ ?_; clear hN N
      exact ⟨l.length - (k + 1), _, _, _, by omega, Weak.forget (T0 := [.isl (kE.cells l) l.length, .fn (.func f) caps, .unk, .unk, .unk, .unk, .unk, .int .i64 l.length, .int .i64 ((k + 1 : Nat) : Int), .unk, .unk, .unk, .unk, .unk, .unk, .unk, .unk, .unk, .unk]) (by simp [LeU]) (Nat.le_refl _), k + 1, hlt, fun j hj hl => by
        rcases Nat.lt_or_ge j k with c | c
        · exact hno j c hl
        · obtain rfl : j = k := by omega
          exact hb, rfl, rfl, rfl⟩
  · have hd : decide ((k : Int) < (l.length : Int)) = false := by simp; omega
    obtain rfl : k = l.length := by omega
    refine aW_reg fun N hN => ?_
    simp (config := {maxSteps := 10000000}) only [go_sem, Nat.reduceAdd, Nat.reduceSub, Nat.reduceMul, Nat.reduceLT, Nat.reduceLeDiff, Nat.lt_irrefl, Nat.le_refl, List.getElem?_toArray, bne_self_eq_false, Int.le_refl, Int.reduceLE, Int.reduceLT, Int.toNat_zero, Nat.zero_mul, List.all_cons, List.all_nil, Bool.and_self, Bool.and_true, Bool.true_and, Nat.reduceEqDiff, Nat.one_ne_zero, true_and, and_true, and_self, List.drop_succ_cons, List.drop_nil, List.take_succ_cons, List.take_nil, hd]
    refine hN _ _ ?_; clear hN N
    refine aW_seq_k fun N hN => ?_
    refine aW_cond (b := false) rfl (fun h => by cases h) (fun _ => aW_exit ?_)
    simp only [go_sem]
    clear hN N
    refine hN _ _ ?_; clear hN N
    refine aW_reg fun N hN => ?_
    simp (config := {maxSteps := 10000000}) only [go_sem, Nat.reduceAdd, Nat.reduceSub, Nat.reduceMul, Nat.reduceLT, Nat.reduceLeDiff, Nat.lt_irrefl, Nat.le_refl, List.getElem?_toArray, bne_self_eq_false, Int.le_refl, Int.reduceLE, Int.reduceLT, Int.toNat_zero, Nat.zero_mul, List.all_cons, List.all_nil, Bool.and_self, Bool.and_true, Bool.true_and, Nat.reduceEqDiff, Nat.one_ne_zero, true_and, and_true, and_self, List.drop_succ_cons, List.drop_nil, List.take_succ_cons, List.take_nil]
    refine hN _ _ ?_; clear hN N
    refine aW_ret (Body.done rfl (Nat.le_refl _) ⟨?_, rfl⟩)
    rw [idx_none fun j hj => hno j hj hj]
    rfl

end Go.Proofs
