/- Contracts of the package's functions, by the walk over abstract values. No condition. -/
import Derived.Test.YtoikhkfipefmeaaPin11
namespace Go.Proofs
open Go Go.AH TryTy
set_option linter.unusedSimpArgs false
set_option linter.unusedVariables false
set_option maxRecDepth 10000

theorem kEren (m : Nat → Nat) (l : List Pn) : renL m (kE.cells l) = kE.cells l := kE.ren m l
theorem pEren (m : Nat → Nat) (l : List Pn) : renL m (pE.cells l) = pE.cells l := pE.ren m l
theorem pcellsren (m : Nat → Nat) (l : List Pn) : renL m (pcells l) = pE.cells l := pE.ren m l

set_option maxHeartbeats 2000000 in
theorem del28_c (l : List Pn) (junk : List AV) (hj : NoId junk) (hl : l.length ≤ 1000) (k : Int) :
    ACalls Try.prog 28 [.gsl 0 l.length 2, .fn (.func 29) [.ptr 1 0]] [some (.row (kE.cells l ++ junk) 26 false), some (.row [.int .i64 k] 3 true)]
      (fun r h => ∃ junk', NoId junk' ∧ r = .ret (.gsl 0 (l.filter fun p => !(!decide (p.page = k))).length 2) ∧ h = [some (.row (kE.cells (l.filter fun p => !(!decide (p.page = k))) ++ junk') 26 false), some (.row [.int .i64 k] 3 true)]) := by
  have hix := index35_c l (by omega) 29 [.ptr 0 0] [some (.row [.int .i64 k] 3 true)] (fun p => (!decide (p.page = k))) fun p => c29 p k
  have hrn : ∀ m, renL m (kE.cells l ++ junk) = kE.cells l ++ junk := fun m => by rw [renL_append, kE.ren, hj m]
  refine acalls_body Try.func28 rfl (by decide +kernel) ?_
  simp only [List.length_nil, List.length_cons, List.length_append, Nat.zero_add, Try.ntmps28, List.replicate, List.cons_append, List.nil_append, List.append_assoc, Nat.reduceSub, Nat.reduceAdd]
  repeat' (first
    | (refine aW_reg fun N hN => ?_; simp (config := {maxSteps := 10000000}) (disch := first | (intro; intros; rename_i h; injection h; done) | omega) only [go_sem, Bool.false_or, Bool.true_or, Bool.or_true, Bool.or_false, Nat.reduceAdd, Nat.reduceSub, Nat.reduceMul, Nat.reduceLT, Nat.reduceLeDiff, Nat.lt_irrefl, Nat.le_refl, List.getElem?_toArray, bne_self_eq_false, Int.le_refl, Int.reduceLE, Int.reduceLT, Int.toNat_zero, Nat.zero_mul, List.all_cons, List.all_nil, Bool.and_self, Bool.and_true, Bool.true_and, Nat.reduceEqDiff, Nat.one_ne_zero, true_and, and_true, and_self, List.drop_succ_cons, List.drop_nil, List.take_succ_cons, List.take_nil, wrap_i64, wrap_u8, dec_t, dec_f, ite_t, ite_f, Int.toNat_natCast, Int.cast_ofNat_Int, toNat_cast_add, bcells_length, List.length_take, List.length_map, List.length_drop, List.length_append]; with_reducible refine hN _ _ ?_; clear hN N)
    | (refine aW_reg1 fun N hN => ?_; simp (config := {maxSteps := 10000000}) (disch := first | (intro; intros; rename_i h; injection h; done) | omega) only [go_sem, Bool.false_or, Bool.true_or, Bool.or_true, Bool.or_false, Nat.reduceAdd, Nat.reduceSub, Nat.reduceMul, Nat.reduceLT, Nat.reduceLeDiff, Nat.lt_irrefl, Nat.le_refl, List.getElem?_toArray, bne_self_eq_false, Int.le_refl, Int.reduceLE, Int.reduceLT, Int.toNat_zero, Nat.zero_mul, List.all_cons, List.all_nil, Bool.and_self, Bool.and_true, Bool.true_and, Nat.reduceEqDiff, Nat.one_ne_zero, true_and, and_true, and_self, List.drop_succ_cons, List.drop_nil, List.take_succ_cons, List.take_nil, wrap_i64, wrap_u8, dec_t, dec_f, ite_t, ite_f, Int.toNat_natCast, Int.cast_ofNat_Int, toNat_cast_add, bcells_length, List.length_take, List.length_map, List.length_drop, List.length_append]; with_reducible refine hN _ _ ?_; clear hN N)
    | (refine aW_seq_k fun N hN => ?_)
    | (refine aW_block ?_)
    | (refine aW_cond (b := true) rfl (fun _ => ?_) (fun h => by cases h))
    | (refine aW_cond (b := false) rfl (fun h => by cases h) (fun _ => ?_))
    | (refine aW_skip ?_)
    | (refine aW_exit ?_)
    | (with_reducible refine nx_normal ?_)
    | (first | (with_reducible refine hN _ _ ?_; clear hN N) | (clear hN N; with_reducible refine hN _ _ ?_; clear hN N) | (clear hN N; clear hN N; with_reducible refine hN _ _ ?_; clear hN N) | (clear hN N; clear hN N; clear hN N; with_reducible refine hN _ _ ?_; clear hN N))
    | (with_reducible refine nx_exit ?_)
    | (with_reducible refine nx_ret ?_)
    | (with_reducible refine ib_normal ?_)
    | (with_reducible refine ib_exit ?_)
    | (with_reducible refine ib_ret ?_)
    | (with_reducible refine ib_exit_ne (by decide) ?_)
    | (with_reducible refine for_exit ?_)
    | (with_reducible refine for_ret ?_)
    | (with_reducible refine forq_exit ?_)
    | (with_reducible refine forq_ret ?_)
    | (with_reducible refine round_exit ?_)
    | (with_reducible refine round_ret ?_))
  (first | refine aW_reg fun N hN => ?_ | refine aW_reg1 fun N hN => ?_)
  simp (config := {maxSteps := 10000000}) (disch := first | (intro; intros; rename_i h; injection h; done) | omega) only [go_sem, Bool.false_or, Bool.true_or, Bool.or_true, Bool.or_false, Nat.reduceAdd, Nat.reduceSub, Nat.reduceMul, Nat.reduceLT, Nat.reduceLeDiff, Nat.lt_irrefl, Nat.le_refl, List.getElem?_toArray, bne_self_eq_false, Int.le_refl, Int.reduceLE, Int.reduceLT, Int.toNat_zero, Nat.zero_mul, List.all_cons, List.all_nil, Bool.and_self, Bool.and_true, Bool.true_and, Nat.reduceEqDiff, Nat.one_ne_zero, true_and, and_true, and_self, List.drop_succ_cons, List.drop_nil, List.take_succ_cons, List.take_nil, wrap_i64, wrap_u8, dec_t, dec_f, ite_t, ite_f, Int.toNat_natCast, Int.cast_ofNat_Int, toNat_cast_add, bcells_length, List.length_take, List.length_map, List.length_drop, List.length_append]
  refine (hix).frame [1] [0] rfl (by decide) (by simp) (by simp) ⟨.inr ⟨by simp, rfl, _, _, _, rfl, by rw [kEren]; exact (List.take_left' rfl).symm⟩, .inl rfl, trivial⟩ (by rintro (_ | _ | _ | k) i b0 h1 h2 <;> simp at h1 h2 <;> subst h1 h2 <;> first | rfl) ?_
  rintro r0 h0' _ ⟨rfl, rfl⟩
  refine ⟨by first | exact .inl rfl | exact .inr ⟨rfl, rfl⟩, ?_⟩
  simp (config := {maxSteps := 10000000}) only [go_sem, Bool.false_or, Bool.true_or, Bool.or_true, Bool.or_false, Nat.reduceAdd, Nat.reduceSub, Nat.reduceMul, Nat.reduceLT, Nat.reduceLeDiff, Nat.lt_irrefl, Nat.le_refl, List.getElem?_toArray, bne_self_eq_false, Int.le_refl, Int.reduceLE, Int.reduceLT, Int.toNat_zero, Nat.zero_mul, List.all_cons, List.all_nil, Bool.and_self, Bool.and_true, Bool.true_and, Nat.reduceEqDiff, Nat.one_ne_zero, true_and, and_true, and_self, List.drop_succ_cons, List.drop_nil, List.take_succ_cons, List.take_nil, merge, upd, mf, renB]
  refine hN _ _ ?_; clear hN N
  have hkeep : ∀ p : Pn, (!(!decide (p.page = k))) = true ↔ (!decide (p.page = k)) = false := fun p => by cases (!decide (p.page = k)) <;> simp
  cases hfi : l.findIdx? (fun p => (!decide (p.page = k))) with
  | none =>
    have hx : idx (fun p => (!decide (p.page = k))) l = -1 := by simp [idx, hfi]
    rw [List.findIdx?_eq_none_iff] at hfi
    have hf : (l.filter fun p => !(!decide (p.page = k))) = l := List.filter_eq_self.2 fun p hp => (hkeep p).2 (hfi p hp)
    rw [hx]
    repeat' (first
      | (refine aW_reg fun N hN => ?_; simp (config := {maxSteps := 10000000}) (disch := first | (intro; intros; rename_i h; injection h; done) | omega) only [go_sem, Bool.false_or, Bool.true_or, Bool.or_true, Bool.or_false, Nat.reduceAdd, Nat.reduceSub, Nat.reduceMul, Nat.reduceLT, Nat.reduceLeDiff, Nat.lt_irrefl, Nat.le_refl, List.getElem?_toArray, bne_self_eq_false, Int.le_refl, Int.reduceLE, Int.reduceLT, Int.toNat_zero, Nat.zero_mul, List.all_cons, List.all_nil, Bool.and_self, Bool.and_true, Bool.true_and, Nat.reduceEqDiff, Nat.one_ne_zero, true_and, and_true, and_self, List.drop_succ_cons, List.drop_nil, List.take_succ_cons, List.take_nil, wrap_i64, wrap_u8, dec_t, dec_f, ite_t, ite_f, Int.toNat_natCast, Int.cast_ofNat_Int, toNat_cast_add, bcells_length, List.length_take, List.length_map, List.length_drop, List.length_append]; with_reducible refine hN _ _ ?_; clear hN N)
      | (refine aW_reg1 fun N hN => ?_; simp (config := {maxSteps := 10000000}) (disch := first | (intro; intros; rename_i h; injection h; done) | omega) only [go_sem, Bool.false_or, Bool.true_or, Bool.or_true, Bool.or_false, Nat.reduceAdd, Nat.reduceSub, Nat.reduceMul, Nat.reduceLT, Nat.reduceLeDiff, Nat.lt_irrefl, Nat.le_refl, List.getElem?_toArray, bne_self_eq_false, Int.le_refl, Int.reduceLE, Int.reduceLT, Int.toNat_zero, Nat.zero_mul, List.all_cons, List.all_nil, Bool.and_self, Bool.and_true, Bool.true_and, Nat.reduceEqDiff, Nat.one_ne_zero, true_and, and_true, and_self, List.drop_succ_cons, List.drop_nil, List.take_succ_cons, List.take_nil, wrap_i64, wrap_u8, dec_t, dec_f, ite_t, ite_f, Int.toNat_natCast, Int.cast_ofNat_Int, toNat_cast_add, bcells_length, List.length_take, List.length_map, List.length_drop, List.length_append]; with_reducible refine hN _ _ ?_; clear hN N)
      | (refine aW_seq_k fun N hN => ?_)
      | (refine aW_block ?_)
      | (refine aW_cond (b := true) rfl (fun _ => ?_) (fun h => by cases h))
      | (refine aW_cond (b := false) rfl (fun h => by cases h) (fun _ => ?_))
      | (refine aW_skip ?_)
      | (refine aW_exit ?_)
      | (with_reducible refine nx_normal ?_)
      | (first | (with_reducible refine hN _ _ ?_; clear hN N) | (clear hN N; with_reducible refine hN _ _ ?_; clear hN N) | (clear hN N; clear hN N; with_reducible refine hN _ _ ?_; clear hN N) | (clear hN N; clear hN N; clear hN N; with_reducible refine hN _ _ ?_; clear hN N))
      | (with_reducible refine nx_exit ?_)
      | (with_reducible refine nx_ret ?_)
      | (with_reducible refine ib_normal ?_)
      | (with_reducible refine ib_exit ?_)
      | (with_reducible refine ib_ret ?_)
      | (with_reducible refine ib_exit_ne (by decide) ?_)
      | (with_reducible refine for_exit ?_)
      | (with_reducible refine for_ret ?_)
      | (with_reducible refine forq_exit ?_)
      | (with_reducible refine forq_ret ?_)
      | (with_reducible refine round_exit ?_)
      | (with_reducible refine round_ret ?_))
    refine aW_ret ?_
    repeat' (first | (with_reducible refine nx_ret ?_) | (with_reducible refine ib_ret ?_) | (with_reducible refine for_ret ?_) | (with_reducible refine forq_ret ?_) | (with_reducible refine round_ret ?_))
    exact Body.done rfl (by simp) ⟨junk, hj, by rw [hf]; rfl, by rw [hf]⟩
  | some i0 =>
    have hx : idx (fun p => (!decide (p.page = k))) l = (i0 : Int) := by simp [idx, hfi]
    obtain ⟨hil, hi1, hi2⟩ := List.findIdx?_eq_some_iff_getElem.1 hfi
    have hne : ((i0 : Int) == -1) = false := by simp
    rw [hx]
    repeat' (first
      | (refine aW_reg fun N hN => ?_; simp (config := {maxSteps := 10000000}) (disch := first | (intro; intros; rename_i h; injection h; done) | omega) only [go_sem, Bool.false_or, Bool.true_or, Bool.or_true, Bool.or_false, Nat.reduceAdd, Nat.reduceSub, Nat.reduceMul, Nat.reduceLT, Nat.reduceLeDiff, Nat.lt_irrefl, Nat.le_refl, List.getElem?_toArray, bne_self_eq_false, Int.le_refl, Int.reduceLE, Int.reduceLT, Int.toNat_zero, Nat.zero_mul, List.all_cons, List.all_nil, Bool.and_self, Bool.and_true, Bool.true_and, Nat.reduceEqDiff, Nat.one_ne_zero, true_and, and_true, and_self, List.drop_succ_cons, List.drop_nil, List.take_succ_cons, List.take_nil, wrap_i64, wrap_u8, dec_t, dec_f, ite_t, ite_f, Int.toNat_natCast, Int.cast_ofNat_Int, toNat_cast_add, bcells_length, List.length_take, List.length_map, List.length_drop, List.length_append, hne]; with_reducible refine hN _ _ ?_; clear hN N)
      | (refine aW_reg1 fun N hN => ?_; simp (config := {maxSteps := 10000000}) (disch := first | (intro; intros; rename_i h; injection h; done) | omega) only [go_sem, Bool.false_or, Bool.true_or, Bool.or_true, Bool.or_false, Nat.reduceAdd, Nat.reduceSub, Nat.reduceMul, Nat.reduceLT, Nat.reduceLeDiff, Nat.lt_irrefl, Nat.le_refl, List.getElem?_toArray, bne_self_eq_false, Int.le_refl, Int.reduceLE, Int.reduceLT, Int.toNat_zero, Nat.zero_mul, List.all_cons, List.all_nil, Bool.and_self, Bool.and_true, Bool.true_and, Nat.reduceEqDiff, Nat.one_ne_zero, true_and, and_true, and_self, List.drop_succ_cons, List.drop_nil, List.take_succ_cons, List.take_nil, wrap_i64, wrap_u8, dec_t, dec_f, ite_t, ite_f, Int.toNat_natCast, Int.cast_ofNat_Int, toNat_cast_add, bcells_length, List.length_take, List.length_map, List.length_drop, List.length_append, hne]; with_reducible refine hN _ _ ?_; clear hN N)
      | (refine aW_seq_k fun N hN => ?_)
      | (refine aW_block ?_)
      | (refine aW_cond (b := true) rfl (fun _ => ?_) (fun h => by cases h))
      | (refine aW_cond (b := false) rfl (fun h => by cases h) (fun _ => ?_))
      | (refine aW_skip ?_)
      | (refine aW_exit ?_)
      | (with_reducible refine nx_normal ?_)
      | (first | (with_reducible refine hN _ _ ?_; clear hN N) | (clear hN N; with_reducible refine hN _ _ ?_; clear hN N) | (clear hN N; clear hN N; with_reducible refine hN _ _ ?_; clear hN N) | (clear hN N; clear hN N; clear hN N; with_reducible refine hN _ _ ?_; clear hN N))
      | (with_reducible refine nx_exit ?_)
      | (with_reducible refine nx_ret ?_)
      | (with_reducible refine ib_normal ?_)
      | (with_reducible refine ib_exit ?_)
      | (with_reducible refine ib_ret ?_)
      | (with_reducible refine ib_exit_ne (by decide) ?_)
      | (with_reducible refine for_exit ?_)
      | (with_reducible refine for_ret ?_)
      | (with_reducible refine forq_exit ?_)
      | (with_reducible refine forq_ret ?_)
      | (with_reducible refine round_exit ?_)
      | (with_reducible refine round_ret ?_))
    refine aW_forget ((.gsl 0 l.length 2 :: .fn (.func 29) [.ptr 1 0] :: .unk :: .unk :: .unk :: .int .i64 (i0 : Int) :: .int .i64 ((i0 + 1 : Nat) : Int) :: .unk :: .unk :: .unk :: .unk :: .unk :: .unk :: .unk :: .unk :: .unk :: .unk :: .unk :: .unk :: .unk :: .unk :: .unk :: .unk :: .unk :: .unk :: .unk :: .unk :: .unk :: .unk :: .unk :: .unk :: .unk :: .unk :: .unk :: .unk :: .unk :: .unk :: .unk :: .unk :: .unk :: .unk :: .unk :: [])) (by simp [LeU]) fun _ => ?_
    refine aW_loop (fun m T h => ∃ (kept M : List Pn) (j : Nat), kept = ((l.take j).filter fun p => !(!decide (p.page = k))) ∧ 0 < M.length ∧ kept.length + M.length = j ∧ j ≤ l.length ∧ m = l.length - j ∧ T = ((.gsl 0 l.length 2 :: .fn (.func 29) [.ptr 1 0] :: .unk :: .unk :: .unk :: .int .i64 (kept.length : Int) :: .int .i64 (j : Int) :: .unk :: .unk :: .unk :: .unk :: .unk :: .unk :: .unk :: .unk :: .unk :: .unk :: .unk :: .unk :: .unk :: .unk :: .unk :: .unk :: .unk :: .unk :: .unk :: .unk :: .unk :: .unk :: .unk :: .unk :: .unk :: .unk :: .unk :: .unk :: .unk :: .unk :: .unk :: .unk :: .unk :: .unk :: .unk :: [])) ∧ h = [some (.row (kE.cells (kept ++ M ++ l.drop j) ++ junk) 26 false), some (.row [.int .i64 k] 3 true)]) (l.length - (i0 + 1)) ?_ ?_
    · have e0 : ((l.take (i0 + 1)).filter fun p => !(!decide (p.page = k))) = l.take i0 := by
        rw [List.take_add_one, List.getElem?_eq_getElem hil, Option.toList_some, List.filter_append]
        rw [List.filter_eq_self.2 fun p hp => ?_]
        · simpa using hi1
        · obtain ⟨n, hn, rfl⟩ := List.getElem_of_mem hp
          have hn2 : n < i0 := by rw [List.length_take] at hn; omega
          have := hi2 n hn2
          rw [List.getElem_take]
          exact (hkeep _).2 (by simpa using this)
      refine ⟨l.take i0, [l[i0]], i0 + 1, e0.symm, by simp, by rw [List.length_take, List.length_singleton]; omega, hil, rfl, by rw [List.length_take, Nat.min_eq_left (Nat.le_of_lt hil)], ?_⟩
      rw [List.append_assoc, List.singleton_append, ← List.drop_eq_getElem_cons hil, List.take_append_drop]
    rintro m T h _ ⟨kept, M, j, hkp, hM, hkM, hjl, rfl, rfl, rfl⟩
    obtain ⟨L, hL⟩ : ∃ L, kept ++ M ++ l.drop j = L := ⟨_, rfl⟩
    have hLl : L.length = l.length := by rw [← hL, List.length_append, List.length_append, List.length_drop]; omega
    have hLc : (kE.cells L).length = l.length * 2 := by rw [kE.length, hLl]; rfl
    rw [hL]
    by_cases hlt : j < l.length
    · have hLj : L[j]'(by omega) = l[j] := by
        simp only [← hL]
        rw [List.getElem_append_right (by rw [List.length_append]; omega)]
        simp only [List.length_append, hkM, Nat.sub_self, List.getElem_drop, Nat.add_zero]
      have hc : ((kE.cells L ++ junk).drop (j * 2)).take 2 = kcell l[j] := by
        have := kE.cell L junk j (by omega)
        rw [hLj] at this
        exact this
      have hst : setMany (kE.cells L ++ junk) (kept.length * 2) (kcell l[j]) = kE.cells (L.set kept.length l[j]) ++ junk := kE.setAt L junk kept.length l[j] (by omega)
      obtain ⟨v, hv⟩ : ∃ v, l[j] = v := ⟨_, rfl⟩
      have htk : l.take (j + 1) = l.take j ++ [v] := by rw [List.take_add_one, List.getElem?_eq_getElem hlt, hv]; rfl
      have hdr : l.drop j = v :: l.drop (j + 1) := by rw [List.drop_eq_getElem_cons hlt, hv]
      rw [hv] at hc hst
      simp only [kcell] at hc hst
      repeat' (first
        | (refine aW_reg fun N hN => ?_; simp (config := {maxSteps := 10000000}) (disch := first | (intro; intros; rename_i h; injection h; done) | omega) only [go_sem, Bool.false_or, Bool.true_or, Bool.or_true, Bool.or_false, Nat.reduceAdd, Nat.reduceSub, Nat.reduceMul, Nat.reduceLT, Nat.reduceLeDiff, Nat.lt_irrefl, Nat.le_refl, List.getElem?_toArray, bne_self_eq_false, Int.le_refl, Int.reduceLE, Int.reduceLT, Int.toNat_zero, Nat.zero_mul, List.all_cons, List.all_nil, Bool.and_self, Bool.and_true, Bool.true_and, Nat.reduceEqDiff, Nat.one_ne_zero, true_and, and_true, and_self, List.drop_succ_cons, List.drop_nil, List.take_succ_cons, List.take_nil, wrap_i64, wrap_u8, dec_t, dec_f, ite_t, ite_f, Int.toNat_natCast, Int.cast_ofNat_Int, toNat_cast_add, bcells_length, List.length_take, List.length_map, List.length_drop, List.length_append, hLc, hc]; with_reducible refine hN _ _ ?_; clear hN N)
        | (refine aW_reg1 fun N hN => ?_; simp (config := {maxSteps := 10000000}) (disch := first | (intro; intros; rename_i h; injection h; done) | omega) only [go_sem, Bool.false_or, Bool.true_or, Bool.or_true, Bool.or_false, Nat.reduceAdd, Nat.reduceSub, Nat.reduceMul, Nat.reduceLT, Nat.reduceLeDiff, Nat.lt_irrefl, Nat.le_refl, List.getElem?_toArray, bne_self_eq_false, Int.le_refl, Int.reduceLE, Int.reduceLT, Int.toNat_zero, Nat.zero_mul, List.all_cons, List.all_nil, Bool.and_self, Bool.and_true, Bool.true_and, Nat.reduceEqDiff, Nat.one_ne_zero, true_and, and_true, and_self, List.drop_succ_cons, List.drop_nil, List.take_succ_cons, List.take_nil, wrap_i64, wrap_u8, dec_t, dec_f, ite_t, ite_f, Int.toNat_natCast, Int.cast_ofNat_Int, toNat_cast_add, bcells_length, List.length_take, List.length_map, List.length_drop, List.length_append, hLc, hc]; with_reducible refine hN _ _ ?_; clear hN N)
        | (refine aW_seq_k fun N hN => ?_)
        | (refine aW_block ?_)
        | (refine aW_cond (b := true) rfl (fun _ => ?_) (fun h => by cases h))
        | (refine aW_cond (b := false) rfl (fun h => by cases h) (fun _ => ?_))
        | (refine aW_skip ?_)
        | (refine aW_exit ?_)
        | (with_reducible refine nx_normal ?_)
        | (first | (with_reducible refine hN _ _ ?_; clear hN N) | (clear hN N; with_reducible refine hN _ _ ?_; clear hN N) | (clear hN N; clear hN N; with_reducible refine hN _ _ ?_; clear hN N) | (clear hN N; clear hN N; clear hN N; with_reducible refine hN _ _ ?_; clear hN N))
        | (with_reducible refine nx_exit ?_)
        | (with_reducible refine nx_ret ?_)
        | (with_reducible refine ib_normal ?_)
        | (with_reducible refine ib_exit ?_)
        | (with_reducible refine ib_ret ?_)
        | (with_reducible refine ib_exit_ne (by decide) ?_)
        | (with_reducible refine for_exit ?_)
        | (with_reducible refine for_ret ?_)
        | (with_reducible refine forq_exit ?_)
        | (with_reducible refine forq_ret ?_)
        | (with_reducible refine round_exit ?_)
        | (with_reducible refine round_ret ?_))
      (first | refine aW_reg fun N hN => ?_ | refine aW_reg1 fun N hN => ?_)
      simp (config := {maxSteps := 10000000}) (disch := first | (intro; intros; rename_i h; injection h; done) | omega) only [go_sem, Bool.false_or, Bool.true_or, Bool.or_true, Bool.or_false, Nat.reduceAdd, Nat.reduceSub, Nat.reduceMul, Nat.reduceLT, Nat.reduceLeDiff, Nat.lt_irrefl, Nat.le_refl, List.getElem?_toArray, bne_self_eq_false, Int.le_refl, Int.reduceLE, Int.reduceLT, Int.toNat_zero, Nat.zero_mul, List.all_cons, List.all_nil, Bool.and_self, Bool.and_true, Bool.true_and, Nat.reduceEqDiff, Nat.one_ne_zero, true_and, and_true, and_self, List.drop_succ_cons, List.drop_nil, List.take_succ_cons, List.take_nil, wrap_i64, wrap_u8, dec_t, dec_f, ite_t, ite_f, Int.toNat_natCast, Int.cast_ofNat_Int, toNat_cast_add, bcells_length, List.length_take, List.length_map, List.length_drop, List.length_append]
      refine ((c29 v k)).frame [1] [] rfl (by decide) (by simp) (by simp) ⟨.inl (by simp [LeV, ren, renL, kcell]), .inl rfl, trivial⟩ (by rintro (_ | _ | _ | k) i b0 h1 h2 <;> simp at h1 h2 <;> subst h1 h2 <;> first | rfl) ?_
      cases hq : decide (v.page = k)
      · rintro r0 h0' _ ⟨rfl, rfl⟩
        refine ⟨by first | exact .inl rfl | exact .inr ⟨rfl, rfl⟩, ?_⟩
        simp (config := {maxSteps := 10000000}) only [go_sem, Bool.false_or, Bool.true_or, Bool.or_true, Bool.or_false, Nat.reduceAdd, Nat.reduceSub, Nat.reduceMul, Nat.reduceLT, Nat.reduceLeDiff, Nat.lt_irrefl, Nat.le_refl, List.getElem?_toArray, bne_self_eq_false, Int.le_refl, Int.reduceLE, Int.reduceLT, Int.toNat_zero, Nat.zero_mul, List.all_cons, List.all_nil, Bool.and_self, Bool.and_true, Bool.true_and, Nat.reduceEqDiff, Nat.one_ne_zero, true_and, and_true, and_self, List.drop_succ_cons, List.drop_nil, List.take_succ_cons, List.take_nil, merge, upd, mf, renB, hq]
        refine hN _ _ ?_; clear hN N
        repeat' (first
          | (refine aW_reg fun N hN => ?_; simp (config := {maxSteps := 10000000}) (disch := first | (intro; intros; rename_i h; injection h; done) | omega) only [go_sem, Bool.false_or, Bool.true_or, Bool.or_true, Bool.or_false, Nat.reduceAdd, Nat.reduceSub, Nat.reduceMul, Nat.reduceLT, Nat.reduceLeDiff, Nat.lt_irrefl, Nat.le_refl, List.getElem?_toArray, bne_self_eq_false, Int.le_refl, Int.reduceLE, Int.reduceLT, Int.toNat_zero, Nat.zero_mul, List.all_cons, List.all_nil, Bool.and_self, Bool.and_true, Bool.true_and, Nat.reduceEqDiff, Nat.one_ne_zero, true_and, and_true, and_self, List.drop_succ_cons, List.drop_nil, List.take_succ_cons, List.take_nil, wrap_i64, wrap_u8, dec_t, dec_f, ite_t, ite_f, Int.toNat_natCast, Int.cast_ofNat_Int, toNat_cast_add, bcells_length, List.length_take, List.length_map, List.length_drop, List.length_append, hLc, ↓hst]; with_reducible refine hN _ _ ?_; clear hN N)
          | (refine aW_reg1 fun N hN => ?_; simp (config := {maxSteps := 10000000}) (disch := first | (intro; intros; rename_i h; injection h; done) | omega) only [go_sem, Bool.false_or, Bool.true_or, Bool.or_true, Bool.or_false, Nat.reduceAdd, Nat.reduceSub, Nat.reduceMul, Nat.reduceLT, Nat.reduceLeDiff, Nat.lt_irrefl, Nat.le_refl, List.getElem?_toArray, bne_self_eq_false, Int.le_refl, Int.reduceLE, Int.reduceLT, Int.toNat_zero, Nat.zero_mul, List.all_cons, List.all_nil, Bool.and_self, Bool.and_true, Bool.true_and, Nat.reduceEqDiff, Nat.one_ne_zero, true_and, and_true, and_self, List.drop_succ_cons, List.drop_nil, List.take_succ_cons, List.take_nil, wrap_i64, wrap_u8, dec_t, dec_f, ite_t, ite_f, Int.toNat_natCast, Int.cast_ofNat_Int, toNat_cast_add, bcells_length, List.length_take, List.length_map, List.length_drop, List.length_append, hLc, ↓hst]; with_reducible refine hN _ _ ?_; clear hN N)
          | (refine aW_seq_k fun N hN => ?_)
          | (refine aW_block ?_)
          | (refine aW_cond (b := true) rfl (fun _ => ?_) (fun h => by cases h))
          | (refine aW_cond (b := false) rfl (fun h => by cases h) (fun _ => ?_))
          | (refine aW_skip ?_)
          | (refine aW_exit ?_)
          | (with_reducible refine nx_normal ?_)
          | (first | (with_reducible refine hN _ _ ?_; clear hN N) | (clear hN N; with_reducible refine hN _ _ ?_; clear hN N) | (clear hN N; clear hN N; with_reducible refine hN _ _ ?_; clear hN N) | (clear hN N; clear hN N; clear hN N; with_reducible refine hN _ _ ?_; clear hN N))
          | (with_reducible refine nx_exit ?_)
          | (with_reducible refine nx_ret ?_)
          | (with_reducible refine ib_normal ?_)
          | (with_reducible refine ib_exit ?_)
          | (with_reducible refine ib_ret ?_)
          | (with_reducible refine ib_exit_ne (by decide) ?_)
          | (with_reducible refine for_exit ?_)
          | (with_reducible refine for_ret ?_)
          | (with_reducible refine forq_exit ?_)
          | (with_reducible refine forq_ret ?_)
          | (with_reducible refine round_exit ?_)
          | (with_reducible refine round_ret ?_))
        refine ⟨l.length - (j + 1), _, _, _, by omega, Weak.lit [0, 1] ?_ ?_ (by decide) (by decide), kept, M ++ [v], j + 1, ?_, by rw [List.length_append]; omega, by rw [List.length_append, List.length_singleton]; omega, hlt, rfl, rfl, rfl⟩
        · simp [LeL, LeV, ren, renL, pf]
        · refine ⟨?_, rfl, trivial⟩
          have e9 : kept ++ (M ++ [v]) ++ l.drop (j + 1) = L := by rw [← hL, hdr]; simp
          rw [e9, renB, renL_append, kE.ren, hj]
          rfl
        · rw [htk, List.filter_append, ← hkp]
          simp [hq, of_decide_eq_false hq]
      · rintro r0 h0' _ ⟨rfl, rfl⟩
        refine ⟨by first | exact .inl rfl | exact .inr ⟨rfl, rfl⟩, ?_⟩
        simp (config := {maxSteps := 10000000}) only [go_sem, Bool.false_or, Bool.true_or, Bool.or_true, Bool.or_false, Nat.reduceAdd, Nat.reduceSub, Nat.reduceMul, Nat.reduceLT, Nat.reduceLeDiff, Nat.lt_irrefl, Nat.le_refl, List.getElem?_toArray, bne_self_eq_false, Int.le_refl, Int.reduceLE, Int.reduceLT, Int.toNat_zero, Nat.zero_mul, List.all_cons, List.all_nil, Bool.and_self, Bool.and_true, Bool.true_and, Nat.reduceEqDiff, Nat.one_ne_zero, true_and, and_true, and_self, List.drop_succ_cons, List.drop_nil, List.take_succ_cons, List.take_nil, merge, upd, mf, renB, hq]
        refine hN _ _ ?_; clear hN N
        repeat' (first
          | (refine aW_reg fun N hN => ?_; simp (config := {maxSteps := 10000000}) (disch := first | (intro; intros; rename_i h; injection h; done) | omega) only [go_sem, Bool.false_or, Bool.true_or, Bool.or_true, Bool.or_false, Nat.reduceAdd, Nat.reduceSub, Nat.reduceMul, Nat.reduceLT, Nat.reduceLeDiff, Nat.lt_irrefl, Nat.le_refl, List.getElem?_toArray, bne_self_eq_false, Int.le_refl, Int.reduceLE, Int.reduceLT, Int.toNat_zero, Nat.zero_mul, List.all_cons, List.all_nil, Bool.and_self, Bool.and_true, Bool.true_and, Nat.reduceEqDiff, Nat.one_ne_zero, true_and, and_true, and_self, List.drop_succ_cons, List.drop_nil, List.take_succ_cons, List.take_nil, wrap_i64, wrap_u8, dec_t, dec_f, ite_t, ite_f, Int.toNat_natCast, Int.cast_ofNat_Int, toNat_cast_add, bcells_length, List.length_take, List.length_map, List.length_drop, List.length_append, hLc, ↓hst]; with_reducible refine hN _ _ ?_; clear hN N)
          | (refine aW_reg1 fun N hN => ?_; simp (config := {maxSteps := 10000000}) (disch := first | (intro; intros; rename_i h; injection h; done) | omega) only [go_sem, Bool.false_or, Bool.true_or, Bool.or_true, Bool.or_false, Nat.reduceAdd, Nat.reduceSub, Nat.reduceMul, Nat.reduceLT, Nat.reduceLeDiff, Nat.lt_irrefl, Nat.le_refl, List.getElem?_toArray, bne_self_eq_false, Int.le_refl, Int.reduceLE, Int.reduceLT, Int.toNat_zero, Nat.zero_mul, List.all_cons, List.all_nil, Bool.and_self, Bool.and_true, Bool.true_and, Nat.reduceEqDiff, Nat.one_ne_zero, true_and, and_true, and_self, List.drop_succ_cons, List.drop_nil, List.take_succ_cons, List.take_nil, wrap_i64, wrap_u8, dec_t, dec_f, ite_t, ite_f, Int.toNat_natCast, Int.cast_ofNat_Int, toNat_cast_add, bcells_length, List.length_take, List.length_map, List.length_drop, List.length_append, hLc, ↓hst]; with_reducible refine hN _ _ ?_; clear hN N)
          | (refine aW_seq_k fun N hN => ?_)
          | (refine aW_block ?_)
          | (refine aW_cond (b := true) rfl (fun _ => ?_) (fun h => by cases h))
          | (refine aW_cond (b := false) rfl (fun h => by cases h) (fun _ => ?_))
          | (refine aW_skip ?_)
          | (refine aW_exit ?_)
          | (with_reducible refine nx_normal ?_)
          | (first | (with_reducible refine hN _ _ ?_; clear hN N) | (clear hN N; with_reducible refine hN _ _ ?_; clear hN N) | (clear hN N; clear hN N; with_reducible refine hN _ _ ?_; clear hN N) | (clear hN N; clear hN N; clear hN N; with_reducible refine hN _ _ ?_; clear hN N))
          | (with_reducible refine nx_exit ?_)
          | (with_reducible refine nx_ret ?_)
          | (with_reducible refine ib_normal ?_)
          | (with_reducible refine ib_exit ?_)
          | (with_reducible refine ib_ret ?_)
          | (with_reducible refine ib_exit_ne (by decide) ?_)
          | (with_reducible refine for_exit ?_)
          | (with_reducible refine for_ret ?_)
          | (with_reducible refine forq_exit ?_)
          | (with_reducible refine forq_ret ?_)
          | (with_reducible refine round_exit ?_)
          | (with_reducible refine round_ret ?_))
        obtain ⟨m0, M', rfl⟩ : ∃ m0 M', M = m0 :: M' := by cases M with | nil => simp at hM | cons a b => exact ⟨a, b, rfl⟩
        simp only [List.length_cons] at hkM
        refine ⟨l.length - (j + 1), _, _, _, by omega, Weak.lit [0, 1] ?_ ?_ (by decide) (by decide), kept ++ [v], M' ++ [v], j + 1, ?_, by simp, by simp only [List.length_append, List.length_singleton]; omega, hlt, rfl, rfl, rfl⟩
        · simp [LeL, LeV, ren, renL, pf]
        · refine ⟨?_, rfl, trivial⟩
          have e9 : L.set kept.length v = kept ++ [v] ++ (M' ++ [v]) ++ l.drop (j + 1) := by rw [← hL, hdr]; simp
          rw [← e9, renB, renL_append, kE.ren, hj]
          rfl
        · rw [htk, List.filter_append, ← hkp]
          simp [hq, of_decide_eq_true hq]
    · obtain rfl : j = l.length := by omega
      rw [List.take_length] at hkp
      have hLe : L = kept ++ M := by rw [← hL, List.drop_length, List.append_nil]
      subst hLe

      have hjz : NoId (setMany (kE.cells M ++ junk) 0 (zeroRow [.int .i64 0, .str []] (l.length - kept.length))) := fun m => by rw [renL_setMany, renL_zeroRow _ _ rfl, renL_append, kE.ren, hj]
      have hcz : setMany (kE.cells (kept ++ M) ++ junk) (kept.length * 2) (zeroRow [.int .i64 0, .str []] (l.length - kept.length)) = kE.cells kept ++ setMany (kE.cells M ++ junk) 0 (zeroRow [.int .i64 0, .str []] (l.length - kept.length)) := by
        have := setMany_left (zeroRow [.int .i64 0, .str []] (l.length - kept.length)) (kE.cells kept) (kE.cells M ++ junk) 0
        rw [kE.length, Nat.add_zero, ← List.append_assoc, ← kE.cells_append] at this
        exact this
      by_cases hk0 : kept = []
      · subst hk0
        simp only [List.nil_append, List.length_nil, Nat.zero_mul, Nat.sub_zero, Enc.cells_nil] at hcz hjz hLc hkM ⊢
        repeat' (first
          | (refine aW_reg fun N hN => ?_; simp (config := {maxSteps := 10000000}) (disch := first | (intro; intros; rename_i h; injection h; done) | omega) only [go_sem, Bool.false_or, Bool.true_or, Bool.or_true, Bool.or_false, Nat.reduceAdd, Nat.reduceSub, Nat.reduceMul, Nat.reduceLT, Nat.reduceLeDiff, Nat.lt_irrefl, Nat.le_refl, List.getElem?_toArray, bne_self_eq_false, Int.le_refl, Int.reduceLE, Int.reduceLT, Int.toNat_zero, Nat.zero_mul, List.all_cons, List.all_nil, Bool.and_self, Bool.and_true, Bool.true_and, Nat.reduceEqDiff, Nat.one_ne_zero, true_and, and_true, and_self, List.drop_succ_cons, List.drop_nil, List.take_succ_cons, List.take_nil, wrap_i64, wrap_u8, dec_t, dec_f, ite_t, ite_f, Int.toNat_natCast, Int.cast_ofNat_Int, toNat_cast_add, bcells_length, List.length_take, List.length_map, List.length_drop, List.length_append, hLc, ↓hcz]; with_reducible refine hN _ _ ?_; clear hN N)
          | (refine aW_reg1 fun N hN => ?_; simp (config := {maxSteps := 10000000}) (disch := first | (intro; intros; rename_i h; injection h; done) | omega) only [go_sem, Bool.false_or, Bool.true_or, Bool.or_true, Bool.or_false, Nat.reduceAdd, Nat.reduceSub, Nat.reduceMul, Nat.reduceLT, Nat.reduceLeDiff, Nat.lt_irrefl, Nat.le_refl, List.getElem?_toArray, bne_self_eq_false, Int.le_refl, Int.reduceLE, Int.reduceLT, Int.toNat_zero, Nat.zero_mul, List.all_cons, List.all_nil, Bool.and_self, Bool.and_true, Bool.true_and, Nat.reduceEqDiff, Nat.one_ne_zero, true_and, and_true, and_self, List.drop_succ_cons, List.drop_nil, List.take_succ_cons, List.take_nil, wrap_i64, wrap_u8, dec_t, dec_f, ite_t, ite_f, Int.toNat_natCast, Int.cast_ofNat_Int, toNat_cast_add, bcells_length, List.length_take, List.length_map, List.length_drop, List.length_append, hLc, ↓hcz]; with_reducible refine hN _ _ ?_; clear hN N)
          | (refine aW_seq_k fun N hN => ?_)
          | (refine aW_block ?_)
          | (refine aW_cond (b := true) rfl (fun _ => ?_) (fun h => by cases h))
          | (refine aW_cond (b := false) rfl (fun h => by cases h) (fun _ => ?_))
          | (refine aW_skip ?_)
          | (refine aW_exit ?_)
          | (with_reducible refine nx_normal ?_)
          | (first | (with_reducible refine hN _ _ ?_; clear hN N) | (clear hN N; with_reducible refine hN _ _ ?_; clear hN N) | (clear hN N; clear hN N; with_reducible refine hN _ _ ?_; clear hN N) | (clear hN N; clear hN N; clear hN N; with_reducible refine hN _ _ ?_; clear hN N))
          | (with_reducible refine nx_exit ?_)
          | (with_reducible refine nx_ret ?_)
          | (with_reducible refine ib_normal ?_)
          | (with_reducible refine ib_exit ?_)
          | (with_reducible refine ib_ret ?_)
          | (with_reducible refine ib_exit_ne (by decide) ?_)
          | (with_reducible refine for_exit ?_)
          | (with_reducible refine for_ret ?_)
          | (with_reducible refine forq_exit ?_)
          | (with_reducible refine forq_ret ?_)
          | (with_reducible refine round_exit ?_)
          | (with_reducible refine round_ret ?_))
        refine aW_ret ?_
        repeat' (first | (with_reducible refine nx_ret ?_) | (with_reducible refine ib_ret ?_) | (with_reducible refine for_ret ?_) | (with_reducible refine forq_ret ?_) | (with_reducible refine round_ret ?_))
        exact Body.keep [0, 1] (.gsl 0 0 2) [some (.row (setMany (kE.cells M ++ junk) 0 (zeroRow [.int .i64 0, .str []] l.length)) 26 false), some (.row [.int .i64 k] 3 true)] rfl rfl ⟨by rw [renB, hjz]; rfl, rfl, trivial⟩ (by decide) (by decide) ⟨_, hjz, by rw [← hkp]; rfl, by rw [← hkp]; rfl⟩
      · have hk1 : 0 < kept.length := by cases kept with | nil => exact absurd rfl hk0 | cons _ _ => simp
        repeat' (first
          | (refine aW_reg fun N hN => ?_; simp (config := {maxSteps := 10000000}) (disch := first | (intro; intros; rename_i h; injection h; done) | omega) only [go_sem, Bool.false_or, Bool.true_or, Bool.or_true, Bool.or_false, Nat.reduceAdd, Nat.reduceSub, Nat.reduceMul, Nat.reduceLT, Nat.reduceLeDiff, Nat.lt_irrefl, Nat.le_refl, List.getElem?_toArray, bne_self_eq_false, Int.le_refl, Int.reduceLE, Int.reduceLT, Int.toNat_zero, Nat.zero_mul, List.all_cons, List.all_nil, Bool.and_self, Bool.and_true, Bool.true_and, Nat.reduceEqDiff, Nat.one_ne_zero, true_and, and_true, and_self, List.drop_succ_cons, List.drop_nil, List.take_succ_cons, List.take_nil, wrap_i64, wrap_u8, dec_t, dec_f, ite_t, ite_f, Int.toNat_natCast, Int.cast_ofNat_Int, toNat_cast_add, bcells_length, List.length_take, List.length_map, List.length_drop, List.length_append, hLc, ↓hcz]; with_reducible refine hN _ _ ?_; clear hN N)
          | (refine aW_reg1 fun N hN => ?_; simp (config := {maxSteps := 10000000}) (disch := first | (intro; intros; rename_i h; injection h; done) | omega) only [go_sem, Bool.false_or, Bool.true_or, Bool.or_true, Bool.or_false, Nat.reduceAdd, Nat.reduceSub, Nat.reduceMul, Nat.reduceLT, Nat.reduceLeDiff, Nat.lt_irrefl, Nat.le_refl, List.getElem?_toArray, bne_self_eq_false, Int.le_refl, Int.reduceLE, Int.reduceLT, Int.toNat_zero, Nat.zero_mul, List.all_cons, List.all_nil, Bool.and_self, Bool.and_true, Bool.true_and, Nat.reduceEqDiff, Nat.one_ne_zero, true_and, and_true, and_self, List.drop_succ_cons, List.drop_nil, List.take_succ_cons, List.take_nil, wrap_i64, wrap_u8, dec_t, dec_f, ite_t, ite_f, Int.toNat_natCast, Int.cast_ofNat_Int, toNat_cast_add, bcells_length, List.length_take, List.length_map, List.length_drop, List.length_append, hLc, ↓hcz]; with_reducible refine hN _ _ ?_; clear hN N)
          | (refine aW_seq_k fun N hN => ?_)
          | (refine aW_block ?_)
          | (refine aW_cond (b := true) rfl (fun _ => ?_) (fun h => by cases h))
          | (refine aW_cond (b := false) rfl (fun h => by cases h) (fun _ => ?_))
          | (refine aW_skip ?_)
          | (refine aW_exit ?_)
          | (with_reducible refine nx_normal ?_)
          | (first | (with_reducible refine hN _ _ ?_; clear hN N) | (clear hN N; with_reducible refine hN _ _ ?_; clear hN N) | (clear hN N; clear hN N; with_reducible refine hN _ _ ?_; clear hN N) | (clear hN N; clear hN N; clear hN N; with_reducible refine hN _ _ ?_; clear hN N))
          | (with_reducible refine nx_exit ?_)
          | (with_reducible refine nx_ret ?_)
          | (with_reducible refine ib_normal ?_)
          | (with_reducible refine ib_exit ?_)
          | (with_reducible refine ib_ret ?_)
          | (with_reducible refine ib_exit_ne (by decide) ?_)
          | (with_reducible refine for_exit ?_)
          | (with_reducible refine for_ret ?_)
          | (with_reducible refine forq_exit ?_)
          | (with_reducible refine forq_ret ?_)
          | (with_reducible refine round_exit ?_)
          | (with_reducible refine round_ret ?_))
        refine aW_ret ?_
        repeat' (first | (with_reducible refine nx_ret ?_) | (with_reducible refine ib_ret ?_) | (with_reducible refine for_ret ?_) | (with_reducible refine forq_ret ?_) | (with_reducible refine round_ret ?_))
        exact Body.keep [0, 1] (.gsl 0 kept.length 2) [some (.row (kE.cells kept ++ setMany (kE.cells M ++ junk) 0 (zeroRow [.int .i64 0, .str []] (l.length - kept.length))) 26 false), some (.row [.int .i64 k] 3 true)] rfl rfl ⟨by rw [renB, renL_append, kE.ren, hjz]; rfl, rfl, trivial⟩ (by decide) (by decide) ⟨_, hjz, by rw [← hkp], by rw [← hkp]⟩

set_option maxHeartbeats 2000000 in
theorem del30_c (l : List Pn) (junk : List AV) (hj : NoId junk) (hl : l.length ≤ 1000) (k : Int) :
    ACalls Try.prog 30 [.gsl 0 l.length 3, .fn (.func 31) [.ptr 1 0]] [some (.row (pE.cells l ++ junk) 65 false), some (.row [.int .i64 k] 3 true)]
      (fun r h => ∃ junk', NoId junk' ∧ r = .ret (.gsl 0 (l.filter fun p => !decide (p.page = k)).length 3) ∧ h = [some (.row (pE.cells (l.filter fun p => !decide (p.page = k)) ++ junk') 65 false), some (.row [.int .i64 k] 3 true)]) := by
  have hix := index_c l (by omega) 31 [.ptr 0 0] [some (.row [.int .i64 k] 3 true)] (fun p => decide (p.page = k)) fun p => c31 p k
  have hrn : ∀ m, renL m (pE.cells l ++ junk) = pE.cells l ++ junk := fun m => by rw [renL_append, pE.ren, hj m]
  refine acalls_body Try.func30 rfl (by decide +kernel) ?_
  simp only [List.length_nil, List.length_cons, List.length_append, Nat.zero_add, Try.ntmps30, List.replicate, List.cons_append, List.nil_append, List.append_assoc, Nat.reduceSub, Nat.reduceAdd]
  repeat' (first
    | (refine aW_reg fun N hN => ?_; simp (config := {maxSteps := 10000000}) (disch := first | (intro; intros; rename_i h; injection h; done) | omega) only [go_sem, Bool.false_or, Bool.true_or, Bool.or_true, Bool.or_false, Nat.reduceAdd, Nat.reduceSub, Nat.reduceMul, Nat.reduceLT, Nat.reduceLeDiff, Nat.lt_irrefl, Nat.le_refl, List.getElem?_toArray, bne_self_eq_false, Int.le_refl, Int.reduceLE, Int.reduceLT, Int.toNat_zero, Nat.zero_mul, List.all_cons, List.all_nil, Bool.and_self, Bool.and_true, Bool.true_and, Nat.reduceEqDiff, Nat.one_ne_zero, true_and, and_true, and_self, List.drop_succ_cons, List.drop_nil, List.take_succ_cons, List.take_nil, wrap_i64, wrap_u8, dec_t, dec_f, ite_t, ite_f, Int.toNat_natCast, Int.cast_ofNat_Int, toNat_cast_add, bcells_length, List.length_take, List.length_map, List.length_drop, List.length_append]; with_reducible refine hN _ _ ?_; clear hN N)
    | (refine aW_reg1 fun N hN => ?_; simp (config := {maxSteps := 10000000}) (disch := first | (intro; intros; rename_i h; injection h; done) | omega) only [go_sem, Bool.false_or, Bool.true_or, Bool.or_true, Bool.or_false, Nat.reduceAdd, Nat.reduceSub, Nat.reduceMul, Nat.reduceLT, Nat.reduceLeDiff, Nat.lt_irrefl, Nat.le_refl, List.getElem?_toArray, bne_self_eq_false, Int.le_refl, Int.reduceLE, Int.reduceLT, Int.toNat_zero, Nat.zero_mul, List.all_cons, List.all_nil, Bool.and_self, Bool.and_true, Bool.true_and, Nat.reduceEqDiff, Nat.one_ne_zero, true_and, and_true, and_self, List.drop_succ_cons, List.drop_nil, List.take_succ_cons, List.take_nil, wrap_i64, wrap_u8, dec_t, dec_f, ite_t, ite_f, Int.toNat_natCast, Int.cast_ofNat_Int, toNat_cast_add, bcells_length, List.length_take, List.length_map, List.length_drop, List.length_append]; with_reducible refine hN _ _ ?_; clear hN N)
    | (refine aW_seq_k fun N hN => ?_)
    | (refine aW_block ?_)
    | (refine aW_cond (b := true) rfl (fun _ => ?_) (fun h => by cases h))
    | (refine aW_cond (b := false) rfl (fun h => by cases h) (fun _ => ?_))
    | (refine aW_skip ?_)
    | (refine aW_exit ?_)
    | (with_reducible refine nx_normal ?_)
    | (first | (with_reducible refine hN _ _ ?_; clear hN N) | (clear hN N; with_reducible refine hN _ _ ?_; clear hN N) | (clear hN N; clear hN N; with_reducible refine hN _ _ ?_; clear hN N) | (clear hN N; clear hN N; clear hN N; with_reducible refine hN _ _ ?_; clear hN N))
    | (with_reducible refine nx_exit ?_)
    | (with_reducible refine nx_ret ?_)
    | (with_reducible refine ib_normal ?_)
    | (with_reducible refine ib_exit ?_)
    | (with_reducible refine ib_ret ?_)
    | (with_reducible refine ib_exit_ne (by decide) ?_)
    | (with_reducible refine for_exit ?_)
    | (with_reducible refine for_ret ?_)
    | (with_reducible refine forq_exit ?_)
    | (with_reducible refine forq_ret ?_)
    | (with_reducible refine round_exit ?_)
    | (with_reducible refine round_ret ?_))
  (first | refine aW_reg fun N hN => ?_ | refine aW_reg1 fun N hN => ?_)
  simp (config := {maxSteps := 10000000}) (disch := first | (intro; intros; rename_i h; injection h; done) | omega) only [go_sem, Bool.false_or, Bool.true_or, Bool.or_true, Bool.or_false, Nat.reduceAdd, Nat.reduceSub, Nat.reduceMul, Nat.reduceLT, Nat.reduceLeDiff, Nat.lt_irrefl, Nat.le_refl, List.getElem?_toArray, bne_self_eq_false, Int.le_refl, Int.reduceLE, Int.reduceLT, Int.toNat_zero, Nat.zero_mul, List.all_cons, List.all_nil, Bool.and_self, Bool.and_true, Bool.true_and, Nat.reduceEqDiff, Nat.one_ne_zero, true_and, and_true, and_self, List.drop_succ_cons, List.drop_nil, List.take_succ_cons, List.take_nil, wrap_i64, wrap_u8, dec_t, dec_f, ite_t, ite_f, Int.toNat_natCast, Int.cast_ofNat_Int, toNat_cast_add, bcells_length, List.length_take, List.length_map, List.length_drop, List.length_append]
  refine (hix).frame [1] [0] rfl (by decide) (by simp) (by simp) ⟨.inr ⟨by simp, rfl, _, _, _, rfl, by rw [pcellsren]; exact (List.take_left' rfl).symm⟩, .inl rfl, trivial⟩ (by rintro (_ | _ | _ | k) i b0 h1 h2 <;> simp at h1 h2 <;> subst h1 h2 <;> first | rfl) ?_
  rintro r0 h0' _ ⟨rfl, rfl⟩
  refine ⟨by first | exact .inl rfl | exact .inr ⟨rfl, rfl⟩, ?_⟩
  simp (config := {maxSteps := 10000000}) only [go_sem, Bool.false_or, Bool.true_or, Bool.or_true, Bool.or_false, Nat.reduceAdd, Nat.reduceSub, Nat.reduceMul, Nat.reduceLT, Nat.reduceLeDiff, Nat.lt_irrefl, Nat.le_refl, List.getElem?_toArray, bne_self_eq_false, Int.le_refl, Int.reduceLE, Int.reduceLT, Int.toNat_zero, Nat.zero_mul, List.all_cons, List.all_nil, Bool.and_self, Bool.and_true, Bool.true_and, Nat.reduceEqDiff, Nat.one_ne_zero, true_and, and_true, and_self, List.drop_succ_cons, List.drop_nil, List.take_succ_cons, List.take_nil, merge, upd, mf, renB]
  refine hN _ _ ?_; clear hN N
  have hkeep : ∀ p : Pn, (!decide (p.page = k)) = true ↔ decide (p.page = k) = false := fun p => by cases decide (p.page = k) <;> simp
  cases hfi : l.findIdx? (fun p => decide (p.page = k)) with
  | none =>
    have hx : idx (fun p => decide (p.page = k)) l = -1 := by simp [idx, hfi]
    rw [List.findIdx?_eq_none_iff] at hfi
    have hf : (l.filter fun p => !decide (p.page = k)) = l := List.filter_eq_self.2 fun p hp => (hkeep p).2 (hfi p hp)
    rw [hx]
    repeat' (first
      | (refine aW_reg fun N hN => ?_; simp (config := {maxSteps := 10000000}) (disch := first | (intro; intros; rename_i h; injection h; done) | omega) only [go_sem, Bool.false_or, Bool.true_or, Bool.or_true, Bool.or_false, Nat.reduceAdd, Nat.reduceSub, Nat.reduceMul, Nat.reduceLT, Nat.reduceLeDiff, Nat.lt_irrefl, Nat.le_refl, List.getElem?_toArray, bne_self_eq_false, Int.le_refl, Int.reduceLE, Int.reduceLT, Int.toNat_zero, Nat.zero_mul, List.all_cons, List.all_nil, Bool.and_self, Bool.and_true, Bool.true_and, Nat.reduceEqDiff, Nat.one_ne_zero, true_and, and_true, and_self, List.drop_succ_cons, List.drop_nil, List.take_succ_cons, List.take_nil, wrap_i64, wrap_u8, dec_t, dec_f, ite_t, ite_f, Int.toNat_natCast, Int.cast_ofNat_Int, toNat_cast_add, bcells_length, List.length_take, List.length_map, List.length_drop, List.length_append]; with_reducible refine hN _ _ ?_; clear hN N)
      | (refine aW_reg1 fun N hN => ?_; simp (config := {maxSteps := 10000000}) (disch := first | (intro; intros; rename_i h; injection h; done) | omega) only [go_sem, Bool.false_or, Bool.true_or, Bool.or_true, Bool.or_false, Nat.reduceAdd, Nat.reduceSub, Nat.reduceMul, Nat.reduceLT, Nat.reduceLeDiff, Nat.lt_irrefl, Nat.le_refl, List.getElem?_toArray, bne_self_eq_false, Int.le_refl, Int.reduceLE, Int.reduceLT, Int.toNat_zero, Nat.zero_mul, List.all_cons, List.all_nil, Bool.and_self, Bool.and_true, Bool.true_and, Nat.reduceEqDiff, Nat.one_ne_zero, true_and, and_true, and_self, List.drop_succ_cons, List.drop_nil, List.take_succ_cons, List.take_nil, wrap_i64, wrap_u8, dec_t, dec_f, ite_t, ite_f, Int.toNat_natCast, Int.cast_ofNat_Int, toNat_cast_add, bcells_length, List.length_take, List.length_map, List.length_drop, List.length_append]; with_reducible refine hN _ _ ?_; clear hN N)
      | (refine aW_seq_k fun N hN => ?_)
      | (refine aW_block ?_)
      | (refine aW_cond (b := true) rfl (fun _ => ?_) (fun h => by cases h))
      | (refine aW_cond (b := false) rfl (fun h => by cases h) (fun _ => ?_))
      | (refine aW_skip ?_)
      | (refine aW_exit ?_)
      | (with_reducible refine nx_normal ?_)
      | (first | (with_reducible refine hN _ _ ?_; clear hN N) | (clear hN N; with_reducible refine hN _ _ ?_; clear hN N) | (clear hN N; clear hN N; with_reducible refine hN _ _ ?_; clear hN N) | (clear hN N; clear hN N; clear hN N; with_reducible refine hN _ _ ?_; clear hN N))
      | (with_reducible refine nx_exit ?_)
      | (with_reducible refine nx_ret ?_)
      | (with_reducible refine ib_normal ?_)
      | (with_reducible refine ib_exit ?_)
      | (with_reducible refine ib_ret ?_)
      | (with_reducible refine ib_exit_ne (by decide) ?_)
      | (with_reducible refine for_exit ?_)
      | (with_reducible refine for_ret ?_)
      | (with_reducible refine forq_exit ?_)
      | (with_reducible refine forq_ret ?_)
      | (with_reducible refine round_exit ?_)
      | (with_reducible refine round_ret ?_))
    refine aW_ret ?_
    repeat' (first | (with_reducible refine nx_ret ?_) | (with_reducible refine ib_ret ?_) | (with_reducible refine for_ret ?_) | (with_reducible refine forq_ret ?_) | (with_reducible refine round_ret ?_))
    exact Body.done rfl (by simp) ⟨junk, hj, by rw [hf]; rfl, by rw [hf]⟩
  | some i0 =>
    have hx : idx (fun p => decide (p.page = k)) l = (i0 : Int) := by simp [idx, hfi]
    obtain ⟨hil, hi1, hi2⟩ := List.findIdx?_eq_some_iff_getElem.1 hfi
    have hne : ((i0 : Int) == -1) = false := by simp
    rw [hx]
    repeat' (first
      | (refine aW_reg fun N hN => ?_; simp (config := {maxSteps := 10000000}) (disch := first | (intro; intros; rename_i h; injection h; done) | omega) only [go_sem, Bool.false_or, Bool.true_or, Bool.or_true, Bool.or_false, Nat.reduceAdd, Nat.reduceSub, Nat.reduceMul, Nat.reduceLT, Nat.reduceLeDiff, Nat.lt_irrefl, Nat.le_refl, List.getElem?_toArray, bne_self_eq_false, Int.le_refl, Int.reduceLE, Int.reduceLT, Int.toNat_zero, Nat.zero_mul, List.all_cons, List.all_nil, Bool.and_self, Bool.and_true, Bool.true_and, Nat.reduceEqDiff, Nat.one_ne_zero, true_and, and_true, and_self, List.drop_succ_cons, List.drop_nil, List.take_succ_cons, List.take_nil, wrap_i64, wrap_u8, dec_t, dec_f, ite_t, ite_f, Int.toNat_natCast, Int.cast_ofNat_Int, toNat_cast_add, bcells_length, List.length_take, List.length_map, List.length_drop, List.length_append, hne]; with_reducible refine hN _ _ ?_; clear hN N)
      | (refine aW_reg1 fun N hN => ?_; simp (config := {maxSteps := 10000000}) (disch := first | (intro; intros; rename_i h; injection h; done) | omega) only [go_sem, Bool.false_or, Bool.true_or, Bool.or_true, Bool.or_false, Nat.reduceAdd, Nat.reduceSub, Nat.reduceMul, Nat.reduceLT, Nat.reduceLeDiff, Nat.lt_irrefl, Nat.le_refl, List.getElem?_toArray, bne_self_eq_false, Int.le_refl, Int.reduceLE, Int.reduceLT, Int.toNat_zero, Nat.zero_mul, List.all_cons, List.all_nil, Bool.and_self, Bool.and_true, Bool.true_and, Nat.reduceEqDiff, Nat.one_ne_zero, true_and, and_true, and_self, List.drop_succ_cons, List.drop_nil, List.take_succ_cons, List.take_nil, wrap_i64, wrap_u8, dec_t, dec_f, ite_t, ite_f, Int.toNat_natCast, Int.cast_ofNat_Int, toNat_cast_add, bcells_length, List.length_take, List.length_map, List.length_drop, List.length_append, hne]; with_reducible refine hN _ _ ?_; clear hN N)
      | (refine aW_seq_k fun N hN => ?_)
      | (refine aW_block ?_)
      | (refine aW_cond (b := true) rfl (fun _ => ?_) (fun h => by cases h))
      | (refine aW_cond (b := false) rfl (fun h => by cases h) (fun _ => ?_))
      | (refine aW_skip ?_)
      | (refine aW_exit ?_)
      | (with_reducible refine nx_normal ?_)
      | (first | (with_reducible refine hN _ _ ?_; clear hN N) | (clear hN N; with_reducible refine hN _ _ ?_; clear hN N) | (clear hN N; clear hN N; with_reducible refine hN _ _ ?_; clear hN N) | (clear hN N; clear hN N; clear hN N; with_reducible refine hN _ _ ?_; clear hN N))
      | (with_reducible refine nx_exit ?_)
      | (with_reducible refine nx_ret ?_)
      | (with_reducible refine ib_normal ?_)
      | (with_reducible refine ib_exit ?_)
      | (with_reducible refine ib_ret ?_)
      | (with_reducible refine ib_exit_ne (by decide) ?_)
      | (with_reducible refine for_exit ?_)
      | (with_reducible refine for_ret ?_)
      | (with_reducible refine forq_exit ?_)
      | (with_reducible refine forq_ret ?_)
      | (with_reducible refine round_exit ?_)
      | (with_reducible refine round_ret ?_))
    refine aW_forget ((.gsl 0 l.length 3 :: .fn (.func 31) [.ptr 1 0] :: .unk :: .unk :: .unk :: .int .i64 (i0 : Int) :: .int .i64 ((i0 + 1 : Nat) : Int) :: .unk :: .unk :: .unk :: .unk :: .unk :: .unk :: .unk :: .unk :: .unk :: .unk :: .unk :: .unk :: .unk :: .unk :: .unk :: .unk :: .unk :: .unk :: .unk :: .unk :: .unk :: .unk :: .unk :: .unk :: .unk :: .unk :: .unk :: .unk :: .unk :: .unk :: .unk :: .unk :: .unk :: .unk :: .unk :: [])) (by simp [LeU]) fun _ => ?_
    refine aW_loop (fun m T h => ∃ (kept M : List Pn) (j : Nat), kept = ((l.take j).filter fun p => !decide (p.page = k)) ∧ 0 < M.length ∧ kept.length + M.length = j ∧ j ≤ l.length ∧ m = l.length - j ∧ T = ((.gsl 0 l.length 3 :: .fn (.func 31) [.ptr 1 0] :: .unk :: .unk :: .unk :: .int .i64 (kept.length : Int) :: .int .i64 (j : Int) :: .unk :: .unk :: .unk :: .unk :: .unk :: .unk :: .unk :: .unk :: .unk :: .unk :: .unk :: .unk :: .unk :: .unk :: .unk :: .unk :: .unk :: .unk :: .unk :: .unk :: .unk :: .unk :: .unk :: .unk :: .unk :: .unk :: .unk :: .unk :: .unk :: .unk :: .unk :: .unk :: .unk :: .unk :: .unk :: [])) ∧ h = [some (.row (pE.cells (kept ++ M ++ l.drop j) ++ junk) 65 false), some (.row [.int .i64 k] 3 true)]) (l.length - (i0 + 1)) ?_ ?_
    · have e0 : ((l.take (i0 + 1)).filter fun p => !decide (p.page = k)) = l.take i0 := by
        rw [List.take_add_one, List.getElem?_eq_getElem hil, Option.toList_some, List.filter_append]
        rw [List.filter_eq_self.2 fun p hp => ?_]
        · simpa using hi1
        · obtain ⟨n, hn, rfl⟩ := List.getElem_of_mem hp
          have hn2 : n < i0 := by rw [List.length_take] at hn; omega
          have := hi2 n hn2
          rw [List.getElem_take]
          exact (hkeep _).2 (by simpa using this)
      refine ⟨l.take i0, [l[i0]], i0 + 1, e0.symm, by simp, by rw [List.length_take, List.length_singleton]; omega, hil, rfl, by rw [List.length_take, Nat.min_eq_left (Nat.le_of_lt hil)], ?_⟩
      rw [List.append_assoc, List.singleton_append, ← List.drop_eq_getElem_cons hil, List.take_append_drop]
    rintro m T h _ ⟨kept, M, j, hkp, hM, hkM, hjl, rfl, rfl, rfl⟩
    obtain ⟨L, hL⟩ : ∃ L, kept ++ M ++ l.drop j = L := ⟨_, rfl⟩
    have hLl : L.length = l.length := by rw [← hL, List.length_append, List.length_append, List.length_drop]; omega
    have hLc : (pE.cells L).length = l.length * 3 := by rw [pE.length, hLl]; rfl
    rw [hL]
    by_cases hlt : j < l.length
    · have hLj : L[j]'(by omega) = l[j] := by
        simp only [← hL]
        rw [List.getElem_append_right (by rw [List.length_append]; omega)]
        simp only [List.length_append, hkM, Nat.sub_self, List.getElem_drop, Nat.add_zero]
      have hc : ((pE.cells L ++ junk).drop (j * 3)).take 3 = pcell l[j] := by
        have := pE.cell L junk j (by omega)
        rw [hLj] at this
        exact this
      have hst : setMany (pE.cells L ++ junk) (kept.length * 3) (pcell l[j]) = pE.cells (L.set kept.length l[j]) ++ junk := pE.setAt L junk kept.length l[j] (by omega)
      obtain ⟨v, hv⟩ : ∃ v, l[j] = v := ⟨_, rfl⟩
      have htk : l.take (j + 1) = l.take j ++ [v] := by rw [List.take_add_one, List.getElem?_eq_getElem hlt, hv]; rfl
      have hdr : l.drop j = v :: l.drop (j + 1) := by rw [List.drop_eq_getElem_cons hlt, hv]
      rw [hv] at hc hst
      simp only [pcell] at hc hst
      repeat' (first
        | (refine aW_reg fun N hN => ?_; simp (config := {maxSteps := 10000000}) (disch := first | (intro; intros; rename_i h; injection h; done) | omega) only [go_sem, Bool.false_or, Bool.true_or, Bool.or_true, Bool.or_false, Nat.reduceAdd, Nat.reduceSub, Nat.reduceMul, Nat.reduceLT, Nat.reduceLeDiff, Nat.lt_irrefl, Nat.le_refl, List.getElem?_toArray, bne_self_eq_false, Int.le_refl, Int.reduceLE, Int.reduceLT, Int.toNat_zero, Nat.zero_mul, List.all_cons, List.all_nil, Bool.and_self, Bool.and_true, Bool.true_and, Nat.reduceEqDiff, Nat.one_ne_zero, true_and, and_true, and_self, List.drop_succ_cons, List.drop_nil, List.take_succ_cons, List.take_nil, wrap_i64, wrap_u8, dec_t, dec_f, ite_t, ite_f, Int.toNat_natCast, Int.cast_ofNat_Int, toNat_cast_add, bcells_length, List.length_take, List.length_map, List.length_drop, List.length_append, hLc, hc]; with_reducible refine hN _ _ ?_; clear hN N)
        | (refine aW_reg1 fun N hN => ?_; simp (config := {maxSteps := 10000000}) (disch := first | (intro; intros; rename_i h; injection h; done) | omega) only [go_sem, Bool.false_or, Bool.true_or, Bool.or_true, Bool.or_false, Nat.reduceAdd, Nat.reduceSub, Nat.reduceMul, Nat.reduceLT, Nat.reduceLeDiff, Nat.lt_irrefl, Nat.le_refl, List.getElem?_toArray, bne_self_eq_false, Int.le_refl, Int.reduceLE, Int.reduceLT, Int.toNat_zero, Nat.zero_mul, List.all_cons, List.all_nil, Bool.and_self, Bool.and_true, Bool.true_and, Nat.reduceEqDiff, Nat.one_ne_zero, true_and, and_true, and_self, List.drop_succ_cons, List.drop_nil, List.take_succ_cons, List.take_nil, wrap_i64, wrap_u8, dec_t, dec_f, ite_t, ite_f, Int.toNat_natCast, Int.cast_ofNat_Int, toNat_cast_add, bcells_length, List.length_take, List.length_map, List.length_drop, List.length_append, hLc, hc]; with_reducible refine hN _ _ ?_; clear hN N)
        | (refine aW_seq_k fun N hN => ?_)
        | (refine aW_block ?_)
        | (refine aW_cond (b := true) rfl (fun _ => ?_) (fun h => by cases h))
        | (refine aW_cond (b := false) rfl (fun h => by cases h) (fun _ => ?_))
        | (refine aW_skip ?_)
        | (refine aW_exit ?_)
        | (with_reducible refine nx_normal ?_)
        | (first | (with_reducible refine hN _ _ ?_; clear hN N) | (clear hN N; with_reducible refine hN _ _ ?_; clear hN N) | (clear hN N; clear hN N; with_reducible refine hN _ _ ?_; clear hN N) | (clear hN N; clear hN N; clear hN N; with_reducible refine hN _ _ ?_; clear hN N))
        | (with_reducible refine nx_exit ?_)
        | (with_reducible refine nx_ret ?_)
        | (with_reducible refine ib_normal ?_)
        | (with_reducible refine ib_exit ?_)
        | (with_reducible refine ib_ret ?_)
        | (with_reducible refine ib_exit_ne (by decide) ?_)
        | (with_reducible refine for_exit ?_)
        | (with_reducible refine for_ret ?_)
        | (with_reducible refine forq_exit ?_)
        | (with_reducible refine forq_ret ?_)
        | (with_reducible refine round_exit ?_)
        | (with_reducible refine round_ret ?_))
      (first | refine aW_reg fun N hN => ?_ | refine aW_reg1 fun N hN => ?_)
      simp (config := {maxSteps := 10000000}) (disch := first | (intro; intros; rename_i h; injection h; done) | omega) only [go_sem, Bool.false_or, Bool.true_or, Bool.or_true, Bool.or_false, Nat.reduceAdd, Nat.reduceSub, Nat.reduceMul, Nat.reduceLT, Nat.reduceLeDiff, Nat.lt_irrefl, Nat.le_refl, List.getElem?_toArray, bne_self_eq_false, Int.le_refl, Int.reduceLE, Int.reduceLT, Int.toNat_zero, Nat.zero_mul, List.all_cons, List.all_nil, Bool.and_self, Bool.and_true, Bool.true_and, Nat.reduceEqDiff, Nat.one_ne_zero, true_and, and_true, and_self, List.drop_succ_cons, List.drop_nil, List.take_succ_cons, List.take_nil, wrap_i64, wrap_u8, dec_t, dec_f, ite_t, ite_f, Int.toNat_natCast, Int.cast_ofNat_Int, toNat_cast_add, bcells_length, List.length_take, List.length_map, List.length_drop, List.length_append]
      refine ((c31 v k)).frame [1] [] rfl (by decide) (by simp) (by simp) ⟨.inl (by simp [LeV, ren, renL, pcell]), .inl rfl, trivial⟩ (by rintro (_ | _ | _ | k) i b0 h1 h2 <;> simp at h1 h2 <;> subst h1 h2 <;> first | rfl) ?_
      cases hq : decide (v.page = k)
      · rintro r0 h0' _ ⟨rfl, rfl⟩
        refine ⟨by first | exact .inl rfl | exact .inr ⟨rfl, rfl⟩, ?_⟩
        simp (config := {maxSteps := 10000000}) only [go_sem, Bool.false_or, Bool.true_or, Bool.or_true, Bool.or_false, Nat.reduceAdd, Nat.reduceSub, Nat.reduceMul, Nat.reduceLT, Nat.reduceLeDiff, Nat.lt_irrefl, Nat.le_refl, List.getElem?_toArray, bne_self_eq_false, Int.le_refl, Int.reduceLE, Int.reduceLT, Int.toNat_zero, Nat.zero_mul, List.all_cons, List.all_nil, Bool.and_self, Bool.and_true, Bool.true_and, Nat.reduceEqDiff, Nat.one_ne_zero, true_and, and_true, and_self, List.drop_succ_cons, List.drop_nil, List.take_succ_cons, List.take_nil, merge, upd, mf, renB, hq]
        refine hN _ _ ?_; clear hN N
        repeat' (first
          | (refine aW_reg fun N hN => ?_; simp (config := {maxSteps := 10000000}) (disch := first | (intro; intros; rename_i h; injection h; done) | omega) only [go_sem, Bool.false_or, Bool.true_or, Bool.or_true, Bool.or_false, Nat.reduceAdd, Nat.reduceSub, Nat.reduceMul, Nat.reduceLT, Nat.reduceLeDiff, Nat.lt_irrefl, Nat.le_refl, List.getElem?_toArray, bne_self_eq_false, Int.le_refl, Int.reduceLE, Int.reduceLT, Int.toNat_zero, Nat.zero_mul, List.all_cons, List.all_nil, Bool.and_self, Bool.and_true, Bool.true_and, Nat.reduceEqDiff, Nat.one_ne_zero, true_and, and_true, and_self, List.drop_succ_cons, List.drop_nil, List.take_succ_cons, List.take_nil, wrap_i64, wrap_u8, dec_t, dec_f, ite_t, ite_f, Int.toNat_natCast, Int.cast_ofNat_Int, toNat_cast_add, bcells_length, List.length_take, List.length_map, List.length_drop, List.length_append, hLc, ↓hst]; with_reducible refine hN _ _ ?_; clear hN N)
          | (refine aW_reg1 fun N hN => ?_; simp (config := {maxSteps := 10000000}) (disch := first | (intro; intros; rename_i h; injection h; done) | omega) only [go_sem, Bool.false_or, Bool.true_or, Bool.or_true, Bool.or_false, Nat.reduceAdd, Nat.reduceSub, Nat.reduceMul, Nat.reduceLT, Nat.reduceLeDiff, Nat.lt_irrefl, Nat.le_refl, List.getElem?_toArray, bne_self_eq_false, Int.le_refl, Int.reduceLE, Int.reduceLT, Int.toNat_zero, Nat.zero_mul, List.all_cons, List.all_nil, Bool.and_self, Bool.and_true, Bool.true_and, Nat.reduceEqDiff, Nat.one_ne_zero, true_and, and_true, and_self, List.drop_succ_cons, List.drop_nil, List.take_succ_cons, List.take_nil, wrap_i64, wrap_u8, dec_t, dec_f, ite_t, ite_f, Int.toNat_natCast, Int.cast_ofNat_Int, toNat_cast_add, bcells_length, List.length_take, List.length_map, List.length_drop, List.length_append, hLc, ↓hst]; with_reducible refine hN _ _ ?_; clear hN N)
          | (refine aW_seq_k fun N hN => ?_)
          | (refine aW_block ?_)
          | (refine aW_cond (b := true) rfl (fun _ => ?_) (fun h => by cases h))
          | (refine aW_cond (b := false) rfl (fun h => by cases h) (fun _ => ?_))
          | (refine aW_skip ?_)
          | (refine aW_exit ?_)
          | (with_reducible refine nx_normal ?_)
          | (first | (with_reducible refine hN _ _ ?_; clear hN N) | (clear hN N; with_reducible refine hN _ _ ?_; clear hN N) | (clear hN N; clear hN N; with_reducible refine hN _ _ ?_; clear hN N) | (clear hN N; clear hN N; clear hN N; with_reducible refine hN _ _ ?_; clear hN N))
          | (with_reducible refine nx_exit ?_)
          | (with_reducible refine nx_ret ?_)
          | (with_reducible refine ib_normal ?_)
          | (with_reducible refine ib_exit ?_)
          | (with_reducible refine ib_ret ?_)
          | (with_reducible refine ib_exit_ne (by decide) ?_)
          | (with_reducible refine for_exit ?_)
          | (with_reducible refine for_ret ?_)
          | (with_reducible refine forq_exit ?_)
          | (with_reducible refine forq_ret ?_)
          | (with_reducible refine round_exit ?_)
          | (with_reducible refine round_ret ?_))
        obtain ⟨m0, M', rfl⟩ : ∃ m0 M', M = m0 :: M' := by cases M with | nil => simp at hM | cons a b => exact ⟨a, b, rfl⟩
        simp only [List.length_cons] at hkM
        refine ⟨l.length - (j + 1), _, _, _, by omega, Weak.lit [0, 1] ?_ ?_ (by decide) (by decide), kept ++ [v], M' ++ [v], j + 1, ?_, by simp, by simp only [List.length_append, List.length_singleton]; omega, hlt, rfl, rfl, rfl⟩
        · simp [LeL, LeV, ren, renL, pf]
        · refine ⟨?_, rfl, trivial⟩
          have e9 : L.set kept.length v = kept ++ [v] ++ (M' ++ [v]) ++ l.drop (j + 1) := by rw [← hL, hdr]; simp
          rw [← e9, renB, renL_append, pE.ren, hj]
          rfl
        · rw [htk, List.filter_append, ← hkp]
          simp [hq, of_decide_eq_false hq]
      · rintro r0 h0' _ ⟨rfl, rfl⟩
        refine ⟨by first | exact .inl rfl | exact .inr ⟨rfl, rfl⟩, ?_⟩
        simp (config := {maxSteps := 10000000}) only [go_sem, Bool.false_or, Bool.true_or, Bool.or_true, Bool.or_false, Nat.reduceAdd, Nat.reduceSub, Nat.reduceMul, Nat.reduceLT, Nat.reduceLeDiff, Nat.lt_irrefl, Nat.le_refl, List.getElem?_toArray, bne_self_eq_false, Int.le_refl, Int.reduceLE, Int.reduceLT, Int.toNat_zero, Nat.zero_mul, List.all_cons, List.all_nil, Bool.and_self, Bool.and_true, Bool.true_and, Nat.reduceEqDiff, Nat.one_ne_zero, true_and, and_true, and_self, List.drop_succ_cons, List.drop_nil, List.take_succ_cons, List.take_nil, merge, upd, mf, renB, hq]
        refine hN _ _ ?_; clear hN N
        repeat' (first
          | (refine aW_reg fun N hN => ?_; simp (config := {maxSteps := 10000000}) (disch := first | (intro; intros; rename_i h; injection h; done) | omega) only [go_sem, Bool.false_or, Bool.true_or, Bool.or_true, Bool.or_false, Nat.reduceAdd, Nat.reduceSub, Nat.reduceMul, Nat.reduceLT, Nat.reduceLeDiff, Nat.lt_irrefl, Nat.le_refl, List.getElem?_toArray, bne_self_eq_false, Int.le_refl, Int.reduceLE, Int.reduceLT, Int.toNat_zero, Nat.zero_mul, List.all_cons, List.all_nil, Bool.and_self, Bool.and_true, Bool.true_and, Nat.reduceEqDiff, Nat.one_ne_zero, true_and, and_true, and_self, List.drop_succ_cons, List.drop_nil, List.take_succ_cons, List.take_nil, wrap_i64, wrap_u8, dec_t, dec_f, ite_t, ite_f, Int.toNat_natCast, Int.cast_ofNat_Int, toNat_cast_add, bcells_length, List.length_take, List.length_map, List.length_drop, List.length_append, hLc, ↓hst]; with_reducible refine hN _ _ ?_; clear hN N)
          | (refine aW_reg1 fun N hN => ?_; simp (config := {maxSteps := 10000000}) (disch := first | (intro; intros; rename_i h; injection h; done) | omega) only [go_sem, Bool.false_or, Bool.true_or, Bool.or_true, Bool.or_false, Nat.reduceAdd, Nat.reduceSub, Nat.reduceMul, Nat.reduceLT, Nat.reduceLeDiff, Nat.lt_irrefl, Nat.le_refl, List.getElem?_toArray, bne_self_eq_false, Int.le_refl, Int.reduceLE, Int.reduceLT, Int.toNat_zero, Nat.zero_mul, List.all_cons, List.all_nil, Bool.and_self, Bool.and_true, Bool.true_and, Nat.reduceEqDiff, Nat.one_ne_zero, true_and, and_true, and_self, List.drop_succ_cons, List.drop_nil, List.take_succ_cons, List.take_nil, wrap_i64, wrap_u8, dec_t, dec_f, ite_t, ite_f, Int.toNat_natCast, Int.cast_ofNat_Int, toNat_cast_add, bcells_length, List.length_take, List.length_map, List.length_drop, List.length_append, hLc, ↓hst]; with_reducible refine hN _ _ ?_; clear hN N)
          | (refine aW_seq_k fun N hN => ?_)
          | (refine aW_block ?_)
          | (refine aW_cond (b := true) rfl (fun _ => ?_) (fun h => by cases h))
          | (refine aW_cond (b := false) rfl (fun h => by cases h) (fun _ => ?_))
          | (refine aW_skip ?_)
          | (refine aW_exit ?_)
          | (with_reducible refine nx_normal ?_)
          | (first | (with_reducible refine hN _ _ ?_; clear hN N) | (clear hN N; with_reducible refine hN _ _ ?_; clear hN N) | (clear hN N; clear hN N; with_reducible refine hN _ _ ?_; clear hN N) | (clear hN N; clear hN N; clear hN N; with_reducible refine hN _ _ ?_; clear hN N))
          | (with_reducible refine nx_exit ?_)
          | (with_reducible refine nx_ret ?_)
          | (with_reducible refine ib_normal ?_)
          | (with_reducible refine ib_exit ?_)
          | (with_reducible refine ib_ret ?_)
          | (with_reducible refine ib_exit_ne (by decide) ?_)
          | (with_reducible refine for_exit ?_)
          | (with_reducible refine for_ret ?_)
          | (with_reducible refine forq_exit ?_)
          | (with_reducible refine forq_ret ?_)
          | (with_reducible refine round_exit ?_)
          | (with_reducible refine round_ret ?_))
        refine ⟨l.length - (j + 1), _, _, _, by omega, Weak.lit [0, 1] ?_ ?_ (by decide) (by decide), kept, M ++ [v], j + 1, ?_, by rw [List.length_append]; omega, by rw [List.length_append, List.length_singleton]; omega, hlt, rfl, rfl, rfl⟩
        · simp [LeL, LeV, ren, renL, pf]
        · refine ⟨?_, rfl, trivial⟩
          have e9 : kept ++ (M ++ [v]) ++ l.drop (j + 1) = L := by rw [← hL, hdr]; simp
          rw [e9, renB, renL_append, pE.ren, hj]
          rfl
        · rw [htk, List.filter_append, ← hkp]
          simp [hq, of_decide_eq_true hq]
    · obtain rfl : j = l.length := by omega
      rw [List.take_length] at hkp
      have hLe : L = kept ++ M := by rw [← hL, List.drop_length, List.append_nil]
      subst hLe

      have hjz : NoId (setMany (pE.cells M ++ junk) 0 (zeroRow [.int .i64 0, .str [], .int .i64 0] (l.length - kept.length))) := fun m => by rw [renL_setMany, renL_zeroRow _ _ rfl, renL_append, pE.ren, hj]
      have hcz : setMany (pE.cells (kept ++ M) ++ junk) (kept.length * 3) (zeroRow [.int .i64 0, .str [], .int .i64 0] (l.length - kept.length)) = pE.cells kept ++ setMany (pE.cells M ++ junk) 0 (zeroRow [.int .i64 0, .str [], .int .i64 0] (l.length - kept.length)) := by
        have := setMany_left (zeroRow [.int .i64 0, .str [], .int .i64 0] (l.length - kept.length)) (pE.cells kept) (pE.cells M ++ junk) 0
        rw [pE.length, Nat.add_zero, ← List.append_assoc, ← pE.cells_append] at this
        exact this
      by_cases hk0 : kept = []
      · subst hk0
        simp only [List.nil_append, List.length_nil, Nat.zero_mul, Nat.sub_zero, Enc.cells_nil] at hcz hjz hLc hkM ⊢
        repeat' (first
          | (refine aW_reg fun N hN => ?_; simp (config := {maxSteps := 10000000}) (disch := first | (intro; intros; rename_i h; injection h; done) | omega) only [go_sem, Bool.false_or, Bool.true_or, Bool.or_true, Bool.or_false, Nat.reduceAdd, Nat.reduceSub, Nat.reduceMul, Nat.reduceLT, Nat.reduceLeDiff, Nat.lt_irrefl, Nat.le_refl, List.getElem?_toArray, bne_self_eq_false, Int.le_refl, Int.reduceLE, Int.reduceLT, Int.toNat_zero, Nat.zero_mul, List.all_cons, List.all_nil, Bool.and_self, Bool.and_true, Bool.true_and, Nat.reduceEqDiff, Nat.one_ne_zero, true_and, and_true, and_self, List.drop_succ_cons, List.drop_nil, List.take_succ_cons, List.take_nil, wrap_i64, wrap_u8, dec_t, dec_f, ite_t, ite_f, Int.toNat_natCast, Int.cast_ofNat_Int, toNat_cast_add, bcells_length, List.length_take, List.length_map, List.length_drop, List.length_append, hLc, ↓hcz]; with_reducible refine hN _ _ ?_; clear hN N)
          | (refine aW_reg1 fun N hN => ?_; simp (config := {maxSteps := 10000000}) (disch := first | (intro; intros; rename_i h; injection h; done) | omega) only [go_sem, Bool.false_or, Bool.true_or, Bool.or_true, Bool.or_false, Nat.reduceAdd, Nat.reduceSub, Nat.reduceMul, Nat.reduceLT, Nat.reduceLeDiff, Nat.lt_irrefl, Nat.le_refl, List.getElem?_toArray, bne_self_eq_false, Int.le_refl, Int.reduceLE, Int.reduceLT, Int.toNat_zero, Nat.zero_mul, List.all_cons, List.all_nil, Bool.and_self, Bool.and_true, Bool.true_and, Nat.reduceEqDiff, Nat.one_ne_zero, true_and, and_true, and_self, List.drop_succ_cons, List.drop_nil, List.take_succ_cons, List.take_nil, wrap_i64, wrap_u8, dec_t, dec_f, ite_t, ite_f, Int.toNat_natCast, Int.cast_ofNat_Int, toNat_cast_add, bcells_length, List.length_take, List.length_map, List.length_drop, List.length_append, hLc, ↓hcz]; with_reducible refine hN _ _ ?_; clear hN N)
          | (refine aW_seq_k fun N hN => ?_)
          | (refine aW_block ?_)
          | (refine aW_cond (b := true) rfl (fun _ => ?_) (fun h => by cases h))
          | (refine aW_cond (b := false) rfl (fun h => by cases h) (fun _ => ?_))
          | (refine aW_skip ?_)
          | (refine aW_exit ?_)
          | (with_reducible refine nx_normal ?_)
          | (first | (with_reducible refine hN _ _ ?_; clear hN N) | (clear hN N; with_reducible refine hN _ _ ?_; clear hN N) | (clear hN N; clear hN N; with_reducible refine hN _ _ ?_; clear hN N) | (clear hN N; clear hN N; clear hN N; with_reducible refine hN _ _ ?_; clear hN N))
          | (with_reducible refine nx_exit ?_)
          | (with_reducible refine nx_ret ?_)
          | (with_reducible refine ib_normal ?_)
          | (with_reducible refine ib_exit ?_)
          | (with_reducible refine ib_ret ?_)
          | (with_reducible refine ib_exit_ne (by decide) ?_)
          | (with_reducible refine for_exit ?_)
          | (with_reducible refine for_ret ?_)
          | (with_reducible refine forq_exit ?_)
          | (with_reducible refine forq_ret ?_)
          | (with_reducible refine round_exit ?_)
          | (with_reducible refine round_ret ?_))
        refine aW_ret ?_
        repeat' (first | (with_reducible refine nx_ret ?_) | (with_reducible refine ib_ret ?_) | (with_reducible refine for_ret ?_) | (with_reducible refine forq_ret ?_) | (with_reducible refine round_ret ?_))
        exact Body.keep [0, 1] (.gsl 0 0 3) [some (.row (setMany (pE.cells M ++ junk) 0 (zeroRow [.int .i64 0, .str [], .int .i64 0] l.length)) 65 false), some (.row [.int .i64 k] 3 true)] rfl rfl ⟨by rw [renB, hjz]; rfl, rfl, trivial⟩ (by decide) (by decide) ⟨_, hjz, by rw [← hkp]; rfl, by rw [← hkp]; rfl⟩
      · have hk1 : 0 < kept.length := by cases kept with | nil => exact absurd rfl hk0 | cons _ _ => simp
        repeat' (first
          | (refine aW_reg fun N hN => ?_; simp (config := {maxSteps := 10000000}) (disch := first | (intro; intros; rename_i h; injection h; done) | omega) only [go_sem, Bool.false_or, Bool.true_or, Bool.or_true, Bool.or_false, Nat.reduceAdd, Nat.reduceSub, Nat.reduceMul, Nat.reduceLT, Nat.reduceLeDiff, Nat.lt_irrefl, Nat.le_refl, List.getElem?_toArray, bne_self_eq_false, Int.le_refl, Int.reduceLE, Int.reduceLT, Int.toNat_zero, Nat.zero_mul, List.all_cons, List.all_nil, Bool.and_self, Bool.and_true, Bool.true_and, Nat.reduceEqDiff, Nat.one_ne_zero, true_and, and_true, and_self, List.drop_succ_cons, List.drop_nil, List.take_succ_cons, List.take_nil, wrap_i64, wrap_u8, dec_t, dec_f, ite_t, ite_f, Int.toNat_natCast, Int.cast_ofNat_Int, toNat_cast_add, bcells_length, List.length_take, List.length_map, List.length_drop, List.length_append, hLc, ↓hcz]; with_reducible refine hN _ _ ?_; clear hN N)
          | (refine aW_reg1 fun N hN => ?_; simp (config := {maxSteps := 10000000}) (disch := first | (intro; intros; rename_i h; injection h; done) | omega) only [go_sem, Bool.false_or, Bool.true_or, Bool.or_true, Bool.or_false, Nat.reduceAdd, Nat.reduceSub, Nat.reduceMul, Nat.reduceLT, Nat.reduceLeDiff, Nat.lt_irrefl, Nat.le_refl, List.getElem?_toArray, bne_self_eq_false, Int.le_refl, Int.reduceLE, Int.reduceLT, Int.toNat_zero, Nat.zero_mul, List.all_cons, List.all_nil, Bool.and_self, Bool.and_true, Bool.true_and, Nat.reduceEqDiff, Nat.one_ne_zero, true_and, and_true, and_self, List.drop_succ_cons, List.drop_nil, List.take_succ_cons, List.take_nil, wrap_i64, wrap_u8, dec_t, dec_f, ite_t, ite_f, Int.toNat_natCast, Int.cast_ofNat_Int, toNat_cast_add, bcells_length, List.length_take, List.length_map, List.length_drop, List.length_append, hLc, ↓hcz]; with_reducible refine hN _ _ ?_; clear hN N)
          | (refine aW_seq_k fun N hN => ?_)
          | (refine aW_block ?_)
          | (refine aW_cond (b := true) rfl (fun _ => ?_) (fun h => by cases h))
          | (refine aW_cond (b := false) rfl (fun h => by cases h) (fun _ => ?_))
          | (refine aW_skip ?_)
          | (refine aW_exit ?_)
          | (with_reducible refine nx_normal ?_)
          | (first | (with_reducible refine hN _ _ ?_; clear hN N) | (clear hN N; with_reducible refine hN _ _ ?_; clear hN N) | (clear hN N; clear hN N; with_reducible refine hN _ _ ?_; clear hN N) | (clear hN N; clear hN N; clear hN N; with_reducible refine hN _ _ ?_; clear hN N))
          | (with_reducible refine nx_exit ?_)
          | (with_reducible refine nx_ret ?_)
          | (with_reducible refine ib_normal ?_)
          | (with_reducible refine ib_exit ?_)
          | (with_reducible refine ib_ret ?_)
          | (with_reducible refine ib_exit_ne (by decide) ?_)
          | (with_reducible refine for_exit ?_)
          | (with_reducible refine for_ret ?_)
          | (with_reducible refine forq_exit ?_)
          | (with_reducible refine forq_ret ?_)
          | (with_reducible refine round_exit ?_)
          | (with_reducible refine round_ret ?_))
        refine aW_ret ?_
        repeat' (first | (with_reducible refine nx_ret ?_) | (with_reducible refine ib_ret ?_) | (with_reducible refine for_ret ?_) | (with_reducible refine forq_ret ?_) | (with_reducible refine round_ret ?_))
        exact Body.keep [0, 1] (.gsl 0 kept.length 3) [some (.row (pE.cells kept ++ setMany (pE.cells M ++ junk) 0 (zeroRow [.int .i64 0, .str [], .int .i64 0] (l.length - kept.length))) 65 false), some (.row [.int .i64 k] 3 true)] rfl rfl ⟨by rw [renB, renL_append, pE.ren, hjz]; rfl, rfl, trivial⟩ (by decide) (by decide) ⟨_, hjz, by rw [← hkp], by rw [← hkp]⟩
end Go.Proofs
