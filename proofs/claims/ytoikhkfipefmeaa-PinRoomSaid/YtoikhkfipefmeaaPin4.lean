/- Contracts of the package's functions, by the walk over abstract values. No condition. -/
import Derived.Test.YtoikhkfipefmeaaPin3
namespace Go.Proofs
open Go Go.AH TryTy
set_option linter.unusedSimpArgs false
set_option linter.unusedVariables false
set_option maxRecDepth 10000

def pj (j : Nat) : Pn := ⟨(j : Int), [104], (j : Int)⟩
def ps (a n : Nat) : List Pn := (List.range' a n).map pj
theorem ps_length (a n : Nat) : (ps a n).length = n := by simp [ps]
theorem ps_snoc (a n : Nat) : ps a n ++ [pj (a + n)] = ps a (n + 1) := by simp [ps, List.range'_1_concat]
theorem ps_cons (a n : Nat) : ps a (n + 1) = pj a :: ps (a + 1) n := by simp [ps, List.range'_succ]
theorem low_h : lower [104] = [104] := by decide
theorem low_H : lower [72] = [104] := by decide
theorem ps_none (a n i : Nat) (h : i < a ∨ a + n ≤ i) : (ps a n).findIdx? (keyIs i [104]) = none := by
  rw [List.findIdx?_eq_none_iff]
  intro x hx
  simp only [ps, List.mem_map, List.mem_range'_1] at hx
  obtain ⟨j, hj, rfl⟩ := hx
  have : ¬ ((j : Int) = (i : Int)) := by omega
  simp [keyIs, pj, this]
theorem ps_some (a n i : Nat) (h : a ≤ i) (h2 : i < a + n) : (ps a n).findIdx? (keyIs i [104]) = some (i - a) := by
  rw [List.findIdx?_eq_some_iff_getElem]
  refine ⟨by rw [ps_length]; omega, ?_, ?_⟩
  · have : a + (i - a) = i := by omega
    simp [ps, keyIs, pj, this]
  · intro j hj
    have : ¬ ((a : Int) + (j : Int) = (i : Int)) := by omega
    simp [ps, keyIs, pj, this]

theorem set_room (M i : Nat) (h1 : 1 ≤ M) (h2 : M ≤ 64) :
    ACalls Try.prog 10 [.ptr 0 0, .int .i64 i, .str [104], .int .i64 i] (BH M (decide (0 < i)) (ps (i - M) (min i M)) [])
      (fun r h => r = .ret (.tup [.agg [.int .i64 (if M ≤ i then ((i - M : Nat) : Int) else 0), .str (if M ≤ i then [104] else [])], .bool (decide (M ≤ i))]) ∧ h = SH M (ps (i + 1 - M) (min (i + 1) M))) := by
  rcases Nat.eq_zero_or_pos i with rfl | hi
  · have e : ps (0 - M) (min 0 M) = [] := by simp [ps]
    have e2 : ps (0 + 1 - M) (min (0 + 1) M) = [pj 0] := by
      have e3 : 0 + 1 - M = 0 := by omega
      have e4 : min (0 + 1) M = 1 := by omega
      rw [e3, e4]; rfl
    have hM : ¬ M ≤ 0 := by omega
    rw [e, e2]
    simp only [Nat.lt_irrefl, decide_false, hM, if_false]
    have := set_nil (M : Int) (by omega) [] noId_nil ((0 : Nat) : Int) [104] (by decide) ((0 : Nat) : Int)
    rw [low_h] at this
    exact this
  · simp only [hi, decide_true]
    by_cases hM : M ≤ i
    · have e : ps (i - M) (min i M) = pj (i - M) :: ps (i - M + 1) (M - 1) := by
        rw [← ps_cons]; congr 1; omega
      have e2 : ps (i - M + 1) (M - 1) ++ [pj i] = ps (i + 1 - M) (min (i + 1) M) := by
        have e3 : i = i - M + 1 + (M - 1) := by omega
        have e4 : pj i = pj (i - M + 1 + (M - 1)) := by rw [← e3]
        rw [e4, ps_snoc]; congr 1 <;> omega
      have hn := ps_none (i - M) (min i M) i (by omega)
      rw [e] at hn ⊢
      rw [← e2]
      have := set_full (ps (i - M + 1) (M - 1)) (pj (i - M)) [] noId_nil (by rw [ps_length]; omega) (i : Int) [104] (by decide) (i : Int) (by rw [low_h]; exact hn)
      have e5 : (ps (i - M + 1) (M - 1)).length + 1 = M := by rw [ps_length]; omega
      rw [low_h, e5] at this
      simp only [hM, if_true, decide_true]
      exact this
    · have e2 : ps (i - M) (min i M) ++ [pj i] = ps (i + 1 - M) (min (i + 1) M) := by
        have e3 : pj i = pj (i - M + min i M) := by congr 1; omega
        rw [e3, ps_snoc]; congr 1 <;> omega
      have := set_more M (ps (i - M) (min i M)) [] noId_nil (by rw [ps_length]; omega) (by rw [ps_length]; omega) (i : Int) [104] (by decide) (i : Int) (by rw [low_h]; exact ps_none _ _ i (by omega))
      rw [← e2]
      rw [low_h] at this
      simp only [hM, if_false, decide_false]
      exact this

set_option maxHeartbeats 8000000 in
theorem room_c (room n : Int) (hn : -9223372036854775808 ≤ n) (hn2 : n ≤ 9223372036854775807) : ACalls Try.prog 3 [.int .i64 room, .int .i64 n] [] (fun r h => r = .ret (.bool true) ∧ h = []) := by
  obtain ⟨M, hM1, hM2, hM⟩ : ∃ M : Nat, 1 ≤ M ∧ M ≤ 64 ∧ min (max room 1) 64 = (M : Int) := ⟨(min (max room 1) 64).toNat, by omega, by omega, by omega⟩
  have a0 := arnd_nonneg n 101 (by decide)
  have a1 := arnd_lt n 101 (by decide)
  obtain ⟨n', hn'⟩ : ∃ n' : Nat, arnd n 101 = (n' : Int) := ⟨(arnd n 101).toNat, by omega⟩
  have e : (if 64 < (if 1 > room then 1 else room) then 64 else (if 1 > room then 1 else room)) = (M : Int) := by
    rw [← hM]
    simp only [Int.min_def, Int.max_def]
    repeat' split
    all_goals omega
  refine acalls_body Try.func3 rfl (by decide +kernel) ?_
  simp only [List.length_nil, List.length_cons, List.length_append, Nat.zero_add, Try.ntmps3, List.replicate, List.cons_append, List.nil_append, List.append_assoc, Nat.reduceSub, Nat.reduceAdd]
  refine aW_reg fun N hN => ?_
  simp (config := {maxSteps := 10000000}) only [go_sem, Nat.reduceAdd, Nat.reduceSub, Nat.reduceMul, Nat.reduceLT, Nat.reduceLeDiff, Nat.lt_irrefl, Nat.le_refl, List.getElem?_toArray, bne_self_eq_false, Int.le_refl, Int.reduceLE, Int.reduceLT, Int.toNat_zero, Nat.zero_mul, List.all_cons, List.all_nil, Bool.and_self, Bool.and_true, Bool.true_and, Nat.reduceEqDiff, Nat.one_ne_zero, true_and, and_true, and_self, List.drop_succ_cons, List.drop_nil, List.take_succ_cons, List.take_nil]
  refine hN _ _ ?_; clear hN N
  refine aW_reg fun N hN => ?_
  simp (config := {maxSteps := 10000000}) only [go_sem, Nat.reduceAdd, Nat.reduceSub, Nat.reduceMul, Nat.reduceLT, Nat.reduceLeDiff, Nat.lt_irrefl, Nat.le_refl, List.getElem?_toArray, bne_self_eq_false, Int.le_refl, Int.reduceLE, Int.reduceLT, Int.toNat_zero, Nat.zero_mul, List.all_cons, List.all_nil, Bool.and_self, Bool.and_true, Bool.true_and, Nat.reduceEqDiff, Nat.one_ne_zero, true_and, and_true, and_self, List.drop_succ_cons, List.drop_nil, List.take_succ_cons, List.take_nil]
  refine (new_c room).mono ?_
  rintro r h' ⟨rfl, rfl⟩
  rw [hM]
  simp (config := {maxSteps := 10000000}) only [go_sem, Nat.reduceAdd, Nat.reduceSub, Nat.reduceMul, Nat.reduceLT, Nat.reduceLeDiff, Nat.lt_irrefl, Nat.le_refl, List.getElem?_toArray, bne_self_eq_false, Int.le_refl, Int.reduceLE, Int.reduceLT, Int.toNat_zero, Nat.zero_mul, List.all_cons, List.all_nil, Bool.and_self, Bool.and_true, Bool.true_and, Nat.reduceEqDiff, Nat.one_ne_zero, true_and, and_true, and_self, List.drop_succ_cons, List.drop_nil, List.take_succ_cons, List.take_nil]
  refine hN _ _ ?_; clear hN N
  refine aW_grow (by simp) ?_
  refine aW_seq_k fun N hN => ?_
  refine aW_reg fun N hN => ?_
  simp (config := {maxSteps := 10000000}) only [go_sem, Nat.reduceAdd, Nat.reduceSub, Nat.reduceMul, Nat.reduceLT, Nat.reduceLeDiff, Nat.lt_irrefl, Nat.le_refl, List.getElem?_toArray, bne_self_eq_false, Int.le_refl, Int.reduceLE, Int.reduceLT, Int.toNat_zero, Nat.zero_mul, List.all_cons, List.all_nil, Bool.and_self, Bool.and_true, Bool.true_and, Nat.reduceEqDiff, Nat.one_ne_zero, true_and, and_true, and_self, List.drop_succ_cons, List.drop_nil, List.take_succ_cons, List.take_nil]
  refine hN _ _ ?_; clear hN N
  refine aW_cond (b := false) (by simp only [go_sem]) (fun h => by cases h) (fun _ => aW_skip ?_)
  refine hN _ _ ?_; clear hN N
  refine aW_reg fun N hN => ?_
  simp (config := {maxSteps := 10000000}) only [go_sem, Nat.reduceAdd, Nat.reduceSub, Nat.reduceMul, Nat.reduceLT, Nat.reduceLeDiff, Nat.lt_irrefl, Nat.le_refl, List.getElem?_toArray, bne_self_eq_false, Int.le_refl, Int.reduceLE, Int.reduceLT, Int.toNat_zero, Nat.zero_mul, List.all_cons, List.all_nil, Bool.and_self, Bool.and_true, Bool.true_and, Nat.reduceEqDiff, Nat.one_ne_zero, true_and, and_true, and_self, List.drop_succ_cons, List.drop_nil, List.take_succ_cons, List.take_nil, e]
  refine hN _ _ ?_; clear hN N
  refine aW_reg fun N hN => ?_
  simp (config := {maxSteps := 10000000}) only [go_sem, Nat.reduceAdd, Nat.reduceSub, Nat.reduceMul, Nat.reduceLT, Nat.reduceLeDiff, Nat.lt_irrefl, Nat.le_refl, List.getElem?_toArray, bne_self_eq_false, Int.le_refl, Int.reduceLE, Int.reduceLT, Int.toNat_zero, Nat.zero_mul, List.all_cons, List.all_nil, Bool.and_self, Bool.and_true, Bool.true_and, Nat.reduceEqDiff, Nat.one_ne_zero, true_and, and_true, and_self, List.drop_succ_cons, List.drop_nil, List.take_succ_cons, List.take_nil]
  refine (around_c n 101 (by decide) (by decide) hn hn2).plain rfl rfl ?_
  rw [hn']
  simp (config := {maxSteps := 10000000}) only [go_sem, Nat.reduceAdd, Nat.reduceSub, Nat.reduceMul, Nat.reduceLT, Nat.reduceLeDiff, Nat.lt_irrefl, Nat.le_refl, List.getElem?_toArray, bne_self_eq_false, Int.le_refl, Int.reduceLE, Int.reduceLT, Int.toNat_zero, Nat.zero_mul, List.all_cons, List.all_nil, Bool.and_self, Bool.and_true, Bool.true_and, Nat.reduceEqDiff, Nat.one_ne_zero, true_and, and_true, and_self, List.drop_succ_cons, List.drop_nil, List.take_succ_cons, List.take_nil]
  refine hN _ _ ?_; clear hN N
  refine aW_seq_k fun N hN => ?_
  refine aW_reg fun N hN => ?_
  simp (config := {maxSteps := 10000000}) only [go_sem, Nat.reduceAdd, Nat.reduceSub, Nat.reduceMul, Nat.reduceLT, Nat.reduceLeDiff, Nat.lt_irrefl, Nat.le_refl, List.getElem?_toArray, bne_self_eq_false, Int.le_refl, Int.reduceLE, Int.reduceLT, Int.toNat_zero, Nat.zero_mul, List.all_cons, List.all_nil, Bool.and_self, Bool.and_true, Bool.true_and, Nat.reduceEqDiff, Nat.one_ne_zero, true_and, and_true, and_self, List.drop_succ_cons, List.drop_nil, List.take_succ_cons, List.take_nil]
  refine hN _ _ ?_; clear hN N
  have n0' : n' < 101 := by omega
  refine aW_forget ((.unk :: .int .i64 n' :: .unk :: .unk :: .unk :: .ptr 0 0 :: .int .i64 M :: .int .i64 ((0 : Nat) : Int) :: .unk :: .unk :: .unk :: .unk :: .unk :: .unk :: .unk :: .unk :: .unk :: .unk :: .unk :: .unk :: .unk :: .unk :: .unk :: .unk :: .unk :: .unk :: .unk :: .unk :: .unk :: .unk :: .unk :: .unk :: .unk :: .unk :: .unk :: .unk :: .unk :: .unk :: .unk :: .unk :: .unk :: .unk :: .unk :: .unk :: .unk :: .unk :: .unk :: .unk :: .unk :: .unk :: .unk :: .unk :: .unk :: .unk :: .unk :: .unk :: .unk :: .unk :: .unk :: .unk :: .unk :: .unk :: .unk :: .unk :: .unk :: .unk :: .unk :: .unk :: .unk :: .unk :: .unk :: .unk :: .unk :: .unk :: .unk :: .unk :: .unk :: .unk :: .unk :: .unk :: .unk :: .unk :: .unk :: .unk :: .unk :: .unk :: .unk :: .unk :: .unk :: .unk :: .unk :: [])) (by simp [LeU]) fun _ => ?_
  refine aW_block (aW_loop (fun m T h => ∃ i : Nat, i ≤ n' ∧ m = n' - i ∧ T = ((.unk :: .int .i64 n' :: .unk :: .unk :: .unk :: .ptr 0 0 :: .int .i64 M :: .int .i64 (i : Int) :: .unk :: .unk :: .unk :: .unk :: .unk :: .unk :: .unk :: .unk :: .unk :: .unk :: .unk :: .unk :: .unk :: .unk :: .unk :: .unk :: .unk :: .unk :: .unk :: .unk :: .unk :: .unk :: .unk :: .unk :: .unk :: .unk :: .unk :: .unk :: .unk :: .unk :: .unk :: .unk :: .unk :: .unk :: .unk :: .unk :: .unk :: .unk :: .unk :: .unk :: .unk :: .unk :: .unk :: .unk :: .unk :: .unk :: .unk :: .unk :: .unk :: .unk :: .unk :: .unk :: .unk :: .unk :: .unk :: .unk :: .unk :: .unk :: .unk :: .unk :: .unk :: .unk :: .unk :: .unk :: .unk :: .unk :: .unk :: .unk :: .unk :: .unk :: .unk :: .unk :: .unk :: .unk :: .unk :: .unk :: .unk :: .unk :: .unk :: .unk :: .unk :: .unk :: .unk :: [])) ∧ h = BH M (decide (0 < i)) (ps (i - M) (min i M)) []) n' ⟨0, Nat.zero_le _, rfl, rfl, by simp [BH, bS, bR]⟩ ?_)
  rintro m T h _ ⟨i, hi, rfl, rfl, rfl⟩
  by_cases hlt : i < n'
  · have hd : decide ((i : Int) < (n' : Int)) = true := by simpa using hlt
    have hw1 : IntKind.i64.wrap ((i : Int) + 1) = ((i + 1 : Nat) : Int) := by rw [IntWalk.i64_in _ (by omega)]; simp
    have hlen : (ps (i + 1 - M) (min (i + 1) M)).length = min (i + 1) M := ps_length _ _
    have hmin : (if (M : Int) < ((i + 1 : Nat) : Int) then (M : Int) else ((i + 1 : Nat) : Int)) = ((min (i + 1) M : Nat) : Int) := by split <;> omega
    have hlen2 := len_c (M : Int) true (ps (i + 1 - M) (min (i + 1) M)) [] (fun h => by cases h)
    have hset := set_room M i hM1 hM2
    have hdd : decide (0 < i + 1) = true := by simp
    refine aW_seq_k fun N hN => ?_
    refine aW_reg fun N hN => ?_
    simp (config := {maxSteps := 10000000}) only [go_sem, Nat.reduceAdd, Nat.reduceSub, Nat.reduceMul, Nat.reduceLT, Nat.reduceLeDiff, Nat.lt_irrefl, Nat.le_refl, List.getElem?_toArray, bne_self_eq_false, Int.le_refl, Int.reduceLE, Int.reduceLT, Int.toNat_zero, Nat.zero_mul, List.all_cons, List.all_nil, Bool.and_self, Bool.and_true, Bool.true_and, Nat.reduceEqDiff, Nat.one_ne_zero, true_and, and_true, and_self, List.drop_succ_cons, List.drop_nil, List.take_succ_cons, List.take_nil, hd]
    refine hN _ _ ?_; clear hN N
    refine aW_cond (b := true) rfl (fun _ => aW_skip ?_) (fun h => by cases h)
    refine hN _ _ ?_; clear hN N
    refine aW_seq_k fun N hN => ?_
    refine aW_block ?_
    by_cases hMi : M ≤ i
    · simp only [hMi, if_true, decide_true] at hset
      refine aW_reg fun N hN => ?_
      simp (config := {maxSteps := 10000000}) only [go_sem, Nat.reduceAdd, Nat.reduceSub, Nat.reduceMul, Nat.reduceLT, Nat.reduceLeDiff, Nat.lt_irrefl, Nat.le_refl, List.getElem?_toArray, bne_self_eq_false, Int.le_refl, Int.reduceLE, Int.reduceLT, Int.toNat_zero, Nat.zero_mul, List.all_cons, List.all_nil, Bool.and_self, Bool.and_true, Bool.true_and, Nat.reduceEqDiff, Nat.one_ne_zero, true_and, and_true, and_self, List.drop_succ_cons, List.drop_nil, List.take_succ_cons, List.take_nil]
      refine hset.mono ?_
      rintro r h' ⟨rfl, rfl⟩
      simp (config := {maxSteps := 10000000}) only [go_sem, Nat.reduceAdd, Nat.reduceSub, Nat.reduceMul, Nat.reduceLT, Nat.reduceLeDiff, Nat.lt_irrefl, Nat.le_refl, List.getElem?_toArray, bne_self_eq_false, Int.le_refl, Int.reduceLE, Int.reduceLT, Int.toNat_zero, Nat.zero_mul, List.all_cons, List.all_nil, Bool.and_self, Bool.and_true, Bool.true_and, Nat.reduceEqDiff, Nat.one_ne_zero, true_and, and_true, and_self, List.drop_succ_cons, List.drop_nil, List.take_succ_cons, List.take_nil, SH]
      refine hN _ _ ?_; clear hN N
      have hge : decide ((i : Int) ≥ (M : Int)) = true := by simp; omega
      have hw2 : IntKind.i64.wrap ((i : Int) - (M : Int)) = ((i - M : Nat) : Int) := by rw [IntWalk.i64_in _ (by omega)]; omega
      refine aW_reg fun N hN => ?_
      simp (config := {maxSteps := 10000000}) only [go_sem, Nat.reduceAdd, Nat.reduceSub, Nat.reduceMul, Nat.reduceLT, Nat.reduceLeDiff, Nat.lt_irrefl, Nat.le_refl, List.getElem?_toArray, bne_self_eq_false, Int.le_refl, Int.reduceLE, Int.reduceLT, Int.toNat_zero, Nat.zero_mul, List.all_cons, List.all_nil, Bool.and_self, Bool.and_true, Bool.true_and, Nat.reduceEqDiff, Nat.one_ne_zero, true_and, and_true, and_self, List.drop_succ_cons, List.drop_nil, List.take_succ_cons, List.take_nil, hge, hw2]
      refine hlen2.frame [0, 2] [] rfl (by decide) (by simp) (by simp) ⟨.inl rfl, trivial⟩ (bh_blk rfl rfl rfl) ?_
      rintro r0 h0' _ ⟨rfl, rfl⟩
      refine ⟨.inl rfl, ?_⟩
      simp only [merge_bh]
      simp (config := {maxSteps := 10000000}) only [go_sem, Nat.reduceAdd, Nat.reduceSub, Nat.reduceMul, Nat.reduceLT, Nat.reduceLeDiff, Nat.lt_irrefl, Nat.le_refl, List.getElem?_toArray, bne_self_eq_false, Int.le_refl, Int.reduceLE, Int.reduceLT, Int.toNat_zero, Nat.zero_mul, List.all_cons, List.all_nil, Bool.and_self, Bool.and_true, Bool.true_and, Nat.reduceEqDiff, Nat.one_ne_zero, true_and, and_true, and_self, List.drop_succ_cons, List.drop_nil, List.take_succ_cons, List.take_nil, hw1, hmin, hlen]
      refine hN _ _ ?_; clear hN N
      refine aW_cond (b := false) (by simp only [go_sem]) (fun h => by cases h) (fun _ => aW_skip ?_)
      refine hN _ _ ?_; clear hN N
      refine aW_reg1 fun N hN => ?_
      simp (config := {maxSteps := 10000000}) only [go_sem, Nat.reduceAdd, Nat.reduceSub, Nat.reduceMul, Nat.reduceLT, Nat.reduceLeDiff, Nat.lt_irrefl, Nat.le_refl, List.getElem?_toArray, bne_self_eq_false, Int.le_refl, Int.reduceLE, Int.reduceLT, Int.toNat_zero, Nat.zero_mul, List.all_cons, List.all_nil, Bool.and_self, Bool.and_true, Bool.true_and, Nat.reduceEqDiff, Nat.one_ne_zero, true_and, and_true, and_self, List.drop_succ_cons, List.drop_nil, List.take_succ_cons, List.take_nil, hw1]
      refine hN _ _ ?_; clear hN N
      exact ⟨n' - (i + 1), _, _, _, by omega, Weak.lit [0, 2] (T0 := (.unk :: .int .i64 n' :: .unk :: .unk :: .unk :: .ptr 0 0 :: .int .i64 M :: .int .i64 ((i + 1 : Nat) : Int) :: .unk :: .unk :: .unk :: .unk :: .unk :: .unk :: .unk :: .unk :: .unk :: .unk :: .unk :: .unk :: .unk :: .unk :: .unk :: .unk :: .unk :: .unk :: .unk :: .unk :: .unk :: .unk :: .unk :: .unk :: .unk :: .unk :: .unk :: .unk :: .unk :: .unk :: .unk :: .unk :: .unk :: .unk :: .unk :: .unk :: .unk :: .unk :: .unk :: .unk :: .unk :: .unk :: .unk :: .unk :: .unk :: .unk :: .unk :: .unk :: .unk :: .unk :: .unk :: .unk :: .unk :: .unk :: .unk :: .unk :: .unk :: .unk :: .unk :: .unk :: .unk :: .unk :: .unk :: .unk :: .unk :: .unk :: .unk :: .unk :: .unk :: .unk :: .unk :: .unk :: .unk :: .unk :: .unk :: .unk :: .unk :: .unk :: .unk :: .unk :: .unk :: .unk :: .unk :: [])) (h0 := BH M (decide (0 < i + 1)) (ps (i + 1 - M) (min (i + 1) M)) []) (by simp [LeL, LeV, ren, pf]) (by rw [hdd]; exact keeps_sh _ _ _ _ (by rw [hlen]; rfl) rfl rfl) (by decide) (by decide), i + 1, hlt, rfl, rfl, rfl⟩
    · simp only [hMi, if_false, decide_false] at hset
      refine aW_reg fun N hN => ?_
      simp (config := {maxSteps := 10000000}) only [go_sem, Nat.reduceAdd, Nat.reduceSub, Nat.reduceMul, Nat.reduceLT, Nat.reduceLeDiff, Nat.lt_irrefl, Nat.le_refl, List.getElem?_toArray, bne_self_eq_false, Int.le_refl, Int.reduceLE, Int.reduceLT, Int.toNat_zero, Nat.zero_mul, List.all_cons, List.all_nil, Bool.and_self, Bool.and_true, Bool.true_and, Nat.reduceEqDiff, Nat.one_ne_zero, true_and, and_true, and_self, List.drop_succ_cons, List.drop_nil, List.take_succ_cons, List.take_nil]
      refine hset.mono ?_
      rintro r h' ⟨rfl, rfl⟩
      simp (config := {maxSteps := 10000000}) only [go_sem, Nat.reduceAdd, Nat.reduceSub, Nat.reduceMul, Nat.reduceLT, Nat.reduceLeDiff, Nat.lt_irrefl, Nat.le_refl, List.getElem?_toArray, bne_self_eq_false, Int.le_refl, Int.reduceLE, Int.reduceLT, Int.toNat_zero, Nat.zero_mul, List.all_cons, List.all_nil, Bool.and_self, Bool.and_true, Bool.true_and, Nat.reduceEqDiff, Nat.one_ne_zero, true_and, and_true, and_self, List.drop_succ_cons, List.drop_nil, List.take_succ_cons, List.take_nil, SH]
      refine hN _ _ ?_; clear hN N
      have hge : decide ((i : Int) ≥ (M : Int)) = false := by simp; omega
      refine aW_reg fun N hN => ?_
      simp (config := {maxSteps := 10000000}) only [go_sem, Nat.reduceAdd, Nat.reduceSub, Nat.reduceMul, Nat.reduceLT, Nat.reduceLeDiff, Nat.lt_irrefl, Nat.le_refl, List.getElem?_toArray, bne_self_eq_false, Int.le_refl, Int.reduceLE, Int.reduceLT, Int.toNat_zero, Nat.zero_mul, List.all_cons, List.all_nil, Bool.and_self, Bool.and_true, Bool.true_and, Nat.reduceEqDiff, Nat.one_ne_zero, true_and, and_true, and_self, List.drop_succ_cons, List.drop_nil, List.take_succ_cons, List.take_nil, hge]
      refine hlen2.frame [0, 2] [] rfl (by decide) (by simp) (by simp) ⟨.inl rfl, trivial⟩ (bh_blk rfl rfl rfl) ?_
      rintro r0 h0' _ ⟨rfl, rfl⟩
      refine ⟨.inl rfl, ?_⟩
      simp only [merge_bh]
      simp (config := {maxSteps := 10000000}) only [go_sem, Nat.reduceAdd, Nat.reduceSub, Nat.reduceMul, Nat.reduceLT, Nat.reduceLeDiff, Nat.lt_irrefl, Nat.le_refl, List.getElem?_toArray, bne_self_eq_false, Int.le_refl, Int.reduceLE, Int.reduceLT, Int.toNat_zero, Nat.zero_mul, List.all_cons, List.all_nil, Bool.and_self, Bool.and_true, Bool.true_and, Nat.reduceEqDiff, Nat.one_ne_zero, true_and, and_true, and_self, List.drop_succ_cons, List.drop_nil, List.take_succ_cons, List.take_nil, hw1, hmin, hlen]
      refine hN _ _ ?_; clear hN N
      refine aW_cond (b := false) (by simp only [go_sem]) (fun h => by cases h) (fun _ => aW_skip ?_)
      refine hN _ _ ?_; clear hN N
      refine aW_reg1 fun N hN => ?_
      simp (config := {maxSteps := 10000000}) only [go_sem, Nat.reduceAdd, Nat.reduceSub, Nat.reduceMul, Nat.reduceLT, Nat.reduceLeDiff, Nat.lt_irrefl, Nat.le_refl, List.getElem?_toArray, bne_self_eq_false, Int.le_refl, Int.reduceLE, Int.reduceLT, Int.toNat_zero, Nat.zero_mul, List.all_cons, List.all_nil, Bool.and_self, Bool.and_true, Bool.true_and, Nat.reduceEqDiff, Nat.one_ne_zero, true_and, and_true, and_self, List.drop_succ_cons, List.drop_nil, List.take_succ_cons, List.take_nil, hw1]
      refine hN _ _ ?_; clear hN N
      exact ⟨n' - (i + 1), _, _, _, by omega, Weak.lit [0, 2] (T0 := (.unk :: .int .i64 n' :: .unk :: .unk :: .unk :: .ptr 0 0 :: .int .i64 M :: .int .i64 ((i + 1 : Nat) : Int) :: .unk :: .unk :: .unk :: .unk :: .unk :: .unk :: .unk :: .unk :: .unk :: .unk :: .unk :: .unk :: .unk :: .unk :: .unk :: .unk :: .unk :: .unk :: .unk :: .unk :: .unk :: .unk :: .unk :: .unk :: .unk :: .unk :: .unk :: .unk :: .unk :: .unk :: .unk :: .unk :: .unk :: .unk :: .unk :: .unk :: .unk :: .unk :: .unk :: .unk :: .unk :: .unk :: .unk :: .unk :: .unk :: .unk :: .unk :: .unk :: .unk :: .unk :: .unk :: .unk :: .unk :: .unk :: .unk :: .unk :: .unk :: .unk :: .unk :: .unk :: .unk :: .unk :: .unk :: .unk :: .unk :: .unk :: .unk :: .unk :: .unk :: .unk :: .unk :: .unk :: .unk :: .unk :: .unk :: .unk :: .unk :: .unk :: .unk :: .unk :: .unk :: .unk :: .unk :: [])) (h0 := BH M (decide (0 < i + 1)) (ps (i + 1 - M) (min (i + 1) M)) []) (by simp [LeL, LeV, ren, pf]) (by rw [hdd]; exact keeps_sh _ _ _ _ (by rw [hlen]; rfl) rfl rfl) (by decide) (by decide), i + 1, hlt, rfl, rfl, rfl⟩
  · have hd : decide ((i : Int) < (n' : Int)) = false := by simp; omega
    obtain rfl : i = n' := by omega
    refine aW_seq_k fun N hN => ?_
    refine aW_reg fun N hN => ?_
    simp (config := {maxSteps := 10000000}) only [go_sem, Nat.reduceAdd, Nat.reduceSub, Nat.reduceMul, Nat.reduceLT, Nat.reduceLeDiff, Nat.lt_irrefl, Nat.le_refl, List.getElem?_toArray, bne_self_eq_false, Int.le_refl, Int.reduceLE, Int.reduceLT, Int.toNat_zero, Nat.zero_mul, List.all_cons, List.all_nil, Bool.and_self, Bool.and_true, Bool.true_and, Nat.reduceEqDiff, Nat.one_ne_zero, true_and, and_true, and_self, List.drop_succ_cons, List.drop_nil, List.take_succ_cons, List.take_nil, hd]
    refine hN _ _ ?_; clear hN N
    refine aW_cond (b := false) rfl (fun h => by cases h) (fun _ => aW_exit ?_)
    simp only [go_sem]
    clear hN N
    refine hN _ _ ?_; clear hN N
    have hnl : (ps (i - M) (min i M)).length ≤ 1000 := by rw [ps_length]; omega
    have hg0 : decide (0 < i) = false → ps (i - M) (min i M) = [] := by
      intro h
      have : i = 0 := by simpa using h
      subst this
      simp [ps]
    refine aW_seq_k fun N hN => ?_
    refine aW_reg fun N hN => ?_
    simp (config := {maxSteps := 10000000}) only [go_sem, Nat.reduceAdd, Nat.reduceSub, Nat.reduceMul, Nat.reduceLT, Nat.reduceLeDiff, Nat.lt_irrefl, Nat.le_refl, List.getElem?_toArray, bne_self_eq_false, Int.le_refl, Int.reduceLE, Int.reduceLT, Int.toNat_zero, Nat.zero_mul, List.all_cons, List.all_nil, Bool.and_self, Bool.and_true, Bool.true_and, Nat.reduceEqDiff, Nat.one_ne_zero, true_and, and_true, and_self, List.drop_succ_cons, List.drop_nil, List.take_succ_cons, List.take_nil]
    refine hN _ _ ?_; clear hN N
    refine aW_forget ((.unk :: .int .i64 i :: .unk :: .unk :: .unk :: .ptr 0 0 :: .int .i64 M :: .unk :: .unk :: .unk :: .int .i64 ((0 : Nat) : Int) :: .unk :: .unk :: .unk :: .unk :: .unk :: .unk :: .unk :: .unk :: .unk :: .unk :: .unk :: .unk :: .unk :: .unk :: .unk :: .unk :: .unk :: .unk :: .unk :: .unk :: .unk :: .unk :: .unk :: .unk :: .unk :: .unk :: .unk :: .unk :: .unk :: .unk :: .unk :: .unk :: .unk :: .unk :: .unk :: .unk :: .unk :: .unk :: .unk :: .unk :: .unk :: .unk :: .unk :: .unk :: .unk :: .unk :: .unk :: .unk :: .unk :: .unk :: .unk :: .unk :: .unk :: .unk :: .unk :: .unk :: .unk :: .unk :: .unk :: .unk :: .unk :: .unk :: .unk :: .unk :: .unk :: .unk :: .unk :: .unk :: .unk :: .unk :: .unk :: .unk :: .unk :: .unk :: .unk :: .unk :: .unk :: .unk :: .unk :: .unk :: [])) (by simp [LeU]) fun _ => ?_
    refine aW_block (aW_loop (fun m T h => ∃ j : Nat, j ≤ i ∧ m = i - j ∧ T = ((.unk :: .int .i64 i :: .unk :: .unk :: .unk :: .ptr 0 0 :: .int .i64 M :: .unk :: .unk :: .unk :: .int .i64 (j : Int) :: .unk :: .unk :: .unk :: .unk :: .unk :: .unk :: .unk :: .unk :: .unk :: .unk :: .unk :: .unk :: .unk :: .unk :: .unk :: .unk :: .unk :: .unk :: .unk :: .unk :: .unk :: .unk :: .unk :: .unk :: .unk :: .unk :: .unk :: .unk :: .unk :: .unk :: .unk :: .unk :: .unk :: .unk :: .unk :: .unk :: .unk :: .unk :: .unk :: .unk :: .unk :: .unk :: .unk :: .unk :: .unk :: .unk :: .unk :: .unk :: .unk :: .unk :: .unk :: .unk :: .unk :: .unk :: .unk :: .unk :: .unk :: .unk :: .unk :: .unk :: .unk :: .unk :: .unk :: .unk :: .unk :: .unk :: .unk :: .unk :: .unk :: .unk :: .unk :: .unk :: .unk :: .unk :: .unk :: .unk :: .unk :: .unk :: .unk :: .unk :: [])) ∧ h = BH M (decide (0 < i)) (ps (i - M) (min i M)) []) i ⟨0, Nat.zero_le _, rfl, rfl, rfl⟩ ?_)
    rintro m T h _ ⟨j, hj, rfl, rfl, rfl⟩
    by_cases hlt : j < i
    · have hd : decide ((j : Int) < (i : Int)) = true := by simpa using hlt
      have hw1 : IntKind.i64.wrap ((j : Int) + 1) = ((j + 1 : Nat) : Int) := by rw [IntWalk.i64_in _ (by omega)]; simp
      have hw2 : IntKind.i64.wrap ((i : Int) - (M : Int)) = (i : Int) - (M : Int) := IntWalk.i64_in _ (by omega)
      have hget := get_c (M : Int) (decide (0 < i)) (ps (i - M) (min i M)) [] hg0 noId_nil hnl (j : Int) [72] (by decide)
      refine aW_seq_k fun N hN => ?_
      refine aW_reg fun N hN => ?_
      simp (config := {maxSteps := 10000000}) only [go_sem, Nat.reduceAdd, Nat.reduceSub, Nat.reduceMul, Nat.reduceLT, Nat.reduceLeDiff, Nat.lt_irrefl, Nat.le_refl, List.getElem?_toArray, bne_self_eq_false, Int.le_refl, Int.reduceLE, Int.reduceLT, Int.toNat_zero, Nat.zero_mul, List.all_cons, List.all_nil, Bool.and_self, Bool.and_true, Bool.true_and, Nat.reduceEqDiff, Nat.one_ne_zero, true_and, and_true, and_self, List.drop_succ_cons, List.drop_nil, List.take_succ_cons, List.take_nil, hd]
      refine hN _ _ ?_; clear hN N
      refine aW_cond (b := true) rfl (fun _ => aW_skip ?_) (fun h => by cases h)
      refine hN _ _ ?_; clear hN N
      refine aW_seq_k fun N hN => ?_
      refine aW_block ?_
      by_cases hMj : i - M ≤ j
      · have hp : pGet (ps (i - M) (min i M)) (j : Int) [72] = ((j : Int), true) := by
          have e1 : j - (i - M) < min i M := by omega
          have e2 : i - M + (j - (i - M)) = j := by omega
          rw [pGet, low_H, ps_some (i - M) (min i M) j hMj (by omega)]
          simp [ps, pj, e1, e2]
        rw [hp] at hget
        have hge : decide ((j : Int) ≥ (i : Int) - (M : Int)) = true := by simp; omega
        refine aW_reg fun N hN => ?_
        simp (config := {maxSteps := 10000000}) only [go_sem, Nat.reduceAdd, Nat.reduceSub, Nat.reduceMul, Nat.reduceLT, Nat.reduceLeDiff, Nat.lt_irrefl, Nat.le_refl, List.getElem?_toArray, bne_self_eq_false, Int.le_refl, Int.reduceLE, Int.reduceLT, Int.toNat_zero, Nat.zero_mul, List.all_cons, List.all_nil, Bool.and_self, Bool.and_true, Bool.true_and, Nat.reduceEqDiff, Nat.one_ne_zero, true_and, and_true, and_self, List.drop_succ_cons, List.drop_nil, List.take_succ_cons, List.take_nil]
        refine hget.mono ?_
        rintro r h' ⟨rfl, rfl⟩
        simp (config := {maxSteps := 10000000}) only [go_sem, Nat.reduceAdd, Nat.reduceSub, Nat.reduceMul, Nat.reduceLT, Nat.reduceLeDiff, Nat.lt_irrefl, Nat.le_refl, List.getElem?_toArray, bne_self_eq_false, Int.le_refl, Int.reduceLE, Int.reduceLT, Int.toNat_zero, Nat.zero_mul, List.all_cons, List.all_nil, Bool.and_self, Bool.and_true, Bool.true_and, Nat.reduceEqDiff, Nat.one_ne_zero, true_and, and_true, and_self, List.drop_succ_cons, List.drop_nil, List.take_succ_cons, List.take_nil]
        refine hN _ _ ?_; clear hN N
        refine aW_reg fun N hN => ?_
        simp (config := {maxSteps := 10000000}) only [go_sem, Nat.reduceAdd, Nat.reduceSub, Nat.reduceMul, Nat.reduceLT, Nat.reduceLeDiff, Nat.lt_irrefl, Nat.le_refl, List.getElem?_toArray, bne_self_eq_false, Int.le_refl, Int.reduceLE, Int.reduceLT, Int.toNat_zero, Nat.zero_mul, List.all_cons, List.all_nil, Bool.and_self, Bool.and_true, Bool.true_and, Nat.reduceEqDiff, Nat.one_ne_zero, true_and, and_true, and_self, List.drop_succ_cons, List.drop_nil, List.take_succ_cons, List.take_nil, hge, hw2]
        refine hN _ _ ?_; clear hN N
        refine aW_cond (b := false) (by simp only [go_sem]) (fun h => by cases h) (fun _ => aW_skip ?_)
        refine hN _ _ ?_; clear hN N
        refine aW_reg1 fun N hN => ?_
        simp (config := {maxSteps := 10000000}) only [go_sem, Nat.reduceAdd, Nat.reduceSub, Nat.reduceMul, Nat.reduceLT, Nat.reduceLeDiff, Nat.lt_irrefl, Nat.le_refl, List.getElem?_toArray, bne_self_eq_false, Int.le_refl, Int.reduceLE, Int.reduceLT, Int.toNat_zero, Nat.zero_mul, List.all_cons, List.all_nil, Bool.and_self, Bool.and_true, Bool.true_and, Nat.reduceEqDiff, Nat.one_ne_zero, true_and, and_true, and_self, List.drop_succ_cons, List.drop_nil, List.take_succ_cons, List.take_nil, hw1]
        refine hN _ _ ?_; clear hN N
        exact ⟨i - (j + 1), _, _, _, by omega, Weak.forget (T0 := (.unk :: .int .i64 i :: .unk :: .unk :: .unk :: .ptr 0 0 :: .int .i64 M :: .unk :: .unk :: .unk :: .int .i64 ((j + 1 : Nat) : Int) :: .unk :: .unk :: .unk :: .unk :: .unk :: .unk :: .unk :: .unk :: .unk :: .unk :: .unk :: .unk :: .unk :: .unk :: .unk :: .unk :: .unk :: .unk :: .unk :: .unk :: .unk :: .unk :: .unk :: .unk :: .unk :: .unk :: .unk :: .unk :: .unk :: .unk :: .unk :: .unk :: .unk :: .unk :: .unk :: .unk :: .unk :: .unk :: .unk :: .unk :: .unk :: .unk :: .unk :: .unk :: .unk :: .unk :: .unk :: .unk :: .unk :: .unk :: .unk :: .unk :: .unk :: .unk :: .unk :: .unk :: .unk :: .unk :: .unk :: .unk :: .unk :: .unk :: .unk :: .unk :: .unk :: .unk :: .unk :: .unk :: .unk :: .unk :: .unk :: .unk :: .unk :: .unk :: .unk :: .unk :: .unk :: .unk :: .unk :: .unk :: [])) (by simp [LeU]) (Nat.zero_le _), j + 1, hlt, rfl, rfl, rfl⟩
      · have hp : pGet (ps (i - M) (min i M)) (j : Int) [72] = (0, false) := by
          rw [pGet, low_H, ps_none (i - M) (min i M) j (by omega)]
        rw [hp] at hget
        have hge : decide ((j : Int) ≥ (i : Int) - (M : Int)) = false := by simp; omega
        refine aW_reg fun N hN => ?_
        simp (config := {maxSteps := 10000000}) only [go_sem, Nat.reduceAdd, Nat.reduceSub, Nat.reduceMul, Nat.reduceLT, Nat.reduceLeDiff, Nat.lt_irrefl, Nat.le_refl, List.getElem?_toArray, bne_self_eq_false, Int.le_refl, Int.reduceLE, Int.reduceLT, Int.toNat_zero, Nat.zero_mul, List.all_cons, List.all_nil, Bool.and_self, Bool.and_true, Bool.true_and, Nat.reduceEqDiff, Nat.one_ne_zero, true_and, and_true, and_self, List.drop_succ_cons, List.drop_nil, List.take_succ_cons, List.take_nil]
        refine hget.mono ?_
        rintro r h' ⟨rfl, rfl⟩
        simp (config := {maxSteps := 10000000}) only [go_sem, Nat.reduceAdd, Nat.reduceSub, Nat.reduceMul, Nat.reduceLT, Nat.reduceLeDiff, Nat.lt_irrefl, Nat.le_refl, List.getElem?_toArray, bne_self_eq_false, Int.le_refl, Int.reduceLE, Int.reduceLT, Int.toNat_zero, Nat.zero_mul, List.all_cons, List.all_nil, Bool.and_self, Bool.and_true, Bool.true_and, Nat.reduceEqDiff, Nat.one_ne_zero, true_and, and_true, and_self, List.drop_succ_cons, List.drop_nil, List.take_succ_cons, List.take_nil]
        refine hN _ _ ?_; clear hN N
        refine aW_reg fun N hN => ?_
        simp (config := {maxSteps := 10000000}) only [go_sem, Nat.reduceAdd, Nat.reduceSub, Nat.reduceMul, Nat.reduceLT, Nat.reduceLeDiff, Nat.lt_irrefl, Nat.le_refl, List.getElem?_toArray, bne_self_eq_false, Int.le_refl, Int.reduceLE, Int.reduceLT, Int.toNat_zero, Nat.zero_mul, List.all_cons, List.all_nil, Bool.and_self, Bool.and_true, Bool.true_and, Nat.reduceEqDiff, Nat.one_ne_zero, true_and, and_true, and_self, List.drop_succ_cons, List.drop_nil, List.take_succ_cons, List.take_nil, hge, hw2]
        refine hN _ _ ?_; clear hN N
        refine aW_cond (b := false) (by simp only [go_sem]) (fun h => by cases h) (fun _ => aW_skip ?_)
        refine hN _ _ ?_; clear hN N
        refine aW_reg1 fun N hN => ?_
        simp (config := {maxSteps := 10000000}) only [go_sem, Nat.reduceAdd, Nat.reduceSub, Nat.reduceMul, Nat.reduceLT, Nat.reduceLeDiff, Nat.lt_irrefl, Nat.le_refl, List.getElem?_toArray, bne_self_eq_false, Int.le_refl, Int.reduceLE, Int.reduceLT, Int.toNat_zero, Nat.zero_mul, List.all_cons, List.all_nil, Bool.and_self, Bool.and_true, Bool.true_and, Nat.reduceEqDiff, Nat.one_ne_zero, true_and, and_true, and_self, List.drop_succ_cons, List.drop_nil, List.take_succ_cons, List.take_nil, hw1]
        refine hN _ _ ?_; clear hN N
        exact ⟨i - (j + 1), _, _, _, by omega, Weak.forget (T0 := (.unk :: .int .i64 i :: .unk :: .unk :: .unk :: .ptr 0 0 :: .int .i64 M :: .unk :: .unk :: .unk :: .int .i64 ((j + 1 : Nat) : Int) :: .unk :: .unk :: .unk :: .unk :: .unk :: .unk :: .unk :: .unk :: .unk :: .unk :: .unk :: .unk :: .unk :: .unk :: .unk :: .unk :: .unk :: .unk :: .unk :: .unk :: .unk :: .unk :: .unk :: .unk :: .unk :: .unk :: .unk :: .unk :: .unk :: .unk :: .unk :: .unk :: .unk :: .unk :: .unk :: .unk :: .unk :: .unk :: .unk :: .unk :: .unk :: .unk :: .unk :: .unk :: .unk :: .unk :: .unk :: .unk :: .unk :: .unk :: .unk :: .unk :: .unk :: .unk :: .unk :: .unk :: .unk :: .unk :: .unk :: .unk :: .unk :: .unk :: .unk :: .unk :: .unk :: .unk :: .unk :: .unk :: .unk :: .unk :: .unk :: .unk :: .unk :: .unk :: .unk :: .unk :: .unk :: .unk :: .unk :: .unk :: [])) (by simp [LeU]) (Nat.zero_le _), j + 1, hlt, rfl, rfl, rfl⟩
    · have hd : decide ((j : Int) < (i : Int)) = false := by simp; omega
      refine aW_seq_k fun N hN => ?_
      refine aW_reg fun N hN => ?_
      simp (config := {maxSteps := 10000000}) only [go_sem, Nat.reduceAdd, Nat.reduceSub, Nat.reduceMul, Nat.reduceLT, Nat.reduceLeDiff, Nat.lt_irrefl, Nat.le_refl, List.getElem?_toArray, bne_self_eq_false, Int.le_refl, Int.reduceLE, Int.reduceLT, Int.toNat_zero, Nat.zero_mul, List.all_cons, List.all_nil, Bool.and_self, Bool.and_true, Bool.true_and, Nat.reduceEqDiff, Nat.one_ne_zero, true_and, and_true, and_self, List.drop_succ_cons, List.drop_nil, List.take_succ_cons, List.take_nil, hd]
      refine hN _ _ ?_; clear hN N
      refine aW_cond (b := false) rfl (fun h => by cases h) (fun _ => aW_exit ?_)
      simp only [go_sem]
      clear hN N
      refine hN _ _ ?_; clear hN N
      refine aW_reg fun N hN => ?_
      simp (config := {maxSteps := 10000000}) only [go_sem, Nat.reduceAdd, Nat.reduceSub, Nat.reduceMul, Nat.reduceLT, Nat.reduceLeDiff, Nat.lt_irrefl, Nat.le_refl, List.getElem?_toArray, bne_self_eq_false, Int.le_refl, Int.reduceLE, Int.reduceLT, Int.toNat_zero, Nat.zero_mul, List.all_cons, List.all_nil, Bool.and_self, Bool.and_true, Bool.true_and, Nat.reduceEqDiff, Nat.one_ne_zero, true_and, and_true, and_self, List.drop_succ_cons, List.drop_nil, List.take_succ_cons, List.take_nil]
      refine lives_c.plain rfl rfl ?_
      simp (config := {maxSteps := 10000000}) only [go_sem, Nat.reduceAdd, Nat.reduceSub, Nat.reduceMul, Nat.reduceLT, Nat.reduceLeDiff, Nat.lt_irrefl, Nat.le_refl, List.getElem?_toArray, bne_self_eq_false, Int.le_refl, Int.reduceLE, Int.reduceLT, Int.toNat_zero, Nat.zero_mul, List.all_cons, List.all_nil, Bool.and_self, Bool.and_true, Bool.true_and, Nat.reduceEqDiff, Nat.one_ne_zero, true_and, and_true, and_self, List.drop_succ_cons, List.drop_nil, List.take_succ_cons, List.take_nil]
      refine hN _ _ ?_; clear hN N
      exact aW_ret (Body.keep [] (.bool true) [] rfl rfl trivial (by decide) (by decide) ⟨rfl, rfl⟩)
theorem room_w (room n : Int) (_ : -9223372036854775808 ≤ room) (_ : room ≤ 9223372036854775807) (hn : -9223372036854775808 ≤ n) (hn2 : n ≤ 9223372036854775807) : ACalls Try.prog 3 [.int .i64 room, .int .i64 n] [] (fun r h => r = .ret (.bool true) ∧ h = []) := room_c room n hn hn2
end Go.Proofs
