/- Contracts of the package's functions, by the walk over abstract values. No condition. -/
import Derived.Test.YtoikhkfipefmeaaPin1
namespace Go.Proofs
open Go Go.AH TryTy
set_option linter.unusedSimpArgs false
set_option linter.unusedVariables false
set_option maxRecDepth 10000

/-- The board that a Set leaves. -/
def SH (room : Int) (l : List Pn) : Heap := [some (.row [.int .i64 room, .gsl 2 l.length 3] 62 true), none, some (.row (pcells l) 65 false)]

theorem set_nil (room : Int) (hr : 1 ≤ room) (junk : List AV) (hj : NoId junk) (k : Int) (host : List UInt8) (hh : host.length ≤ 1000) (s : Int) :
    ACalls Try.prog 10 [.ptr 0 0, .int .i64 k, .str host, .int .i64 s] (BH room false [] junk)
      (fun r h => r = .ret (.tup [.agg [.int .i64 0, .str []], .bool false]) ∧ h = SH room [⟨k, lower host, s⟩]) := by
  have hf := find_c room false [] junk (fun _ => rfl) hj (by simp) k host hh
  simp only [BH, bS, bR, if_true, if_false, Bool.false_eq_true, List.length_nil] at hf ⊢
  have hx : idx (keyIs k (lower host)) [] = -1 := rfl
  rw [hx] at hf
  refine acalls_body Try.func10 rfl (by decide +kernel) ?_
  simp only [List.length_nil, List.length_cons, List.length_append, Nat.zero_add, Try.ntmps10, List.replicate, List.cons_append, List.nil_append, List.append_assoc, Nat.reduceSub, Nat.reduceAdd]
  refine aW_reg fun N hN => ?_
  simp (config := {maxSteps := 10000000}) only [go_sem, Nat.reduceAdd, Nat.reduceSub, Nat.reduceMul, Nat.reduceLT, Nat.reduceLeDiff, Nat.lt_irrefl, Nat.le_refl, List.getElem?_toArray, bne_self_eq_false, Int.le_refl, Int.reduceLE, Int.reduceLT, Int.toNat_zero, Nat.zero_mul, List.all_cons, List.all_nil, Bool.and_self, Bool.and_true, Bool.true_and, Nat.reduceEqDiff, Nat.one_ne_zero, true_and, and_true, and_self, List.drop_succ_cons, List.drop_nil, List.take_succ_cons, List.take_nil]
  refine hN _ _ ?_; clear hN N
  refine aW_seq_k fun N hN => ?_
  (first | refine aW_reg fun N hN => ?_ | refine aW_reg1 fun N hN => ?_)
  simp (config := {maxSteps := 10000000}) only [go_sem, Nat.reduceAdd, Nat.reduceSub, Nat.reduceMul, Nat.reduceLT, Nat.reduceLeDiff, Nat.lt_irrefl, Nat.le_refl, List.getElem?_toArray, bne_self_eq_false, Int.le_refl, Int.reduceLE, Int.reduceLT, Int.toNat_zero, Nat.zero_mul, List.all_cons, List.all_nil, Bool.and_self, Bool.and_true, Bool.true_and, Nat.reduceEqDiff, Nat.one_ne_zero, true_and, and_true, and_self, List.drop_succ_cons, List.drop_nil, List.take_succ_cons, List.take_nil]
  refine (hf).frame [0, 1] [] rfl (by decide) (by simp) (by simp) ⟨.inl rfl, .inl rfl, .inl rfl, trivial⟩ (by rintro (_ | _ | _ | k) i b0 h1 h2 <;> simp at h1 h2 <;> subst h1 h2 <;> first | rfl) ?_
  rintro r0 h0' _ ⟨rfl, rfl⟩
  refine ⟨by first | exact .inl rfl | exact .inr ⟨rfl, rfl⟩, ?_⟩
  simp (config := {maxSteps := 10000000}) only [go_sem, Bool.false_or, Bool.true_or, Bool.or_true, Bool.or_false, Nat.reduceAdd, Nat.reduceSub, Nat.reduceMul, Nat.reduceLT, Nat.reduceLeDiff, Nat.lt_irrefl, Nat.le_refl, List.getElem?_toArray, bne_self_eq_false, Int.le_refl, Int.reduceLE, Int.reduceLT, Int.toNat_zero, Nat.zero_mul, List.all_cons, List.all_nil, Bool.and_self, Bool.and_true, Bool.true_and, Nat.reduceEqDiff, Nat.one_ne_zero, true_and, and_true, and_self, List.drop_succ_cons, List.drop_nil, List.take_succ_cons, List.take_nil, merge, upd, mf, renB]
  refine hN _ _ ?_; clear hN N
  refine aW_cond (b := false) (by simp only [go_sem] <;> rfl) (fun h => by cases h) (fun _ => aW_skip ?_)
  refine hN _ _ ?_; clear hN N
  refine aW_reg fun N hN => ?_
  simp (config := {maxSteps := 10000000}) only [go_sem, Nat.reduceAdd, Nat.reduceSub, Nat.reduceMul, Nat.reduceLT, Nat.reduceLeDiff, Nat.lt_irrefl, Nat.le_refl, List.getElem?_toArray, bne_self_eq_false, Int.le_refl, Int.reduceLE, Int.reduceLT, Int.toNat_zero, Nat.zero_mul, List.all_cons, List.all_nil, Bool.and_self, Bool.and_true, Bool.true_and, Nat.reduceEqDiff, Nat.one_ne_zero, true_and, and_true, and_self, List.drop_succ_cons, List.drop_nil, List.take_succ_cons, List.take_nil]
  refine hN _ _ ?_; clear hN N
  have h0r : ((0 : Int) == room) = false := by simp; omega
  refine aW_dreg mixed ⟨[], [[0, 1, 2, 3, 4, 5, 6, 7, 8, 9, 10]], [[0, 1, 2, 3, 4, 5, 6, 7, 8, 9, 10]], [[], [0], [0, 1], [0, 1, 2], [0, 1, 2, 3], [], [5], [5, 6], [5, 6, 7], [0, 1, 2, 3, 4, 5, 6, 7, 8], [0, 1, 2, 3, 4, 5, 6, 7, 8, 9]]⟩ (by decide +kernel) fun N hN => ?_
  simp (config := {maxSteps := 10000000}) only [go_sem, Nat.reduceAdd, Nat.reduceSub, Nat.reduceMul, Nat.reduceLT, Nat.reduceLeDiff, Nat.lt_irrefl, Nat.le_refl, List.getElem?_toArray, bne_self_eq_false, Int.le_refl, Int.reduceLE, Int.reduceLT, Int.toNat_zero, Nat.zero_mul, List.all_cons, List.all_nil, Bool.and_self, Bool.and_true, Bool.true_and, Nat.reduceEqDiff, Nat.one_ne_zero, true_and, and_true, and_self, List.drop_succ_cons, List.drop_nil, List.take_succ_cons, List.take_nil, h0r]
  refine hN _ _ ?_; clear hN N
  refine aW_seq_k fun N hN => ?_
  refine aW_reg fun N hN => ?_
  simp (config := {maxSteps := 10000000}) only [go_sem, Nat.reduceAdd, Nat.reduceSub, Nat.reduceMul, Nat.reduceLT, Nat.reduceLeDiff, Nat.lt_irrefl, Nat.le_refl, List.getElem?_toArray, bne_self_eq_false, Int.le_refl, Int.reduceLE, Int.reduceLT, Int.toNat_zero, Nat.zero_mul, List.all_cons, List.all_nil, Bool.and_self, Bool.and_true, Bool.true_and, Nat.reduceEqDiff, Nat.one_ne_zero, true_and, and_true, and_self, List.drop_succ_cons, List.drop_nil, List.take_succ_cons, List.take_nil]
  refine hN _ _ ?_; clear hN N
  refine aW_cond (b := false) (by simp only [go_sem]) (fun h => by cases h) (fun _ => aW_skip ?_)
  refine hN _ _ ?_; clear hN N
  refine aW_dreg mixed ⟨[7, 11, 12, 15], [[0, 1, 2, 3, 4, 5, 6, 9], [8, 10], [], [13, 14], []], [[0, 1, 2, 3, 4, 5, 6, 9], [0, 1, 2, 3, 4, 5, 8, 9, 10], [0, 1, 2, 3, 4], [0, 13, 14], []], [[], [], [1], [1, 2], [1, 2, 3], [], [], [6], [5, 6, 7], [], [5, 6, 7, 8, 9], [5, 6, 7, 8, 9, 10], [1, 2, 3, 4, 5, 6, 7, 8, 9, 10, 11], [0, 1, 2, 3, 4, 5, 6, 7, 8, 9, 10, 11, 12], [0, 1, 2, 3, 4, 5, 6, 7, 8, 9, 10, 11, 12, 13], [0, 1, 2, 3, 4, 5, 6, 7, 8, 9, 10, 11, 12, 13, 14]]⟩ (by decide +kernel) fun N hN => ?_
  simp (config := {maxSteps := 10000000}) only [go_sem, Nat.reduceAdd, Nat.reduceSub, Nat.reduceMul, Nat.reduceLT, Nat.reduceLeDiff, Nat.lt_irrefl, Nat.le_refl, List.getElem?_toArray, bne_self_eq_false, Int.le_refl, Int.reduceLE, Int.reduceLT, Int.toNat_zero, Nat.zero_mul, List.all_cons, List.all_nil, Bool.and_self, Bool.and_true, Bool.true_and, Nat.reduceEqDiff, Nat.one_ne_zero, true_and, and_true, and_self, List.drop_succ_cons, List.drop_nil, List.take_succ_cons, List.take_nil]
  refine (lower_c host (by omega)).plain rfl rfl ?_
  simp (config := {maxSteps := 10000000}) only [go_sem, Nat.reduceAdd, Nat.reduceSub, Nat.reduceMul, Nat.reduceLT, Nat.reduceLeDiff, Nat.lt_irrefl, Nat.le_refl, List.getElem?_toArray, bne_self_eq_false, Int.le_refl, Int.reduceLE, Int.reduceLT, Int.toNat_zero, Nat.zero_mul, List.all_cons, List.all_nil, Bool.and_self, Bool.and_true, Bool.true_and, Nat.reduceEqDiff, Nat.one_ne_zero, true_and, and_true, and_self, List.drop_succ_cons, List.drop_nil, List.take_succ_cons, List.take_nil]
  refine hN _ _ ?_; clear hN N
  refine aW_reg fun N hN => ?_
  simp (config := {maxSteps := 10000000}) only [go_sem, Nat.reduceAdd, Nat.reduceSub, Nat.reduceMul, Nat.reduceLT, Nat.reduceLeDiff, Nat.lt_irrefl, Nat.le_refl, List.getElem?_toArray, bne_self_eq_false, Int.le_refl, Int.reduceLE, Int.reduceLT, Int.toNat_zero, Nat.zero_mul, List.all_cons, List.all_nil, Bool.and_self, Bool.and_true, Bool.true_and, Nat.reduceEqDiff, Nat.one_ne_zero, true_and, and_true, and_self, List.drop_succ_cons, List.drop_nil, List.take_succ_cons, List.take_nil]
  refine hN _ _ ?_; clear hN N
  exact aW_ret (Body.keep [0, 1, 5] (.tup [.agg [.int .i64 0, .str []], .bool false]) (SH room [⟨k, lower host, s⟩]) rfl rfl ⟨rfl, by simp, rfl, trivial⟩ (by decide) (by decide) ⟨rfl, rfl⟩)

theorem set_has (room : Int) (l : List Pn) (junk : List AV) (hj : NoId junk) (hl : l.length ≤ 1000) (k : Int) (host : List UInt8) (hh : host.length ≤ 1000) (s : Int) (i : Nat) (hi : l.findIdx? (keyIs k (lower host)) = some i) :
    ACalls Try.prog 10 [.ptr 0 0, .int .i64 k, .str host, .int .i64 s] (BH room true l junk)
      (fun r h => r = .ret (.tup [.agg [.int .i64 0, .str []], .bool false]) ∧ h = BH room true l junk) := by
  have hf := find_c room true l junk (fun h => by cases h) hj hl k host hh
  simp only [BH, bS, bR, if_true, if_false, Bool.false_eq_true] at hf ⊢
  have hx : idx (keyIs k (lower host)) l = i := by simp [idx, hi]
  rw [hx] at hf
  have hge : decide ((i : Int) ≥ 0) = true := by simp
  refine acalls_body Try.func10 rfl (by decide +kernel) ?_
  simp only [List.length_nil, List.length_cons, List.length_append, Nat.zero_add, Try.ntmps10, List.replicate, List.cons_append, List.nil_append, List.append_assoc, Nat.reduceSub, Nat.reduceAdd]
  refine aW_reg fun N hN => ?_
  simp (config := {maxSteps := 10000000}) only [go_sem, Nat.reduceAdd, Nat.reduceSub, Nat.reduceMul, Nat.reduceLT, Nat.reduceLeDiff, Nat.lt_irrefl, Nat.le_refl, List.getElem?_toArray, bne_self_eq_false, Int.le_refl, Int.reduceLE, Int.reduceLT, Int.toNat_zero, Nat.zero_mul, List.all_cons, List.all_nil, Bool.and_self, Bool.and_true, Bool.true_and, Nat.reduceEqDiff, Nat.one_ne_zero, true_and, and_true, and_self, List.drop_succ_cons, List.drop_nil, List.take_succ_cons, List.take_nil]
  refine hN _ _ ?_; clear hN N
  refine aW_seq_k fun N hN => ?_
  (first | refine aW_reg fun N hN => ?_ | refine aW_reg1 fun N hN => ?_)
  simp (config := {maxSteps := 10000000}) only [go_sem, Nat.reduceAdd, Nat.reduceSub, Nat.reduceMul, Nat.reduceLT, Nat.reduceLeDiff, Nat.lt_irrefl, Nat.le_refl, List.getElem?_toArray, bne_self_eq_false, Int.le_refl, Int.reduceLE, Int.reduceLT, Int.toNat_zero, Nat.zero_mul, List.all_cons, List.all_nil, Bool.and_self, Bool.and_true, Bool.true_and, Nat.reduceEqDiff, Nat.one_ne_zero, true_and, and_true, and_self, List.drop_succ_cons, List.drop_nil, List.take_succ_cons, List.take_nil]
  refine (hf).frame [0, 1] [] rfl (by decide) (by simp) (by simp) ⟨.inl rfl, .inl rfl, .inl rfl, trivial⟩ (by rintro (_ | _ | _ | k) i b0 h1 h2 <;> simp at h1 h2 <;> subst h1 h2 <;> first | rfl | exact congrArg some (congrArg some (keepRow _ l hj).symm)) ?_
  rintro r0 h0' _ ⟨rfl, rfl⟩
  refine ⟨by first | exact .inl rfl | exact .inr ⟨rfl, rfl⟩, ?_⟩
  simp (config := {maxSteps := 10000000}) only [go_sem, Bool.false_or, Bool.true_or, Bool.or_true, Bool.or_false, Nat.reduceAdd, Nat.reduceSub, Nat.reduceMul, Nat.reduceLT, Nat.reduceLeDiff, Nat.lt_irrefl, Nat.le_refl, List.getElem?_toArray, bne_self_eq_false, Int.le_refl, Int.reduceLE, Int.reduceLT, Int.toNat_zero, Nat.zero_mul, List.all_cons, List.all_nil, Bool.and_self, Bool.and_true, Bool.true_and, Nat.reduceEqDiff, Nat.one_ne_zero, true_and, and_true, and_self, List.drop_succ_cons, List.drop_nil, List.take_succ_cons, List.take_nil, merge, upd, mf, renB, keepRow _ l hj, renL_app, renL_pcells, hj _, hge]
  refine hN _ _ ?_; clear hN N
  refine aW_cond (b := true) (by simp only [go_sem]) (fun _ => ?_) (fun h => by cases h)
  refine aW_reg fun N hN => ?_
  simp (config := {maxSteps := 10000000}) only [go_sem, Nat.reduceAdd, Nat.reduceSub, Nat.reduceMul, Nat.reduceLT, Nat.reduceLeDiff, Nat.lt_irrefl, Nat.le_refl, List.getElem?_toArray, bne_self_eq_false, Int.le_refl, Int.reduceLE, Int.reduceLT, Int.toNat_zero, Nat.zero_mul, List.all_cons, List.all_nil, Bool.and_self, Bool.and_true, Bool.true_and, Nat.reduceEqDiff, Nat.one_ne_zero, true_and, and_true, and_self, List.drop_succ_cons, List.drop_nil, List.take_succ_cons, List.take_nil]
  refine hN _ _ ?_; clear hN N
  refine aW_ret ?_
  simp only [go_sem]
  exact Body.keep [0, 1] (.tup [.agg [.int .i64 0, .str []], .bool false]) [some (.row [.int .i64 room, .gsl 1 l.length 3] 62 true), some (.row (pcells l ++ junk) 65 false)] rfl rfl ⟨rfl, congrArg some (congrArg some (keepRow _ l hj).symm), trivial⟩ (by decide) (by decide) ⟨rfl, rfl⟩

theorem set_more (room : Int) (l : List Pn) (junk : List AV) (hj : NoId junk) (hl : l.length ≤ 1000) (hr : (l.length : Int) ≠ room) (k : Int) (host : List UInt8) (hh : host.length ≤ 1000) (s : Int) (hi : l.findIdx? (keyIs k (lower host)) = none) :
    ACalls Try.prog 10 [.ptr 0 0, .int .i64 k, .str host, .int .i64 s] (BH room true l junk)
      (fun r h => r = .ret (.tup [.agg [.int .i64 0, .str []], .bool false]) ∧ h = SH room (l ++ [⟨k, lower host, s⟩])) := by
  have hf := find_c room true l junk (fun h => by cases h) hj hl k host hh
  simp only [BH, bS, bR, if_true, if_false, Bool.false_eq_true] at hf ⊢
  have hx : idx (keyIs k (lower host)) l = -1 := by simp [idx, hi]
  rw [hx] at hf
  refine acalls_body Try.func10 rfl (by decide +kernel) ?_
  simp only [List.length_nil, List.length_cons, List.length_append, Nat.zero_add, Try.ntmps10, List.replicate, List.cons_append, List.nil_append, List.append_assoc, Nat.reduceSub, Nat.reduceAdd]
  refine aW_reg fun N hN => ?_
  simp (config := {maxSteps := 10000000}) only [go_sem, Nat.reduceAdd, Nat.reduceSub, Nat.reduceMul, Nat.reduceLT, Nat.reduceLeDiff, Nat.lt_irrefl, Nat.le_refl, List.getElem?_toArray, bne_self_eq_false, Int.le_refl, Int.reduceLE, Int.reduceLT, Int.toNat_zero, Nat.zero_mul, List.all_cons, List.all_nil, Bool.and_self, Bool.and_true, Bool.true_and, Nat.reduceEqDiff, Nat.one_ne_zero, true_and, and_true, and_self, List.drop_succ_cons, List.drop_nil, List.take_succ_cons, List.take_nil]
  refine hN _ _ ?_; clear hN N
  refine aW_seq_k fun N hN => ?_
  (first | refine aW_reg fun N hN => ?_ | refine aW_reg1 fun N hN => ?_)
  simp (config := {maxSteps := 10000000}) only [go_sem, Nat.reduceAdd, Nat.reduceSub, Nat.reduceMul, Nat.reduceLT, Nat.reduceLeDiff, Nat.lt_irrefl, Nat.le_refl, List.getElem?_toArray, bne_self_eq_false, Int.le_refl, Int.reduceLE, Int.reduceLT, Int.toNat_zero, Nat.zero_mul, List.all_cons, List.all_nil, Bool.and_self, Bool.and_true, Bool.true_and, Nat.reduceEqDiff, Nat.one_ne_zero, true_and, and_true, and_self, List.drop_succ_cons, List.drop_nil, List.take_succ_cons, List.take_nil]
  refine (hf).frame [0, 1] [] rfl (by decide) (by simp) (by simp) ⟨.inl rfl, .inl rfl, .inl rfl, trivial⟩ (by rintro (_ | _ | _ | k) i b0 h1 h2 <;> simp at h1 h2 <;> subst h1 h2 <;> first | rfl | exact congrArg some (congrArg some (keepRow _ l hj).symm)) ?_
  rintro r0 h0' _ ⟨rfl, rfl⟩
  refine ⟨by first | exact .inl rfl | exact .inr ⟨rfl, rfl⟩, ?_⟩
  simp (config := {maxSteps := 10000000}) only [go_sem, Bool.false_or, Bool.true_or, Bool.or_true, Bool.or_false, Nat.reduceAdd, Nat.reduceSub, Nat.reduceMul, Nat.reduceLT, Nat.reduceLeDiff, Nat.lt_irrefl, Nat.le_refl, List.getElem?_toArray, bne_self_eq_false, Int.le_refl, Int.reduceLE, Int.reduceLT, Int.toNat_zero, Nat.zero_mul, List.all_cons, List.all_nil, Bool.and_self, Bool.and_true, Bool.true_and, Nat.reduceEqDiff, Nat.one_ne_zero, true_and, and_true, and_self, List.drop_succ_cons, List.drop_nil, List.take_succ_cons, List.take_nil, merge, upd, mf, renB, keepRow _ l hj, renL_app, renL_pcells, hj _]
  refine hN _ _ ?_; clear hN N
  refine aW_cond (b := false) (by simp only [go_sem] <;> rfl) (fun h => by cases h) (fun _ => aW_skip ?_)
  refine hN _ _ ?_; clear hN N
  refine aW_reg fun N hN => ?_
  simp (config := {maxSteps := 10000000}) only [go_sem, Nat.reduceAdd, Nat.reduceSub, Nat.reduceMul, Nat.reduceLT, Nat.reduceLeDiff, Nat.lt_irrefl, Nat.le_refl, List.getElem?_toArray, bne_self_eq_false, Int.le_refl, Int.reduceLE, Int.reduceLT, Int.toNat_zero, Nat.zero_mul, List.all_cons, List.all_nil, Bool.and_self, Bool.and_true, Bool.true_and, Nat.reduceEqDiff, Nat.one_ne_zero, true_and, and_true, and_self, List.drop_succ_cons, List.drop_nil, List.take_succ_cons, List.take_nil]
  refine hN _ _ ?_; clear hN N
  have h0r : ((l.length : Int) == room) = false := by simpa using hr
  refine aW_dreg mixed ⟨[], [[0, 1, 2, 3, 4, 5, 6, 7, 8, 9, 10]], [[0, 1, 2, 3, 4, 5, 6, 7, 8, 9, 10]], [[], [0], [0, 1], [0, 1, 2], [0, 1, 2, 3], [], [5], [5, 6], [5, 6, 7], [0, 1, 2, 3, 4, 5, 6, 7, 8], [0, 1, 2, 3, 4, 5, 6, 7, 8, 9]]⟩ (by decide +kernel) fun N hN => ?_
  simp (config := {maxSteps := 10000000}) only [go_sem, Nat.reduceAdd, Nat.reduceSub, Nat.reduceMul, Nat.reduceLT, Nat.reduceLeDiff, Nat.lt_irrefl, Nat.le_refl, List.getElem?_toArray, bne_self_eq_false, Int.le_refl, Int.reduceLE, Int.reduceLT, Int.toNat_zero, Nat.zero_mul, List.all_cons, List.all_nil, Bool.and_self, Bool.and_true, Bool.true_and, Nat.reduceEqDiff, Nat.one_ne_zero, true_and, and_true, and_self, List.drop_succ_cons, List.drop_nil, List.take_succ_cons, List.take_nil, h0r]
  refine hN _ _ ?_; clear hN N
  refine aW_seq_k fun N hN => ?_
  refine aW_reg fun N hN => ?_
  simp (config := {maxSteps := 10000000}) only [go_sem, Nat.reduceAdd, Nat.reduceSub, Nat.reduceMul, Nat.reduceLT, Nat.reduceLeDiff, Nat.lt_irrefl, Nat.le_refl, List.getElem?_toArray, bne_self_eq_false, Int.le_refl, Int.reduceLE, Int.reduceLT, Int.toNat_zero, Nat.zero_mul, List.all_cons, List.all_nil, Bool.and_self, Bool.and_true, Bool.true_and, Nat.reduceEqDiff, Nat.one_ne_zero, true_and, and_true, and_self, List.drop_succ_cons, List.drop_nil, List.take_succ_cons, List.take_nil]
  refine hN _ _ ?_; clear hN N
  refine aW_cond (b := false) (by simp only [go_sem]) (fun h => by cases h) (fun _ => aW_skip ?_)
  refine hN _ _ ?_; clear hN N
  have hlen : (l.length * 3 ≤ (pcells l ++ junk).length) = True := by simp [pcells_length]
  have hcap1 : (l.length + 1 ≤ 9223372036854775807) = True := by simp; omega
  have hcap2 : ((l.length + 1) * 32 ≤ 140737488355328) = True := by simp; omega
  have htake : List.take (l.length * 3) (pcells l ++ junk) = pcells l := List.take_left' (pcells_length l)
  refine aW_dreg mixed ⟨[7, 11, 12, 15], [[0, 1, 2, 3, 4, 5, 6, 9], [8, 10], [], [13, 14], []], [[0, 1, 2, 3, 4, 5, 6, 9], [0, 1, 2, 3, 4, 5, 8, 9, 10], [0, 1, 2, 3, 4], [0, 13, 14], []], [[], [], [1], [1, 2], [1, 2, 3], [], [], [6], [5, 6, 7], [], [5, 6, 7, 8, 9], [5, 6, 7, 8, 9, 10], [1, 2, 3, 4, 5, 6, 7, 8, 9, 10, 11], [0, 1, 2, 3, 4, 5, 6, 7, 8, 9, 10, 11, 12], [0, 1, 2, 3, 4, 5, 6, 7, 8, 9, 10, 11, 12, 13], [0, 1, 2, 3, 4, 5, 6, 7, 8, 9, 10, 11, 12, 13, 14]]⟩ (by decide +kernel) fun N hN => ?_
  simp (config := {maxSteps := 10000000}) only [go_sem, Nat.reduceAdd, Nat.reduceSub, Nat.reduceMul, Nat.reduceLT, Nat.reduceLeDiff, Nat.lt_irrefl, Nat.le_refl, List.getElem?_toArray, bne_self_eq_false, Int.le_refl, Int.reduceLE, Int.reduceLT, Int.toNat_zero, Nat.zero_mul, List.all_cons, List.all_nil, Bool.and_self, Bool.and_true, Bool.true_and, Nat.reduceEqDiff, Nat.one_ne_zero, true_and, and_true, and_self, List.drop_succ_cons, List.drop_nil, List.take_succ_cons, List.take_nil]
  refine (lower_c host (by omega)).plain rfl rfl ?_
  simp (config := {maxSteps := 10000000}) only [go_sem, Nat.reduceAdd, Nat.reduceSub, Nat.reduceMul, Nat.reduceLT, Nat.reduceLeDiff, Nat.lt_irrefl, Nat.le_refl, List.getElem?_toArray, bne_self_eq_false, Int.le_refl, Int.reduceLE, Int.reduceLT, Int.toNat_zero, Nat.zero_mul, List.all_cons, List.all_nil, Bool.and_self, Bool.and_true, Bool.true_and, Nat.reduceEqDiff, Nat.one_ne_zero, true_and, and_true, and_self, List.drop_succ_cons, List.drop_nil, List.take_succ_cons, List.take_nil, hlen, hcap1, hcap2, htake]
  refine hN _ _ ?_; clear hN N
  refine aW_reg fun N hN => ?_
  simp (config := {maxSteps := 10000000}) only [go_sem, Nat.reduceAdd, Nat.reduceSub, Nat.reduceMul, Nat.reduceLT, Nat.reduceLeDiff, Nat.lt_irrefl, Nat.le_refl, List.getElem?_toArray, bne_self_eq_false, Int.le_refl, Int.reduceLE, Int.reduceLT, Int.toNat_zero, Nat.zero_mul, List.all_cons, List.all_nil, Bool.and_self, Bool.and_true, Bool.true_and, Nat.reduceEqDiff, Nat.one_ne_zero, true_and, and_true, and_self, List.drop_succ_cons, List.drop_nil, List.take_succ_cons, List.take_nil]
  refine hN _ _ ?_; clear hN N
  refine aW_ret (Body.keep [0, 1, 5] (.tup [.agg [.int .i64 0, .str []], .bool false]) (SH room (l ++ [⟨k, lower host, s⟩])) rfl rfl ⟨?_, by simp, ?_, trivial⟩ (by decide) (by decide) ⟨rfl, rfl⟩)
  · simp [renB, renL, ren, pf]
  · simp only [renB, renL_app, renL_pcells, pcells_append]; rfl

theorem set_full (l : List Pn) (p : Pn) (junk : List AV) (hj : NoId junk) (hl : l.length ≤ 64) (k : Int) (host : List UInt8) (hh : host.length ≤ 1000) (s : Int) (hi : (p :: l).findIdx? (keyIs k (lower host)) = none) :
    ACalls Try.prog 10 [.ptr 0 0, .int .i64 k, .str host, .int .i64 s] (BH ((l.length + 1 : Nat) : Int) true (p :: l) junk)
      (fun r h => r = .ret (.tup [.agg [.int .i64 p.page, .str p.host], .bool true]) ∧ h = SH ((l.length + 1 : Nat) : Int) (l ++ [⟨k, lower host, s⟩])) := by
  have hf := find_c ((l.length + 1 : Nat) : Int) true (p :: l) junk (fun h => by cases h) hj (by simp; omega) k host hh
  simp only [BH, bS, bR, if_true, if_false, Bool.false_eq_true] at hf ⊢
  have hx : idx (keyIs k (lower host)) (p :: l) = -1 := by simp [idx, hi]
  rw [hx] at hf
  simp only [List.length_cons] at hf ⊢
  refine acalls_body Try.func10 rfl (by decide +kernel) ?_
  simp only [List.length_nil, List.length_cons, List.length_append, Nat.zero_add, Try.ntmps10, List.replicate, List.cons_append, List.nil_append, List.append_assoc, Nat.reduceSub, Nat.reduceAdd]
  refine aW_reg fun N hN => ?_
  simp (config := {maxSteps := 10000000}) only [go_sem, Nat.reduceAdd, Nat.reduceSub, Nat.reduceMul, Nat.reduceLT, Nat.reduceLeDiff, Nat.lt_irrefl, Nat.le_refl, List.getElem?_toArray, bne_self_eq_false, Int.le_refl, Int.reduceLE, Int.reduceLT, Int.toNat_zero, Nat.zero_mul, List.all_cons, List.all_nil, Bool.and_self, Bool.and_true, Bool.true_and, Nat.reduceEqDiff, Nat.one_ne_zero, true_and, and_true, and_self, List.drop_succ_cons, List.drop_nil, List.take_succ_cons, List.take_nil]
  refine hN _ _ ?_; clear hN N
  refine aW_seq_k fun N hN => ?_
  (first | refine aW_reg fun N hN => ?_ | refine aW_reg1 fun N hN => ?_)
  simp (config := {maxSteps := 10000000}) only [go_sem, Nat.reduceAdd, Nat.reduceSub, Nat.reduceMul, Nat.reduceLT, Nat.reduceLeDiff, Nat.lt_irrefl, Nat.le_refl, List.getElem?_toArray, bne_self_eq_false, Int.le_refl, Int.reduceLE, Int.reduceLT, Int.toNat_zero, Nat.zero_mul, List.all_cons, List.all_nil, Bool.and_self, Bool.and_true, Bool.true_and, Nat.reduceEqDiff, Nat.one_ne_zero, true_and, and_true, and_self, List.drop_succ_cons, List.drop_nil, List.take_succ_cons, List.take_nil]
  refine (hf).frame [0, 1] [] rfl (by decide) (by simp) (by simp) ⟨.inl rfl, .inl rfl, .inl rfl, trivial⟩ (by rintro (_ | _ | _ | k) i b0 h1 h2 <;> simp at h1 h2 <;> subst h1 h2 <;> first | rfl | exact congrArg some (congrArg some (keepRow _ (p :: l) hj).symm)) ?_
  rintro r0 h0' _ ⟨rfl, rfl⟩
  refine ⟨by first | exact .inl rfl | exact .inr ⟨rfl, rfl⟩, ?_⟩
  simp (config := {maxSteps := 10000000}) only [go_sem, Bool.false_or, Bool.true_or, Bool.or_true, Bool.or_false, Nat.reduceAdd, Nat.reduceSub, Nat.reduceMul, Nat.reduceLT, Nat.reduceLeDiff, Nat.lt_irrefl, Nat.le_refl, List.getElem?_toArray, bne_self_eq_false, Int.le_refl, Int.reduceLE, Int.reduceLT, Int.toNat_zero, Nat.zero_mul, List.all_cons, List.all_nil, Bool.and_self, Bool.and_true, Bool.true_and, Nat.reduceEqDiff, Nat.one_ne_zero, true_and, and_true, and_self, List.drop_succ_cons, List.drop_nil, List.take_succ_cons, List.take_nil, merge, upd, mf, renB, keepRow _ (p :: l) hj, renL_app, renL_pcells, hj _]
  refine hN _ _ ?_; clear hN N
  refine aW_cond (b := false) (by simp only [go_sem] <;> rfl) (fun h => by cases h) (fun _ => aW_skip ?_)
  refine hN _ _ ?_; clear hN N
  refine aW_reg fun N hN => ?_
  simp (config := {maxSteps := 10000000}) only [go_sem, Nat.reduceAdd, Nat.reduceSub, Nat.reduceMul, Nat.reduceLT, Nat.reduceLeDiff, Nat.lt_irrefl, Nat.le_refl, List.getElem?_toArray, bne_self_eq_false, Int.le_refl, Int.reduceLE, Int.reduceLT, Int.toNat_zero, Nat.zero_mul, List.all_cons, List.all_nil, Bool.and_self, Bool.and_true, Bool.true_and, Nat.reduceEqDiff, Nat.one_ne_zero, true_and, and_true, and_self, List.drop_succ_cons, List.drop_nil, List.take_succ_cons, List.take_nil]
  refine hN _ _ ?_; clear hN N
  have h0r : ((l.length + 1 : Nat) : Int) == ((l.length + 1 : Nat) : Int) := by simp
  refine aW_dreg mixed ⟨[], [[0, 1, 2, 3, 4, 5, 6, 7, 8, 9, 10]], [[0, 1, 2, 3, 4, 5, 6, 7, 8, 9, 10]], [[], [0], [0, 1], [0, 1, 2], [0, 1, 2, 3], [], [5], [5, 6], [5, 6, 7], [0, 1, 2, 3, 4, 5, 6, 7, 8], [0, 1, 2, 3, 4, 5, 6, 7, 8, 9]]⟩ (by decide +kernel) fun N hN => ?_
  simp (config := {maxSteps := 10000000}) only [go_sem, Nat.reduceAdd, Nat.reduceSub, Nat.reduceMul, Nat.reduceLT, Nat.reduceLeDiff, Nat.lt_irrefl, Nat.le_refl, List.getElem?_toArray, bne_self_eq_false, Int.le_refl, Int.reduceLE, Int.reduceLT, Int.toNat_zero, Nat.zero_mul, List.all_cons, List.all_nil, Bool.and_self, Bool.and_true, Bool.true_and, Nat.reduceEqDiff, Nat.one_ne_zero, true_and, and_true, and_self, List.drop_succ_cons, List.drop_nil, List.take_succ_cons, List.take_nil, h0r]
  refine hN _ _ ?_; clear hN N
  refine aW_seq_k fun N hN => ?_
  refine aW_reg fun N hN => ?_
  simp (config := {maxSteps := 10000000}) only [go_sem, Nat.reduceAdd, Nat.reduceSub, Nat.reduceMul, Nat.reduceLT, Nat.reduceLeDiff, Nat.lt_irrefl, Nat.le_refl, List.getElem?_toArray, bne_self_eq_false, Int.le_refl, Int.reduceLE, Int.reduceLT, Int.toNat_zero, Nat.zero_mul, List.all_cons, List.all_nil, Bool.and_self, Bool.and_true, Bool.true_and, Nat.reduceEqDiff, Nat.one_ne_zero, true_and, and_true, and_self, List.drop_succ_cons, List.drop_nil, List.take_succ_cons, List.take_nil]
  refine hN _ _ ?_; clear hN N
  refine aW_cond (b := true) (by simp only [go_sem]) (fun _ => ?_) (fun h => by cases h)
  have hidx : ((0 : Int) < ((l.length + 1 : Nat) : Int)) = True := by simp
  have hcc : (2 ≤ (pcells (p :: l) ++ junk).length) = True := by simp [pcells_length]; omega
  have htk : List.take 2 (pcells (p :: l) ++ junk) = [.int .i64 p.page, .str p.host] := rfl
  (first | refine aW_reg fun N hN => ?_ | refine aW_reg1 fun N hN => ?_)
  simp (config := {maxSteps := 10000000}) only [go_sem, Nat.reduceAdd, Nat.reduceSub, Nat.reduceMul, Nat.reduceLT, Nat.reduceLeDiff, Nat.lt_irrefl, Nat.le_refl, List.getElem?_toArray, bne_self_eq_false, Int.le_refl, Int.reduceLE, Int.reduceLT, Int.toNat_zero, Nat.zero_mul, List.all_cons, List.all_nil, Bool.and_self, Bool.and_true, Bool.true_and, Nat.reduceEqDiff, Nat.one_ne_zero, true_and, and_true, and_self, List.drop_succ_cons, List.drop_nil, List.take_succ_cons, List.take_nil, hidx, hcc, htk]
  refine hN _ _ ?_; clear hN N
  have hb1 : ((0 : Int) ≤ ((l.length + 1 : Nat) : Int)) = True := by simp; omega
  have hb3 : ((1 : Int) ≤ ((l.length + 1 : Nat) : Int)) = True := by simp; omega
  have ht1 : Int.toNat 1 = 1 := rfl
  refine aW_dreg1 mixed ⟨[18], [[0, 1, 2, 3, 4, 5, 6, 7, 8, 9, 10, 11, 12, 13, 14, 15, 16, 17], []], [[0, 1, 2, 3, 4, 5, 6, 7, 8, 9, 10, 11, 12, 13, 14, 15, 16, 17], []], [[], [], [1], [1, 2], [1, 2, 3], [], [5], [5, 6], [5, 6, 7], [5, 6, 7, 8], [], [10], [10, 11], [10, 11, 12], [10, 11, 12, 13], [1, 2, 3, 4, 5, 6, 7, 8, 9, 10, 11, 12, 13, 14], [0, 1, 2, 3, 4, 5, 6, 7, 8, 9, 10, 11, 12, 13, 14, 15], [0, 1, 2, 3, 4, 5, 6, 7, 8, 9, 10, 11, 12, 13, 14, 15, 16], [0, 1, 2, 3, 4, 5, 6, 7, 8, 9, 10, 11, 12, 13, 14, 15, 16, 17]]⟩ (by decide +kernel) fun N hN => ?_
  simp (config := {maxSteps := 10000000}) only [go_sem, Nat.reduceAdd, Nat.reduceSub, Nat.reduceMul, Nat.reduceLT, Nat.reduceLeDiff, Nat.lt_irrefl, Nat.le_refl, List.getElem?_toArray, bne_self_eq_false, Int.le_refl, Int.reduceLE, Int.reduceLT, Int.toNat_zero, Nat.zero_mul, List.all_cons, List.all_nil, Bool.and_self, Bool.and_true, Bool.true_and, Nat.reduceEqDiff, Nat.one_ne_zero, true_and, and_true, and_self, List.drop_succ_cons, List.drop_nil, List.take_succ_cons, List.take_nil, hb1, hb3, ht1, Int.toNat_natCast, Nat.add_sub_cancel, Nat.one_mul]
  refine hN _ _ ?_; clear hN N
  refine hN _ _ ?_; clear hN N
  have hge : (l.length + 1 ≤ l.length) = False := by simp
  have hcap1 : (l.length + 1 ≤ 9223372036854775807) = True := by simp; omega
  have hcap2 : ((l.length + 1) * 32 ≤ 140737488355328) = True := by simp; omega
  have hct : (3 + l.length * 3 ≤ (pcells (p :: l) ++ junk).length) = True := by simp [pcells_length]; omega
  have hdr : List.take (l.length * 3) (List.drop 3 (pcells (p :: l) ++ junk)) = pcells l := by
    rw [show pcells (p :: l) = pcell p ++ pcells l from rfl]
    simp [pcell, ← pcells_length]
  refine aW_dreg mixed ⟨[7, 11, 12, 15], [[0, 1, 2, 3, 4, 5, 6, 9], [8, 10], [], [13, 14], []], [[0, 1, 2, 3, 4, 5, 6, 9], [0, 1, 2, 3, 4, 5, 8, 9, 10], [0, 1, 2, 3, 4], [0, 13, 14], []], [[], [], [1], [1, 2], [1, 2, 3], [], [], [6], [5, 6, 7], [], [5, 6, 7, 8, 9], [5, 6, 7, 8, 9, 10], [1, 2, 3, 4, 5, 6, 7, 8, 9, 10, 11], [0, 1, 2, 3, 4, 5, 6, 7, 8, 9, 10, 11, 12], [0, 1, 2, 3, 4, 5, 6, 7, 8, 9, 10, 11, 12, 13], [0, 1, 2, 3, 4, 5, 6, 7, 8, 9, 10, 11, 12, 13, 14]]⟩ (by decide +kernel) fun N hN => ?_
  simp (config := {maxSteps := 10000000}) only [go_sem, Nat.reduceAdd, Nat.reduceSub, Nat.reduceMul, Nat.reduceLT, Nat.reduceLeDiff, Nat.lt_irrefl, Nat.le_refl, List.getElem?_toArray, bne_self_eq_false, Int.le_refl, Int.reduceLE, Int.reduceLT, Int.toNat_zero, Nat.zero_mul, List.all_cons, List.all_nil, Bool.and_self, Bool.and_true, Bool.true_and, Nat.reduceEqDiff, Nat.one_ne_zero, true_and, and_true, and_self, List.drop_succ_cons, List.drop_nil, List.take_succ_cons, List.take_nil]
  refine (lower_c host (by omega)).plain rfl rfl ?_
  simp (config := {maxSteps := 10000000}) only [go_sem, Nat.reduceAdd, Nat.reduceSub, Nat.reduceMul, Nat.reduceLT, Nat.reduceLeDiff, Nat.lt_irrefl, Nat.le_refl, List.getElem?_toArray, bne_self_eq_false, Int.le_refl, Int.reduceLE, Int.reduceLT, Int.toNat_zero, Nat.zero_mul, List.all_cons, List.all_nil, Bool.and_self, Bool.and_true, Bool.true_and, Nat.reduceEqDiff, Nat.one_ne_zero, true_and, and_true, and_self, List.drop_succ_cons, List.drop_nil, List.take_succ_cons, List.take_nil, hge, hcap1, hcap2, hct, hdr]
  refine hN _ _ ?_; clear hN N
  refine aW_reg fun N hN => ?_
  simp (config := {maxSteps := 10000000}) only [go_sem, Nat.reduceAdd, Nat.reduceSub, Nat.reduceMul, Nat.reduceLT, Nat.reduceLeDiff, Nat.lt_irrefl, Nat.le_refl, List.getElem?_toArray, bne_self_eq_false, Int.le_refl, Int.reduceLE, Int.reduceLT, Int.toNat_zero, Nat.zero_mul, List.all_cons, List.all_nil, Bool.and_self, Bool.and_true, Bool.true_and, Nat.reduceEqDiff, Nat.one_ne_zero, true_and, and_true, and_self, List.drop_succ_cons, List.drop_nil, List.take_succ_cons, List.take_nil]
  refine hN _ _ ?_; clear hN N
  refine aW_ret (Body.keep [0, 1, 5] (.tup [.agg [.int .i64 p.page, .str p.host], .bool true]) (SH ((l.length + 1 : Nat) : Int) (l ++ [⟨k, lower host, s⟩])) rfl rfl ⟨?_, by simp, ?_, trivial⟩ (by decide) (by decide) ⟨rfl, rfl⟩)
  · simp [renB, renL, ren, pf]
  · simp only [renB, renL_app, renL_pcells, pcells_append]; rfl
end Go.Proofs
