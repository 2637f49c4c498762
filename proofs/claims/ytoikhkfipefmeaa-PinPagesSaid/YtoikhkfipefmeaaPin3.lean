/- Contracts of the package's functions, by the walk over abstract values. No condition. -/
import Derived.Test.YtoikhkfipefmeaaPin2
namespace Go.Proofs
open Go Go.AH TryTy
set_option linter.unusedSimpArgs false
set_option linter.unusedVariables false
set_option maxRecDepth 10000

theorem noId_nil : NoId [] := fun _ => rfl

/-- The board behind a Set, read as a board again. -/
theorem sh_bh (room : Int) (l : List Pn) : SH room l = [some (.row [.int .i64 room, .gsl 2 l.length 3] 62 true), none, some (.row (pcells l) 65 false)] := rfl

theorem keeps_sh (m : Nat → Nat) (room : Int) (l : List Pn) (h : Heap) (h0 : h[0]? = some (some (.row [.int .i64 room, .gsl 2 l.length 3] 62 true))) (h2 : h[2]? = some (some (.row (pcells l) 65 false))) (hm : m 1 = 2) :
    Keeps m h [0, 2] (BH room true l []) := by
  refine ⟨?_, ?_, trivial⟩
  · rw [h0]; simp [bS, renB, renL, ren, hm]
  · rw [h2]; simp only [renB, renL_app, renL_pcells, renL, List.append_nil]
theorem aW_sh {P : Program} {c : Code} {T : List AV} {K : AExit → List AV → Heap → Prop} (T0 : List AV) (room : Int) (l : List Pn) (hv : LeL (pf [0, 2] 3) T0 T) (a : aW P 0 c T0 (BH room true l []) K) : aW P 0 c T (SH room l) K :=
  aW_weak (Weak.lit [0, 2] hv (keeps_sh _ room l _ rfl rfl rfl) (by decide) (by decide)) a

theorem bh_blk {m : Nat → Nat} {room : Int} {l : List Pn} {h : Heap} (h0 : h[0]? = some (some (.row [.int .i64 room, .gsl 2 l.length 3] 62 true))) (h2 : h[2]? = some (some (.row (pcells l) 65 false))) (hm : m 1 = 2) :
    ∀ (k i : Nat) (b0 : Blk), [0, 2][k]? = some i → (BH room true l [])[k]? = some (some b0) → h[i]? = some (some (renB m b0)) := by
  rintro (_ | _ | k) i b0 e1 e2
  · simp [BH, bS] at e1 e2; subst e1 e2; rw [h0]; simp [renB, renL, ren, hm]
  · simp [BH, bR] at e1 e2; subst e1 e2; rw [h2]; simp only [renB, renL_app, renL_pcells, renL, List.append_nil]
  · simp at e1
theorem merge_bh (room : Int) (l : List Pn) (B : Option Blk) : merge [0, 2] [some (.row [.int .i64 room, .gsl 2 l.length 3] 62 true), none, some (.row (pcells l) 65 false), B] (BH room true l []) = [some (.row [.int .i64 room, .gsl 2 l.length 3] 62 true), none, some (.row (pcells l) 65 false), B] := by
  simp [merge, upd, BH, bS, bR, renB, renL_app, renL_pcells, renL, ren, mf]

theorem lives_c : ACalls Try.prog 13 [] [] (fun r h => r = .ret (.bool true) ∧ h = []) := by
  refine acalls_body Try.func13 rfl (by decide +kernel) ?_
  simp only [List.length_nil, List.length_cons, List.length_append, Nat.zero_add, Try.ntmps13, List.replicate, List.cons_append, List.nil_append, List.append_assoc, Nat.reduceSub, Nat.reduceAdd]
  refine aW_reg fun N hN => ?_
  simp (config := {maxSteps := 10000000}) only [go_sem, Nat.reduceAdd, Nat.reduceSub, Nat.reduceMul, Nat.reduceLT, Nat.reduceLeDiff, Nat.lt_irrefl, Nat.le_refl, List.getElem?_toArray, bne_self_eq_false, Int.le_refl, Int.reduceLE, Int.reduceLT, Int.toNat_zero, Nat.zero_mul, List.all_cons, List.all_nil, Bool.and_self, Bool.and_true, Bool.true_and, Nat.reduceEqDiff, Nat.one_ne_zero, true_and, and_true, and_self, List.drop_succ_cons, List.drop_nil, List.take_succ_cons, List.take_nil]
  refine hN _ _ ?_; clear hN N
  (first | refine aW_reg fun N hN => ?_ | refine aW_reg1 fun N hN => ?_)
  simp (config := {maxSteps := 10000000}) only [go_sem, Nat.reduceAdd, Nat.reduceSub, Nat.reduceMul, Nat.reduceLT, Nat.reduceLeDiff, Nat.lt_irrefl, Nat.le_refl, List.getElem?_toArray, bne_self_eq_false, Int.le_refl, Int.reduceLE, Int.reduceLT, Int.toNat_zero, Nat.zero_mul, List.all_cons, List.all_nil, Bool.and_self, Bool.and_true, Bool.true_and, Nat.reduceEqDiff, Nat.one_ne_zero, true_and, and_true, and_self, List.drop_succ_cons, List.drop_nil, List.take_succ_cons, List.take_nil]
  refine (new_c 3).mono ?_
  rintro r h' ⟨rfl, rfl⟩
  simp (config := {maxSteps := 10000000}) only [go_sem, Nat.reduceAdd, Nat.reduceSub, Nat.reduceMul, Nat.reduceLT, Nat.reduceLeDiff, Nat.lt_irrefl, Nat.le_refl, List.getElem?_toArray, bne_self_eq_false, Int.le_refl, Int.reduceLE, Int.reduceLT, Int.toNat_zero, Nat.zero_mul, List.all_cons, List.all_nil, Bool.and_self, Bool.and_true, Bool.true_and, Nat.reduceEqDiff, Nat.one_ne_zero, true_and, and_true, and_self, List.drop_succ_cons, List.drop_nil, List.take_succ_cons, List.take_nil]
  refine hN _ _ ?_; clear hN N
  refine aW_grow (by simp) ?_
  have e3 : min (max (3 : Int) 1) 64 = 3 := by decide
  rw [e3]
  refine aW_seq_k fun N hN => ?_
  refine aW_reg fun N hN => ?_
  simp (config := {maxSteps := 10000000}) only [go_sem, Nat.reduceAdd, Nat.reduceSub, Nat.reduceMul, Nat.reduceLT, Nat.reduceLeDiff, Nat.lt_irrefl, Nat.le_refl, List.getElem?_toArray, bne_self_eq_false, Int.le_refl, Int.reduceLE, Int.reduceLT, Int.toNat_zero, Nat.zero_mul, List.all_cons, List.all_nil, Bool.and_self, Bool.and_true, Bool.true_and, Nat.reduceEqDiff, Nat.one_ne_zero, true_and, and_true, and_self, List.drop_succ_cons, List.drop_nil, List.take_succ_cons, List.take_nil]
  refine hN _ _ ?_; clear hN N
  refine aW_cond (b := false) (by simp only [go_sem]) (fun h => by cases h) (fun _ => aW_skip ?_)
  refine hN _ _ ?_; clear hN N
  (first | refine aW_reg fun N hN => ?_ | refine aW_reg1 fun N hN => ?_)
  simp (config := {maxSteps := 10000000}) only [go_sem, Nat.reduceAdd, Nat.reduceSub, Nat.reduceMul, Nat.reduceLT, Nat.reduceLeDiff, Nat.lt_irrefl, Nat.le_refl, List.getElem?_toArray, bne_self_eq_false, Int.le_refl, Int.reduceLE, Int.reduceLT, Int.toNat_zero, Nat.zero_mul, List.all_cons, List.all_nil, Bool.and_self, Bool.and_true, Bool.true_and, Nat.reduceEqDiff, Nat.one_ne_zero, true_and, and_true, and_self, List.drop_succ_cons, List.drop_nil, List.take_succ_cons, List.take_nil]
  refine (set_nil 3 (by decide) [] noId_nil 1 [65, 46, 116, 101, 115, 116] (by decide) 2).mono ?_
  rintro r h' ⟨rfl, rfl⟩
  simp only [go_sem]
  refine hN _ _ ?_; clear hN N
  have l1 : lower [65, 46, 116, 101, 115, 116] = [97, 46, 116, 101, 115, 116] := by decide
  rw [l1]
  refine aW_sh ([.unk, .ptr 0 0, .unk, .unk, .unk, .unk, .unk, .unk, .unk, .unk, .unk, .unk, .unk, .unk, .unk, .unk, .unk, .unk, .unk, .unk, .unk]) _ _ (by simp [LeL, LeV, ren, pf]) ?_
  (first | refine aW_reg fun N hN => ?_ | refine aW_reg1 fun N hN => ?_)
  simp (config := {maxSteps := 10000000}) only [go_sem, Nat.reduceAdd, Nat.reduceSub, Nat.reduceMul, Nat.reduceLT, Nat.reduceLeDiff, Nat.lt_irrefl, Nat.le_refl, List.getElem?_toArray, bne_self_eq_false, Int.le_refl, Int.reduceLE, Int.reduceLT, Int.toNat_zero, Nat.zero_mul, List.all_cons, List.all_nil, Bool.and_self, Bool.and_true, Bool.true_and, Nat.reduceEqDiff, Nat.one_ne_zero, true_and, and_true, and_self, List.drop_succ_cons, List.drop_nil, List.take_succ_cons, List.take_nil]
  refine (set_has 3 [⟨1, [97, 46, 116, 101, 115, 116], 2⟩] [] noId_nil (by decide) 1 [97, 46, 84, 69, 83, 84] (by decide) 1 0 (by decide)).mono ?_
  rintro r h' ⟨rfl, rfl⟩
  simp (config := {maxSteps := 10000000}) only [go_sem, Nat.reduceAdd, Nat.reduceSub, Nat.reduceMul, Nat.reduceLT, Nat.reduceLeDiff, Nat.lt_irrefl, Nat.le_refl, List.getElem?_toArray, bne_self_eq_false, Int.le_refl, Int.reduceLE, Int.reduceLT, Int.toNat_zero, Nat.zero_mul, List.all_cons, List.all_nil, Bool.and_self, Bool.and_true, Bool.true_and, Nat.reduceEqDiff, Nat.one_ne_zero, true_and, and_true, and_self, List.drop_succ_cons, List.drop_nil, List.take_succ_cons, List.take_nil]
  refine hN _ _ ?_; clear hN N
  (first | refine aW_reg fun N hN => ?_ | refine aW_reg1 fun N hN => ?_)
  simp (config := {maxSteps := 10000000}) only [go_sem, Nat.reduceAdd, Nat.reduceSub, Nat.reduceMul, Nat.reduceLT, Nat.reduceLeDiff, Nat.lt_irrefl, Nat.le_refl, List.getElem?_toArray, bne_self_eq_false, Int.le_refl, Int.reduceLE, Int.reduceLT, Int.toNat_zero, Nat.zero_mul, List.all_cons, List.all_nil, Bool.and_self, Bool.and_true, Bool.true_and, Nat.reduceEqDiff, Nat.one_ne_zero, true_and, and_true, and_self, List.drop_succ_cons, List.drop_nil, List.take_succ_cons, List.take_nil]
  refine (get_c 3 true [⟨1, [97, 46, 116, 101, 115, 116], 2⟩] [] (fun h => by cases h) noId_nil (by decide) 1 [97, 46, 116, 101, 115, 116] (by decide)).mono ?_
  rintro r h' ⟨rfl, rfl⟩
  have hp : pGet [⟨1, [97, 46, 116, 101, 115, 116], 2⟩] 1 [97, 46, 116, 101, 115, 116] = (2, true) := by decide
  rw [hp]
  simp (config := {maxSteps := 10000000}) only [go_sem, Nat.reduceAdd, Nat.reduceSub, Nat.reduceMul, Nat.reduceLT, Nat.reduceLeDiff, Nat.lt_irrefl, Nat.le_refl, List.getElem?_toArray, bne_self_eq_false, Int.le_refl, Int.reduceLE, Int.reduceLT, Int.toNat_zero, Nat.zero_mul, List.all_cons, List.all_nil, Bool.and_self, Bool.and_true, Bool.true_and, Nat.reduceEqDiff, Nat.one_ne_zero, true_and, and_true, and_self, List.drop_succ_cons, List.drop_nil, List.take_succ_cons, List.take_nil]
  refine hN _ _ ?_; clear hN N
  refine aW_reg fun N hN => ?_
  simp (config := {maxSteps := 10000000}) only [go_sem, Nat.reduceAdd, Nat.reduceSub, Nat.reduceMul, Nat.reduceLT, Nat.reduceLeDiff, Nat.lt_irrefl, Nat.le_refl, List.getElem?_toArray, bne_self_eq_false, Int.le_refl, Int.reduceLE, Int.reduceLT, Int.toNat_zero, Nat.zero_mul, List.all_cons, List.all_nil, Bool.and_self, Bool.and_true, Bool.true_and, Nat.reduceEqDiff, Nat.one_ne_zero, true_and, and_true, and_self, List.drop_succ_cons, List.drop_nil, List.take_succ_cons, List.take_nil]
  refine hN _ _ ?_; clear hN N
  exact aW_ret (Body.keep [] (.bool true) [] rfl rfl trivial (by decide) (by decide) ⟨rfl, rfl⟩)
end Go.Proofs
