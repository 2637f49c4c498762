/- Contracts of the package's functions, by the walk over abstract values. No condition. -/
import Derived.Test.YtieaamjikcjbeaaTy
import Derived.IntWalk
import Derived.IntWalk
namespace Go.Proofs
open Go Go.AH
set_option linter.unusedSimpArgs false
set_option linter.unusedVariables false
set_option maxRecDepth 10000

def lowc (c : UInt8) : UInt8 := if 65 ≤ c.toNat ∧ c.toNat ≤ 90 then c + 32 else c
def lower (s : List UInt8) : List UInt8 := s.map lowc

theorem bcells_get (l : List UInt8) (i : Nat) : (bcells l)[i]? = (l[i]?).map fun b => AV.int .u8 b.toNat := by simp [bcells]
theorem bcells_length (l : List UInt8) : (bcells l).length = l.length := by simp [bcells]
theorem bcells_set (l : List UInt8) (i : Nat) (b : UInt8) : (bcells l).set i (.int .u8 b.toNat) = bcells (l.set i b) := by simp [bcells, List.map_set]
theorem toBytes_bcells : ∀ (l : List UInt8), toBytes (bcells l) = some l
  | [] => rfl
  | b :: l => by
    have := toBytes_bcells l
    unfold bcells at this ⊢
    rw [List.map_cons, toBytes, this]
    simp

theorem upper_c (n : Int) : ACalls Try.prog 41 [.int .i32 n] [] (fun r h => r = .ret (.bool (decide (65 ≤ n) && decide (n ≤ 90))) ∧ h = []) := by
  refine acalls_body Try.func41 rfl (by decide +kernel) ?_
  simp only [List.length_nil, List.length_cons, List.length_append, Nat.zero_add, Try.ntmps41, List.replicate, List.cons_append, List.nil_append, List.append_assoc, Nat.reduceSub, Nat.reduceAdd]
  refine aW_reg fun N hN => ?_
  simp (config := {maxSteps := 10000000}) only [go_sem, Nat.reduceAdd, Nat.reduceSub, Nat.reduceMul, Nat.reduceLT, Nat.reduceLeDiff, Nat.lt_irrefl, Nat.le_refl, List.getElem?_toArray, bne_self_eq_false, Int.le_refl, Int.reduceLE, Int.reduceLT, Int.toNat_zero, Nat.zero_mul, List.all_cons, List.all_nil, Bool.and_self, Bool.and_true, Bool.true_and, Nat.reduceEqDiff, Nat.one_ne_zero, true_and, and_true, and_self, List.drop_succ_cons, List.drop_nil, List.take_succ_cons, List.take_nil]
  refine hN _ _ ?_; clear hN N
  by_cases h1 : 65 ≤ n
  all_goals
    refine aW_reg fun N hN => ?_
    simp (config := {maxSteps := 10000000}) only [go_sem, Nat.reduceAdd, Nat.reduceSub, Nat.reduceMul, Nat.reduceLT, Nat.reduceLeDiff, Nat.lt_irrefl, Nat.le_refl, List.getElem?_toArray, bne_self_eq_false, Int.le_refl, Int.reduceLE, Int.reduceLT, Int.toNat_zero, Nat.zero_mul, List.all_cons, List.all_nil, Bool.and_self, Bool.and_true, Bool.true_and, Nat.reduceEqDiff, Nat.one_ne_zero, true_and, and_true, and_self, List.drop_succ_cons, List.drop_nil, List.take_succ_cons, List.take_nil, h1, ge_iff_le]
    refine hN _ _ ?_; clear hN N
    refine aW_ret (Body.done rfl (Nat.le_refl _) ?_)
    simp [h1]

/-- What stands there when k bytes have been made small. -/
def mix (s : List UInt8) (k : Nat) : List UInt8 := lower (s.take k) ++ s.drop k
theorem mix_length (s : List UInt8) (k : Nat) : (mix s k).length = s.length := by simp [mix, lower]; omega
theorem mix_get (s : List UInt8) (k : Nat) (h : k < s.length) : (mix s k)[k]? = some s[k] := by
  rw [mix, List.getElem?_append_right (by simp [lower]; omega)]
  simp [lower, Nat.min_eq_left (Nat.le_of_lt h), h]
theorem mix_set (s : List UInt8) (k : Nat) (h : k < s.length) : (mix s k).set k (lowc s[k]) = mix s (k + 1) := by
  rw [mix, List.set_append_right _ _ (by simp [lower]; omega)]
  rw [mix, List.take_add_one, List.getElem?_eq_getElem h]
  simp only [lower, List.length_map, List.length_take, Nat.min_eq_left (Nat.le_of_lt h), Nat.sub_self, Option.toList_some, List.map_append, List.map_cons, List.map_nil, List.append_assoc]
  congr 1
  rw [List.drop_eq_getElem_cons h]
  rfl

theorem lower_c (s : List UInt8) (hs : s.length ≤ 9223372036854775806) : ACalls Try.prog 40 [.str s] [] (fun r h => r = .ret (.str (lower s)) ∧ h = []) := by
  refine acalls_body Try.func40 rfl (by decide +kernel) ?_
  simp only [List.length_nil, List.length_cons, List.length_append, Nat.zero_add, Try.ntmps40, List.replicate, List.cons_append, List.nil_append, List.append_assoc, Nat.reduceSub, Nat.reduceAdd]
  refine aW_reg fun N hN => ?_
  simp (config := {maxSteps := 10000000}) only [go_sem, Nat.reduceAdd, Nat.reduceSub, Nat.reduceMul, Nat.reduceLT, Nat.reduceLeDiff, Nat.lt_irrefl, Nat.le_refl, List.getElem?_toArray, bne_self_eq_false, Int.le_refl, Int.reduceLE, Int.reduceLT, Int.toNat_zero, Nat.zero_mul, List.all_cons, List.all_nil, Bool.and_self, Bool.and_true, Bool.true_and, Nat.reduceEqDiff, Nat.one_ne_zero, true_and, and_true, and_self, List.drop_succ_cons, List.drop_nil, List.take_succ_cons, List.take_nil]
  refine hN _ _ ?_; clear hN N
  have h1 : s.length ≤ 9223372036854775807 := by omega
  refine aW_reg fun N hN => ?_
  simp (config := {maxSteps := 10000000}) only [go_sem, Nat.reduceAdd, Nat.reduceSub, Nat.reduceMul, Nat.reduceLT, Nat.reduceLeDiff, Nat.lt_irrefl, Nat.le_refl, List.getElem?_toArray, bne_self_eq_false, Int.le_refl, Int.reduceLE, Int.reduceLT, Int.toNat_zero, Nat.zero_mul, List.all_cons, List.all_nil, Bool.and_self, Bool.and_true, Bool.true_and, Nat.reduceEqDiff, Nat.one_ne_zero, true_and, and_true, and_self, List.drop_succ_cons, List.drop_nil, List.take_succ_cons, List.take_nil, h1]
  refine hN _ _ ?_; clear hN N
  refine aW_seq_k fun N hN => ?_
  refine aW_reg fun N hN => ?_
  simp (config := {maxSteps := 10000000}) only [go_sem, Nat.reduceAdd, Nat.reduceSub, Nat.reduceMul, Nat.reduceLT, Nat.reduceLeDiff, Nat.lt_irrefl, Nat.le_refl, List.getElem?_toArray, bne_self_eq_false, Int.le_refl, Int.reduceLE, Int.reduceLT, Int.toNat_zero, Nat.zero_mul, List.all_cons, List.all_nil, Bool.and_self, Bool.and_true, Bool.true_and, Nat.reduceEqDiff, Nat.one_ne_zero, true_and, and_true, and_self, List.drop_succ_cons, List.drop_nil, List.take_succ_cons, List.take_nil]
  refine hN _ _ ?_; clear hN N
  refine aW_forget ([.str s, .unk, .str [], .gsl 0 s.length 1, .unk, .unk, .unk, .unk, .gsl 0 s.length 1, .int .i64 s.length, .int .i64 ((0 : Nat) : Int), .unk, .unk, .unk, .unk, .unk, .unk, .unk, .unk, .unk, .unk, .unk, .unk, .unk, .unk, .unk, .unk]) (by simp [LeU]) fun _ => ?_
  refine aW_block (aW_loop (fun m T h => ∃ k : Nat, k ≤ s.length ∧ m = s.length - k ∧ T = ([.str s, .unk, .str [], .gsl 0 s.length 1, .unk, .unk, .unk, .unk, .gsl 0 s.length 1, .int .i64 s.length, .int .i64 (k : Int), .unk, .unk, .unk, .unk, .unk, .unk, .unk, .unk, .unk, .unk, .unk, .unk, .unk, .unk, .unk, .unk]) ∧ h = [some (.row (bcells (mix s k)) 5 false)]) s.length ⟨0, Nat.zero_le _, rfl, rfl, by simp [mix, lower, bcells]⟩ ?_)
  rintro m T h _ ⟨k, hk, rfl, rfl, rfl⟩
  by_cases hlt : k < s.length
  · have hd : decide ((k : Int) < (s.length : Int)) = true := by simpa using hlt
    have hidx : (0 ≤ (k : Int) ∧ (k : Int) < (s.length : Int)) = True := by simp; omega
    have hget : (bcells (mix s k))[k]? = some (.int .u8 (s[k].toNat : Int)) := by rw [bcells_get, mix_get s k hlt]; rfl
    have hlb : s[k].toNat < 256 := s[k].toNat_lt
    have hw : IntKind.i32.wrap ((s[k].toNat : Nat) : Int) = (s[k].toNat : Int) := IntWalk.i32_in _ (by omega)
    refine aW_reg fun N hN => ?_
    simp (config := {maxSteps := 10000000}) only [go_sem, Nat.reduceAdd, Nat.reduceSub, Nat.reduceMul, Nat.reduceLT, Nat.reduceLeDiff, Nat.lt_irrefl, Nat.le_refl, List.getElem?_toArray, bne_self_eq_false, Int.le_refl, Int.reduceLE, Int.reduceLT, Int.toNat_zero, Nat.zero_mul, List.all_cons, List.all_nil, Bool.and_self, Bool.and_true, Bool.true_and, Nat.reduceEqDiff, Nat.one_ne_zero, true_and, and_true, and_self, List.drop_succ_cons, List.drop_nil, List.take_succ_cons, List.take_nil, hd]
    refine hN _ _ ?_; clear hN N
    refine aW_seq_k fun N hN => ?_
    refine aW_cond (b := true) rfl (fun _ => aW_skip ?_) (fun h => by cases h)
    refine hN _ _ ?_; clear hN N
    refine aW_seq_k fun N hN => ?_
    refine aW_block ?_
    refine aW_reg fun N hN => ?_
    simp (config := {maxSteps := 10000000}) only [go_sem, Nat.reduceAdd, Nat.reduceSub, Nat.reduceMul, Nat.reduceLT, Nat.reduceLeDiff, Nat.lt_irrefl, Nat.le_refl, List.getElem?_toArray, bne_self_eq_false, Int.le_refl, Int.reduceLE, Int.reduceLT, Int.toNat_zero, Nat.zero_mul, List.all_cons, List.all_nil, Bool.and_self, Bool.and_true, Bool.true_and, Nat.reduceEqDiff, Nat.one_ne_zero, true_and, and_true, and_self, List.drop_succ_cons, List.drop_nil, List.take_succ_cons, List.take_nil, hidx, hget, Int.toNat_natCast]
    refine hN _ _ ?_; clear hN N
    (first | refine aW_reg fun N hN => ?_ | refine aW_reg1 fun N hN => ?_)
    simp (config := {maxSteps := 10000000}) only [go_sem, Nat.reduceAdd, Nat.reduceSub, Nat.reduceMul, Nat.reduceLT, Nat.reduceLeDiff, Nat.lt_irrefl, Nat.le_refl, List.getElem?_toArray, bne_self_eq_false, Int.le_refl, Int.reduceLE, Int.reduceLT, Int.toNat_zero, Nat.zero_mul, List.all_cons, List.all_nil, Bool.and_self, Bool.and_true, Bool.true_and, Nat.reduceEqDiff, Nat.one_ne_zero, true_and, and_true, and_self, List.drop_succ_cons, List.drop_nil, List.take_succ_cons, List.take_nil, hw]
    refine (upper_c _).plain rfl rfl ?_
    simp only [go_sem]
    refine hN _ _ ?_; clear hN N
    have hw1 : IntKind.i64.wrap ((k : Int) + 1) = ((k + 1 : Nat) : Int) := by rw [IntWalk.i64_in _ (by omega)]; simp
    by_cases hc : 65 ≤ (s[k].toNat : Int) ∧ (s[k].toNat : Int) ≤ 90
    · have hb : (decide (65 ≤ (s[k].toNat : Int)) && decide ((s[k].toNat : Int) ≤ 90)) = true := by simp; omega
      refine aW_cond (b := true) (by simp only [go_sem, hb]) (fun _ => ?_) (fun h => by cases h)
      refine aW_reg1 fun N hN => ?_
      have h21 : IntKind.u8.wrap (IntKind.u8.wrap ((s[k].toNat : Int) + 97) - 65) = ((lowc s[k]).toNat : Int) := by
        have e1 : (lowc s[k]).toNat = s[k].toNat + 32 := by
          unfold lowc
          rw [if_pos (by omega)]
          rw [UInt8.toNat_add]
          simp
          omega
        rw [e1, IntKind.wrap_u8, IntKind.wrap_u8]
        omega
      have hst : (k + 1 ≤ (bcells (mix s k)).length) = True := by simp [bcells_length, mix_length]; omega
      simp (config := {maxSteps := 10000000}) only [go_sem, Nat.reduceAdd, Nat.reduceSub, Nat.reduceMul, Nat.reduceLT, Nat.reduceLeDiff, Nat.lt_irrefl, Nat.le_refl, List.getElem?_toArray, bne_self_eq_false, Int.le_refl, Int.reduceLE, Int.reduceLT, Int.toNat_zero, Nat.zero_mul, List.all_cons, List.all_nil, Bool.and_self, Bool.and_true, Bool.true_and, Nat.reduceEqDiff, Nat.one_ne_zero, true_and, and_true, and_self, List.drop_succ_cons, List.drop_nil, List.take_succ_cons, List.take_nil, hidx, Int.toNat_natCast, h21, hst, bcells_set, mix_set s k hlt]
      refine hN _ _ ?_; clear hN N
      refine hN _ _ ?_; clear hN N
      refine aW_reg1 fun N hN => ?_
      simp (config := {maxSteps := 10000000}) only [go_sem, Nat.reduceAdd, Nat.reduceSub, Nat.reduceMul, Nat.reduceLT, Nat.reduceLeDiff, Nat.lt_irrefl, Nat.le_refl, List.getElem?_toArray, bne_self_eq_false, Int.le_refl, Int.reduceLE, Int.reduceLT, Int.toNat_zero, Nat.zero_mul, List.all_cons, List.all_nil, Bool.and_self, Bool.and_true, Bool.true_and, Nat.reduceEqDiff, Nat.one_ne_zero, true_and, and_true, and_self, List.drop_succ_cons, List.drop_nil, List.take_succ_cons, List.take_nil, hw1]
      refine hN _ _ ?_; clear hN N
      exact ⟨s.length - (k + 1), _, _, _, by omega, Weak.forget (T0 := [.str s, .unk, .str [], .gsl 0 s.length 1, .unk, .unk, .unk, .unk, .gsl 0 s.length 1, .int .i64 s.length, .int .i64 ((k + 1 : Nat) : Int), .unk, .unk, .unk, .unk, .unk, .unk, .unk, .unk, .unk, .unk, .unk, .unk, .unk, .unk, .unk, .unk]) (by simp [LeU]) (Nat.zero_le _), k + 1, hlt, rfl, rfl, rfl⟩
    · have hb : (decide (65 ≤ (s[k].toNat : Int)) && decide ((s[k].toNat : Int) ≤ 90)) = false := by
        cases h : (decide (65 ≤ (s[k].toNat : Int)) && decide ((s[k].toNat : Int) ≤ 90)) with
        | false => rfl
        | true => simp at h; omega
      have hm : mix s (k + 1) = mix s k := by
        rw [← mix_set s k hlt]
        have e1 : lowc s[k] = s[k] := by unfold lowc; rw [if_neg (by omega)]
        rw [e1]
        apply List.ext_getElem?
        intro j
        rw [List.getElem?_set]
        split
        · rename_i hj; subst hj; rw [if_pos (by rw [mix_length]; exact hlt), mix_get s _ hlt]
        · rfl
      refine aW_cond (b := false) (by simp only [go_sem, hb]) (fun h => by cases h) (fun _ => aW_skip ?_)
      refine hN _ _ ?_; clear hN N
      refine aW_reg1 fun N hN => ?_
      simp (config := {maxSteps := 10000000}) only [go_sem, Nat.reduceAdd, Nat.reduceSub, Nat.reduceMul, Nat.reduceLT, Nat.reduceLeDiff, Nat.lt_irrefl, Nat.le_refl, List.getElem?_toArray, bne_self_eq_false, Int.le_refl, Int.reduceLE, Int.reduceLT, Int.toNat_zero, Nat.zero_mul, List.all_cons, List.all_nil, Bool.and_self, Bool.and_true, Bool.true_and, Nat.reduceEqDiff, Nat.one_ne_zero, true_and, and_true, and_self, List.drop_succ_cons, List.drop_nil, List.take_succ_cons, List.take_nil, hw1]
      refine hN _ _ ?_; clear hN N
      exact ⟨s.length - (k + 1), _, _, _, by omega, Weak.forget (T0 := [.str s, .unk, .str [], .gsl 0 s.length 1, .unk, .unk, .unk, .unk, .gsl 0 s.length 1, .int .i64 s.length, .int .i64 ((k + 1 : Nat) : Int), .unk, .unk, .unk, .unk, .unk, .unk, .unk, .unk, .unk, .unk, .unk, .unk, .unk, .unk, .unk, .unk]) (by simp [LeU]) (Nat.zero_le _), k + 1, hlt, rfl, rfl, by rw [hm]⟩
  · have hd : decide ((k : Int) < (s.length : Int)) = false := by simp; omega
    obtain rfl : k = s.length := by omega
    refine aW_reg fun N hN => ?_
    simp (config := {maxSteps := 10000000}) only [go_sem, Nat.reduceAdd, Nat.reduceSub, Nat.reduceMul, Nat.reduceLT, Nat.reduceLeDiff, Nat.lt_irrefl, Nat.le_refl, List.getElem?_toArray, bne_self_eq_false, Int.le_refl, Int.reduceLE, Int.reduceLT, Int.toNat_zero, Nat.zero_mul, List.all_cons, List.all_nil, Bool.and_self, Bool.and_true, Bool.true_and, Nat.reduceEqDiff, Nat.one_ne_zero, true_and, and_true, and_self, List.drop_succ_cons, List.drop_nil, List.take_succ_cons, List.take_nil, hd]
    refine hN _ _ ?_; clear hN N
    refine aW_seq_k fun N hN => ?_
    refine aW_cond (b := false) rfl (fun h => by cases h) (fun _ => aW_exit ?_)
    simp only [go_sem]
    clear hN N
    refine hN _ _ ?_; clear hN N
    have hm : mix s s.length = lower s := by simp [mix]
    have hcut : (s.length ≤ (bcells (lower s)).length) = True := by simp [bcells_length, lower]
    have htk : (bcells (lower s)).take s.length = bcells (lower s) := List.take_of_length_le (by simp [bcells_length, lower])
    rw [hm]
    have hre : (s.length ≤ s.length) = True := by simp
    refine aW_reg fun N hN => ?_
    simp (config := {maxSteps := 10000000}) only [go_sem, Nat.reduceAdd, Nat.reduceSub, Nat.reduceMul, Nat.reduceLT, Nat.reduceLeDiff, Nat.lt_irrefl, Nat.le_refl, List.getElem?_toArray, bne_self_eq_false, Int.le_refl, Int.reduceLE, Int.reduceLT, Int.toNat_zero, Nat.zero_mul, List.all_cons, List.all_nil, Bool.and_self, Bool.and_true, Bool.true_and, Nat.reduceEqDiff, Nat.one_ne_zero, true_and, and_true, and_self, List.drop_succ_cons, List.drop_nil, List.take_succ_cons, List.take_nil, hcut, htk, toBytes_bcells, hre]
    refine hN _ _ ?_; clear hN N
    exact aW_ret (Body.keep [] (.str (lower s)) [] rfl rfl trivial List.nodup_nil (List.nil_prefix) ⟨rfl, rfl⟩)
end Go.Proofs
