/- Contracts of the package's functions, by the walk over abstract values. No condition. -/
import Derived.Test.YtieaamjikcjbeaaM21
namespace Go.Proofs
open Go Go.AH TryTy
set_option linter.unusedSimpArgs false
set_option linter.unusedVariables false
set_option maxRecDepth 100000

def bR (m : Int) (i : Nat) : Rc := ⟨dec i, 5, 1, m + i, ad0, dec (i + 1), []⟩
def bRs (m : Int) : Nat → List Rc
  | 0 => []
  | n + 1 => bRs m n ++ [bR m n]
def ad4 : Ad := ⟨4, [0, 0, 0, 0, 0, 0, 0, 0, 0, 0, 0, 0, 0, 0, 0, 0], rfl⟩
def bEnd (n : Nat) : Rc := ⟨dec n, 1, 1, 5000, ad4, [], []⟩
def qB : Qy := ⟨0, [48], 1, 0⟩
def bT (m : Int) (n : Nat) : Td := if 8 < n then ⟨3, [], 0, [], 0⟩ else ⟨0, [ad4], if n = 0 then 5000 else m, [], (n : Int)⟩
theorem bL0 (m : Int) : tellF qB 33152 (bRs m 0 ++ [bEnd 0]) = ⟨0, [ad4], min 604800 5000, [], (0 : Nat)⟩ := by kernel_rfl
theorem bL1 (m : Int) : tellF qB 33152 (bRs m 1 ++ [bEnd 1]) = ⟨0, [ad4], min (min 604800 (m + (0 : Nat))) 5000, [], (1 : Nat)⟩ := by kernel_rfl
theorem bL2 (m : Int) : tellF qB 33152 (bRs m 2 ++ [bEnd 2]) = ⟨0, [ad4], min (min (min 604800 (m + (0 : Nat))) (m + (1 : Nat))) 5000, [], (2 : Nat)⟩ := by kernel_rfl
theorem bL3 (m : Int) : tellF qB 33152 (bRs m 3 ++ [bEnd 3]) = ⟨0, [ad4], min (min (min (min 604800 (m + (0 : Nat))) (m + (1 : Nat))) (m + (2 : Nat))) 5000, [], (3 : Nat)⟩ := by kernel_rfl
theorem bL4 (m : Int) : tellF qB 33152 (bRs m 4 ++ [bEnd 4]) = ⟨0, [ad4], min (min (min (min (min 604800 (m + (0 : Nat))) (m + (1 : Nat))) (m + (2 : Nat))) (m + (3 : Nat))) 5000, [], (4 : Nat)⟩ := by kernel_rfl
theorem bL5 (m : Int) : tellF qB 33152 (bRs m 5 ++ [bEnd 5]) = ⟨0, [ad4], min (min (min (min (min (min 604800 (m + (0 : Nat))) (m + (1 : Nat))) (m + (2 : Nat))) (m + (3 : Nat))) (m + (4 : Nat))) 5000, [], (5 : Nat)⟩ := by kernel_rfl
theorem bL6 (m : Int) : tellF qB 33152 (bRs m 6 ++ [bEnd 6]) = ⟨0, [ad4], min (min (min (min (min (min (min 604800 (m + (0 : Nat))) (m + (1 : Nat))) (m + (2 : Nat))) (m + (3 : Nat))) (m + (4 : Nat))) (m + (5 : Nat))) 5000, [], (6 : Nat)⟩ := by kernel_rfl
theorem bL7 (m : Int) : tellF qB 33152 (bRs m 7 ++ [bEnd 7]) = ⟨0, [ad4], min (min (min (min (min (min (min (min 604800 (m + (0 : Nat))) (m + (1 : Nat))) (m + (2 : Nat))) (m + (3 : Nat))) (m + (4 : Nat))) (m + (5 : Nat))) (m + (6 : Nat))) 5000, [], (7 : Nat)⟩ := by kernel_rfl
theorem bL8 (m : Int) : tellF qB 33152 (bRs m 8 ++ [bEnd 8]) = ⟨0, [ad4], min (min (min (min (min (min (min (min (min 604800 (m + (0 : Nat))) (m + (1 : Nat))) (m + (2 : Nat))) (m + (3 : Nat))) (m + (4 : Nat))) (m + (5 : Nat))) (m + (6 : Nat))) (m + (7 : Nat))) 5000, [], (8 : Nat)⟩ := by kernel_rfl
theorem bL9 (m : Int) : tellF qB 33152 (bRs m 9 ++ [bEnd 9]) = ⟨3, [], 0, [], 0⟩ := by kernel_rfl
theorem bL10 (m : Int) : tellF qB 33152 (bRs m 10 ++ [bEnd 10]) = ⟨3, [], 0, [], 0⟩ := by kernel_rfl
theorem bL11 (m : Int) : tellF qB 33152 (bRs m 11 ++ [bEnd 11]) = ⟨3, [], 0, [], 0⟩ := by kernel_rfl
theorem bL12 (m : Int) : tellF qB 33152 (bRs m 12 ++ [bEnd 12]) = ⟨3, [], 0, [], 0⟩ := by kernel_rfl
theorem bL13 (m : Int) : tellF qB 33152 (bRs m 13 ++ [bEnd 13]) = ⟨3, [], 0, [], 0⟩ := by kernel_rfl
theorem bL14 (m : Int) : tellF qB 33152 (bRs m 14 ++ [bEnd 14]) = ⟨3, [], 0, [], 0⟩ := by kernel_rfl
theorem bL15 (m : Int) : tellF qB 33152 (bRs m 15 ++ [bEnd 15]) = ⟨3, [], 0, [], 0⟩ := by kernel_rfl
theorem bL16 (m : Int) : tellF qB 33152 (bRs m 16 ++ [bEnd 16]) = ⟨3, [], 0, [], 0⟩ := by kernel_rfl
theorem bL17 (m : Int) : tellF qB 33152 (bRs m 17 ++ [bEnd 17]) = ⟨3, [], 0, [], 0⟩ := by kernel_rfl
theorem bL18 (m : Int) : tellF qB 33152 (bRs m 18 ++ [bEnd 18]) = ⟨3, [], 0, [], 0⟩ := by kernel_rfl
theorem bL19 (m : Int) : tellF qB 33152 (bRs m 19 ++ [bEnd 19]) = ⟨3, [], 0, [], 0⟩ := by kernel_rfl
theorem bL20 (m : Int) : tellF qB 33152 (bRs m 20 ++ [bEnd 20]) = ⟨3, [], 0, [], 0⟩ := by kernel_rfl
theorem bound_law (m : Int) (h0 : 0 ≤ m) (h1 : m < 1000) : ∀ (n : Nat), n ≤ 20 → tellF qB 33152 (bRs m n ++ [bEnd n]) = bT m n
  | 0, _ => (bL0 m).trans rfl
  | 1, _ => by
    have e : min (min 604800 (m + (0 : Nat))) 5000 = m := by omega
    rw [bL1, e]
    rfl
  | 2, _ => by
    have e : min (min (min 604800 (m + (0 : Nat))) (m + (1 : Nat))) 5000 = m := by omega
    rw [bL2, e]
    rfl
  | 3, _ => by
    have e : min (min (min (min 604800 (m + (0 : Nat))) (m + (1 : Nat))) (m + (2 : Nat))) 5000 = m := by omega
    rw [bL3, e]
    rfl
  | 4, _ => by
    have e : min (min (min (min (min 604800 (m + (0 : Nat))) (m + (1 : Nat))) (m + (2 : Nat))) (m + (3 : Nat))) 5000 = m := by omega
    rw [bL4, e]
    rfl
  | 5, _ => by
    have e : min (min (min (min (min (min 604800 (m + (0 : Nat))) (m + (1 : Nat))) (m + (2 : Nat))) (m + (3 : Nat))) (m + (4 : Nat))) 5000 = m := by omega
    rw [bL5, e]
    rfl
  | 6, _ => by
    have e : min (min (min (min (min (min (min 604800 (m + (0 : Nat))) (m + (1 : Nat))) (m + (2 : Nat))) (m + (3 : Nat))) (m + (4 : Nat))) (m + (5 : Nat))) 5000 = m := by omega
    rw [bL6, e]
    rfl
  | 7, _ => by
    have e : min (min (min (min (min (min (min (min 604800 (m + (0 : Nat))) (m + (1 : Nat))) (m + (2 : Nat))) (m + (3 : Nat))) (m + (4 : Nat))) (m + (5 : Nat))) (m + (6 : Nat))) 5000 = m := by omega
    rw [bL7, e]
    rfl
  | 8, _ => by
    have e : min (min (min (min (min (min (min (min (min 604800 (m + (0 : Nat))) (m + (1 : Nat))) (m + (2 : Nat))) (m + (3 : Nat))) (m + (4 : Nat))) (m + (5 : Nat))) (m + (6 : Nat))) (m + (7 : Nat))) 5000 = m := by omega
    rw [bL8, e]
    rfl
  | 9, _ => (bL9 m).trans rfl
  | 10, _ => (bL10 m).trans rfl
  | 11, _ => (bL11 m).trans rfl
  | 12, _ => (bL12 m).trans rfl
  | 13, _ => (bL13 m).trans rfl
  | 14, _ => (bL14 m).trans rfl
  | 15, _ => (bL15 m).trans rfl
  | 16, _ => (bL16 m).trans rfl
  | 17, _ => (bL17 m).trans rfl
  | 18, _ => (bL18 m).trans rfl
  | 19, _ => (bL19 m).trans rfl
  | 20, _ => (bL20 m).trans rfl
  | n + 21, h => absurd h (by omega)
theorem dec_len (n : Nat) : (dec n).length ≤ 2 := by unfold dec; split <;> simp
theorem bRs_ok (m : Int) : ∀ n, ∀ r ∈ bRs m n, rOk r
  | 0, r, h => by cases h
  | n + 1, r, h => by
    rcases List.mem_append.1 h with h | h
    · exact bRs_ok m n r h
    · obtain rfl := List.mem_singleton.1 h
      have h1 := dec_len n
      have h2 := dec_len (n + 1)
      exact ⟨by show (dec n).length ≤ _; omega, by show (dec (n + 1)).length ≤ _; omega⟩
theorem bAll_ok (m : Int) (n : Nat) : ∀ r ∈ bRs m n ++ [bEnd n], rOk r := by
  intro r h
  rcases List.mem_append.1 h with h | h
  · exact bRs_ok m n r h
  · obtain rfl := List.mem_singleton.1 h
    have h1 := dec_len n
    exact ⟨by show (dec n).length ≤ _; omega, by show ([] : List UInt8).length ≤ _; decide⟩
structure Key (P : Prop) : Prop where
  go : P
theorem share' {P Q : Prop} (f : Key P → Q) (p : P) : Q := f ⟨p⟩
def bS (k : Nat) : AV := match k with | 0 => .nilsl | k + 1 => .gsl 0 (k + 1) 23
def bH (m : Int) (k : Nat) : Heap := match k with | 0 => [] | k + 1 => [some (.row (rE.cells (bRs m (k + 1))) 52 false)]
theorem bRs_len (m : Int) : ∀ n, (bRs m n).length = n
  | 0 => rfl
  | n + 1 => by rw [bRs, List.length_append, bRs_len m n]; rfl
set_option maxHeartbeats 8000000 in
theorem bound_c (s t : Int) (hs1 : -9223372036854775808 ≤ s) (hs2 : s ≤ 9223372036854775807) (ht1 : -9223372036854775808 ≤ t) (ht2 : t ≤ 9223372036854775807) :
    ACalls Try.prog 6 [.int .i64 s, .int .i64 t] [] (fun r h => r = .ret (.bool true) ∧ h = []) := by
  have har := around_c s 21 (by decide) (by decide) hs1 hs2
  have ha0 := arnd_nonneg s 21 (by decide)
  have ha1 := arnd_lt s 21 (by decide)
  have hat := around_c t 1000 (by decide) (by decide) ht1 ht2
  have hm0 := arnd_nonneg t 1000 (by decide)
  have hm1 := arnd_lt t 1000 (by decide)
  obtain ⟨n, hn⟩ : ∃ n : Nat, arnd s 21 = (n : Int) := ⟨(arnd s 21).toNat, by omega⟩
  rw [hn] at har ha0 ha1
  generalize arnd t 1000 = m at hat hm0 hm1
  clear hn hs1 hs2 ht1 ht2
  refine acalls_body Try.func6 rfl (by decide +kernel) ?_
  simp only [List.length_nil, List.length_cons, List.length_append, Nat.zero_add, Try.ntmps6, List.replicate, List.cons_append, List.nil_append, List.append_assoc, Nat.reduceSub, Nat.reduceAdd]
  repeat' (first
    | (refine aW_reg fun N hN => ?_; simp (config := {maxSteps := 10000000}) (disch := first | (intro; intros; rename_i h; injection h; done) | omega) only [go_sem, Bool.false_or, Bool.true_or, Bool.or_true, Bool.or_false, Nat.reduceAdd, Nat.reduceSub, Nat.reduceMul, Nat.reduceLT, Nat.reduceLeDiff, Nat.lt_irrefl, Nat.le_refl, List.getElem?_toArray, bne_self_eq_false, Int.le_refl, Int.reduceLE, Int.reduceLT, Int.toNat_zero, Nat.zero_mul, List.all_cons, List.all_nil, Bool.and_self, Bool.and_true, Bool.true_and, Nat.reduceEqDiff, Nat.one_ne_zero, true_and, and_true, and_self, List.drop_succ_cons, List.drop_nil, List.take_succ_cons, List.take_nil, reduceCtorEq, Nat.sub_zero, Option.some.injEq, wrap_i64, wrap_u8, dec_t, dec_f, ite_t, ite_f, Int.toNat_natCast, Int.cast_ofNat_Int, toNat_cast_add, bcells_length, List.length_take, List.length_map, List.length_drop, List.length_append]; with_reducible refine hN _ _ ?_; clear hN N)
    | (refine aW_reg fun N hN => ?_; (try simp (config := {maxSteps := 10000000}) (disch := first | (intro; intros; rename_i h; injection h; done) | omega) only [go_sem, Bool.false_or, Bool.true_or, Bool.or_true, Bool.or_false, Nat.reduceAdd, Nat.reduceSub, Nat.reduceMul, Nat.reduceLT, Nat.reduceLeDiff, Nat.lt_irrefl, Nat.le_refl, List.getElem?_toArray, bne_self_eq_false, Int.le_refl, Int.reduceLE, Int.reduceLT, Int.toNat_zero, Nat.zero_mul, List.all_cons, List.all_nil, Bool.and_self, Bool.and_true, Bool.true_and, Nat.reduceEqDiff, Nat.one_ne_zero, true_and, and_true, and_self, List.drop_succ_cons, List.drop_nil, List.take_succ_cons, List.take_nil, reduceCtorEq, Nat.sub_zero, Option.some.injEq, wrap_i64, wrap_u8, dec_t, dec_f, ite_t, ite_f, Int.toNat_natCast, Int.cast_ofNat_Int, toNat_cast_add, bcells_length, List.length_take, List.length_map, List.length_drop, List.length_append]); (repeat ((first | (refine (har).plain (by first | rfl | simp only [renL, ren, rE.ren, aE.ren, sE.ren, acell_noid, rcell_noid]) (by first | rfl | simp only [renL, ren, rE.ren, aE.ren, sE.ren, acell_noid, rcell_noid]) ?_) | (refine (hat).plain (by first | rfl | simp only [renL, ren, rE.ren, aE.ren, sE.ren, acell_noid, rcell_noid]) (by first | rfl | simp only [renL, ren, rE.ren, aE.ren, sE.ren, acell_noid, rcell_noid]) ?_)); try simp (config := {maxSteps := 10000000}) (disch := first | (intro; intros; rename_i h; injection h; done) | omega) only [go_sem, Bool.false_or, Bool.true_or, Bool.or_true, Bool.or_false, Nat.reduceAdd, Nat.reduceSub, Nat.reduceMul, Nat.reduceLT, Nat.reduceLeDiff, Nat.lt_irrefl, Nat.le_refl, List.getElem?_toArray, bne_self_eq_false, Int.le_refl, Int.reduceLE, Int.reduceLT, Int.toNat_zero, Nat.zero_mul, List.all_cons, List.all_nil, Bool.and_self, Bool.and_true, Bool.true_and, Nat.reduceEqDiff, Nat.one_ne_zero, true_and, and_true, and_self, List.drop_succ_cons, List.drop_nil, List.take_succ_cons, List.take_nil, reduceCtorEq, Nat.sub_zero, Option.some.injEq, wrap_i64, wrap_u8, dec_t, dec_f, ite_t, ite_f, Int.toNat_natCast, Int.cast_ofNat_Int, toNat_cast_add, bcells_length, List.length_take, List.length_map, List.length_drop, List.length_append])); with_reducible refine hN _ _ ?_; clear hN N)
    | (refine aW_reg1 fun N hN => ?_; simp (config := {maxSteps := 10000000}) (disch := first | (intro; intros; rename_i h; injection h; done) | omega) only [go_sem, Bool.false_or, Bool.true_or, Bool.or_true, Bool.or_false, Nat.reduceAdd, Nat.reduceSub, Nat.reduceMul, Nat.reduceLT, Nat.reduceLeDiff, Nat.lt_irrefl, Nat.le_refl, List.getElem?_toArray, bne_self_eq_false, Int.le_refl, Int.reduceLE, Int.reduceLT, Int.toNat_zero, Nat.zero_mul, List.all_cons, List.all_nil, Bool.and_self, Bool.and_true, Bool.true_and, Nat.reduceEqDiff, Nat.one_ne_zero, true_and, and_true, and_self, List.drop_succ_cons, List.drop_nil, List.take_succ_cons, List.take_nil, reduceCtorEq, Nat.sub_zero, Option.some.injEq, wrap_i64, wrap_u8, dec_t, dec_f, ite_t, ite_f, Int.toNat_natCast, Int.cast_ofNat_Int, toNat_cast_add, bcells_length, List.length_take, List.length_map, List.length_drop, List.length_append]; with_reducible refine hN _ _ ?_; clear hN N)
    | (refine aW_reg1 fun N hN => ?_; (try simp (config := {maxSteps := 10000000}) (disch := first | (intro; intros; rename_i h; injection h; done) | omega) only [go_sem, Bool.false_or, Bool.true_or, Bool.or_true, Bool.or_false, Nat.reduceAdd, Nat.reduceSub, Nat.reduceMul, Nat.reduceLT, Nat.reduceLeDiff, Nat.lt_irrefl, Nat.le_refl, List.getElem?_toArray, bne_self_eq_false, Int.le_refl, Int.reduceLE, Int.reduceLT, Int.toNat_zero, Nat.zero_mul, List.all_cons, List.all_nil, Bool.and_self, Bool.and_true, Bool.true_and, Nat.reduceEqDiff, Nat.one_ne_zero, true_and, and_true, and_self, List.drop_succ_cons, List.drop_nil, List.take_succ_cons, List.take_nil, reduceCtorEq, Nat.sub_zero, Option.some.injEq, wrap_i64, wrap_u8, dec_t, dec_f, ite_t, ite_f, Int.toNat_natCast, Int.cast_ofNat_Int, toNat_cast_add, bcells_length, List.length_take, List.length_map, List.length_drop, List.length_append]); (repeat ((first | (refine (har).plain (by first | rfl | simp only [renL, ren, rE.ren, aE.ren, sE.ren, acell_noid, rcell_noid]) (by first | rfl | simp only [renL, ren, rE.ren, aE.ren, sE.ren, acell_noid, rcell_noid]) ?_) | (refine (hat).plain (by first | rfl | simp only [renL, ren, rE.ren, aE.ren, sE.ren, acell_noid, rcell_noid]) (by first | rfl | simp only [renL, ren, rE.ren, aE.ren, sE.ren, acell_noid, rcell_noid]) ?_)); try simp (config := {maxSteps := 10000000}) (disch := first | (intro; intros; rename_i h; injection h; done) | omega) only [go_sem, Bool.false_or, Bool.true_or, Bool.or_true, Bool.or_false, Nat.reduceAdd, Nat.reduceSub, Nat.reduceMul, Nat.reduceLT, Nat.reduceLeDiff, Nat.lt_irrefl, Nat.le_refl, List.getElem?_toArray, bne_self_eq_false, Int.le_refl, Int.reduceLE, Int.reduceLT, Int.toNat_zero, Nat.zero_mul, List.all_cons, List.all_nil, Bool.and_self, Bool.and_true, Bool.true_and, Nat.reduceEqDiff, Nat.one_ne_zero, true_and, and_true, and_self, List.drop_succ_cons, List.drop_nil, List.take_succ_cons, List.take_nil, reduceCtorEq, Nat.sub_zero, Option.some.injEq, wrap_i64, wrap_u8, dec_t, dec_f, ite_t, ite_f, Int.toNat_natCast, Int.cast_ofNat_Int, toNat_cast_add, bcells_length, List.length_take, List.length_map, List.length_drop, List.length_append])); with_reducible refine hN _ _ ?_; clear hN N)
    | (refine aW_seq_k fun N hN => ?_)
    | (refine aW_block ?_)
    | (refine aW_cond (b := true) rfl (fun _ => ?_) (fun h => by cases h))
    | (refine aW_cond (b := false) rfl (fun h => by cases h) (fun _ => ?_))
    | (refine aW_skip ?_)
    | (refine aW_exit ?_)
    | (with_reducible refine nx_normal ?_)
    | (first | (with_reducible refine hN _ _ ?_; clear hN N) | (clear hN N; with_reducible refine hN _ _ ?_; clear hN N) | (clear hN N; clear hN N; with_reducible refine hN _ _ ?_; clear hN N) | (clear hN N; clear hN N; clear hN N; with_reducible refine hN _ _ ?_; clear hN N))
    | (with_reducible refine nx_exit ?_)
    | (with_reducible refine nx_ret ?_)
    | (with_reducible refine ib_normal ?_)
    | (with_reducible refine ib_exit ?_)
    | (with_reducible refine ib_ret ?_)
    | (with_reducible refine ib_exit_ne (by decide) ?_)
    | (with_reducible refine for_exit ?_)
    | (with_reducible refine for_ret ?_)
    | (with_reducible refine forq_exit ?_)
    | (with_reducible refine forq_ret ?_)
    | (with_reducible refine round_exit ?_)
    | (with_reducible refine round_ret ?_))
  refine aW_forget ((.int .i64 (n : Int) :: .int .i64 m :: .unk :: .unk :: .bool false :: bS 0 :: .int .i64 ((0 : Nat) : Int) :: .unk :: .unk :: .unk :: .unk :: .unk :: .unk :: .unk :: .unk :: .unk :: .unk :: .unk :: .unk :: .unk :: .unk :: .unk :: .unk :: .unk :: .unk :: .unk :: .unk :: .unk :: .unk :: .unk :: .unk :: .unk :: .unk :: .unk :: .unk :: .unk :: .unk :: .unk :: .unk :: .unk :: .unk :: .unk :: .unk :: .unk :: .unk :: .unk :: .unk :: .unk :: .unk :: .unk :: .unk :: .unk :: .unk :: .unk :: .unk :: .unk :: .unk :: .unk :: .unk :: .unk :: .unk :: .unk :: .unk :: .unk :: .unk :: .unk :: .unk :: .unk :: .unk :: .unk :: .unk :: .unk :: .unk :: .unk :: .unk :: .unk :: .unk :: .unk :: .unk :: .unk :: .unk :: .unk :: .unk :: .unk :: .unk :: .unk :: .unk :: .unk :: .unk :: .unk :: .unk :: .unk :: .unk :: .unk :: .unk :: .unk :: .unk :: .unk :: .unk :: .unk :: .unk :: .unk :: .unk :: .unk :: [])) (by simp [LeU, bS]) fun _ => ?_
  refine aW_for (fun k => ((.int .i64 (n : Int) :: .int .i64 m :: .unk :: .unk :: .bool false :: bS k :: .int .i64 (k : Int) :: .unk :: .unk :: .unk :: .unk :: .unk :: .unk :: .unk :: .unk :: .unk :: .unk :: .unk :: .unk :: .unk :: .unk :: .unk :: .unk :: .unk :: .unk :: .unk :: .unk :: .unk :: .unk :: .unk :: .unk :: .unk :: .unk :: .unk :: .unk :: .unk :: .unk :: .unk :: .unk :: .unk :: .unk :: .unk :: .unk :: .unk :: .unk :: .unk :: .unk :: .unk :: .unk :: .unk :: .unk :: .unk :: .unk :: .unk :: .unk :: .unk :: .unk :: .unk :: .unk :: .unk :: .unk :: .unk :: .unk :: .unk :: .unk :: .unk :: .unk :: .unk :: .unk :: .unk :: .unk :: .unk :: .unk :: .unk :: .unk :: .unk :: .unk :: .unk :: .unk :: .unk :: .unk :: .unk :: .unk :: .unk :: .unk :: .unk :: .unk :: .unk :: .unk :: .unk :: .unk :: .unk :: .unk :: .unk :: .unk :: .unk :: .unk :: .unk :: .unk :: .unk :: .unk :: .unk :: .unk :: .unk :: []), bH m k)) n (fun hn => Weak.forget (by simp [LeU, bS]) (by simp)) ?_
  intro k hk _
  simp only
  by_cases hlt : k < n
  · have hd1 := dec_c k (by omega)
    have hd2 := dec_c (k + 1) (by omega)
    have hw1 : IntKind.i64.wrap ((k : Int) + 1) = ((k + 1 : Nat) : Int) := by rw [IntWalk.i64_in _ (by omega)]; simp
    have hw2 : IntKind.i64.wrap (m + (k : Int)) = m + (k : Int) := IntWalk.i64_in _ (by omega)
    have hrec : rcell (bR m k) = [.str (dec k), .int .i64 5, .int .i64 1, .int .i64 (m + (k : Int)), .int .i64 0, .int .u8 0, .int .u8 0, .int .u8 0, .int .u8 0, .int .u8 0, .int .u8 0, .int .u8 0, .int .u8 0, .int .u8 0, .int .u8 0, .int .u8 0, .int .u8 0, .int .u8 0, .int .u8 0, .int .u8 0, .int .u8 0, .str (dec (k + 1)), .str []] := rfl
    repeat' (first
      | (refine aW_reg fun N hN => ?_; simp (config := {maxSteps := 10000000}) (disch := first | (intro; intros; rename_i h; injection h; done) | omega) only [go_sem, Bool.false_or, Bool.true_or, Bool.or_true, Bool.or_false, Nat.reduceAdd, Nat.reduceSub, Nat.reduceMul, Nat.reduceLT, Nat.reduceLeDiff, Nat.lt_irrefl, Nat.le_refl, List.getElem?_toArray, bne_self_eq_false, Int.le_refl, Int.reduceLE, Int.reduceLT, Int.toNat_zero, Nat.zero_mul, List.all_cons, List.all_nil, Bool.and_self, Bool.and_true, Bool.true_and, Nat.reduceEqDiff, Nat.one_ne_zero, true_and, and_true, and_self, List.drop_succ_cons, List.drop_nil, List.take_succ_cons, List.take_nil, reduceCtorEq, Nat.sub_zero, Option.some.injEq, wrap_i64, wrap_u8, dec_t, dec_f, ite_t, ite_f, Int.toNat_natCast, Int.cast_ofNat_Int, toNat_cast_add, bcells_length, List.length_take, List.length_map, List.length_drop, List.length_append]; with_reducible refine hN _ _ ?_; clear hN N)
      | (refine aW_reg1 fun N hN => ?_; simp (config := {maxSteps := 10000000}) (disch := first | (intro; intros; rename_i h; injection h; done) | omega) only [go_sem, Bool.false_or, Bool.true_or, Bool.or_true, Bool.or_false, Nat.reduceAdd, Nat.reduceSub, Nat.reduceMul, Nat.reduceLT, Nat.reduceLeDiff, Nat.lt_irrefl, Nat.le_refl, List.getElem?_toArray, bne_self_eq_false, Int.le_refl, Int.reduceLE, Int.reduceLT, Int.toNat_zero, Nat.zero_mul, List.all_cons, List.all_nil, Bool.and_self, Bool.and_true, Bool.true_and, Nat.reduceEqDiff, Nat.one_ne_zero, true_and, and_true, and_self, List.drop_succ_cons, List.drop_nil, List.take_succ_cons, List.take_nil, reduceCtorEq, Nat.sub_zero, Option.some.injEq, wrap_i64, wrap_u8, dec_t, dec_f, ite_t, ite_f, Int.toNat_natCast, Int.cast_ofNat_Int, toNat_cast_add, bcells_length, List.length_take, List.length_map, List.length_drop, List.length_append]; with_reducible refine hN _ _ ?_; clear hN N)
      | (refine aW_seq_k fun N hN => ?_)
      | (refine aW_block ?_)
      | (refine aW_cond (b := true) rfl (fun _ => ?_) (fun h => by cases h))
      | (refine aW_cond (b := false) rfl (fun h => by cases h) (fun _ => ?_))
      | (refine aW_skip ?_)
      | (refine aW_exit ?_)
      | (with_reducible refine nx_normal ?_)
      | (first | (with_reducible refine hN _ _ ?_; clear hN N) | (clear hN N; with_reducible refine hN _ _ ?_; clear hN N) | (clear hN N; clear hN N; with_reducible refine hN _ _ ?_; clear hN N) | (clear hN N; clear hN N; clear hN N; with_reducible refine hN _ _ ?_; clear hN N))
      | (with_reducible refine nx_exit ?_)
      | (with_reducible refine nx_ret ?_)
      | (with_reducible refine ib_normal ?_)
      | (with_reducible refine ib_exit ?_)
      | (with_reducible refine ib_ret ?_)
      | (with_reducible refine ib_exit_ne (by decide) ?_)
      | (with_reducible refine for_exit ?_)
      | (with_reducible refine for_ret ?_)
      | (with_reducible refine forq_exit ?_)
      | (with_reducible refine forq_ret ?_)
      | (with_reducible refine round_exit ?_)
      | (with_reducible refine round_ret ?_))
    cases k with
    | zero =>
      simp only [bS, bH] at *
      refine aW_reg1 fun N hN => ?_
      simp (config := {maxSteps := 10000000}) (disch := first | (intro; intros; rename_i h; injection h; done) | omega) only [go_sem, Bool.false_or, Bool.true_or, Bool.or_true, Bool.or_false, Nat.reduceAdd, Nat.reduceSub, Nat.reduceMul, Nat.reduceLT, Nat.reduceLeDiff, Nat.lt_irrefl, Nat.le_refl, List.getElem?_toArray, bne_self_eq_false, Int.le_refl, Int.reduceLE, Int.reduceLT, Int.toNat_zero, Nat.zero_mul, List.all_cons, List.all_nil, Bool.and_self, Bool.and_true, Bool.true_and, Nat.reduceEqDiff, Nat.one_ne_zero, true_and, and_true, and_self, List.drop_succ_cons, List.drop_nil, List.take_succ_cons, List.take_nil, reduceCtorEq, Nat.sub_zero, Option.some.injEq, wrap_i64, wrap_u8, dec_t, dec_f, ite_t, ite_f, Int.toNat_natCast, Int.cast_ofNat_Int, toNat_cast_add, bcells_length, List.length_take, List.length_map, List.length_drop, List.length_append, hw1, hw2]
      refine hd1.plain rfl rfl ?_
      simp (config := {maxSteps := 10000000}) (disch := first | (intro; intros; rename_i h; injection h; done) | omega) only [go_sem, Bool.false_or, Bool.true_or, Bool.or_true, Bool.or_false, Nat.reduceAdd, Nat.reduceSub, Nat.reduceMul, Nat.reduceLT, Nat.reduceLeDiff, Nat.lt_irrefl, Nat.le_refl, List.getElem?_toArray, bne_self_eq_false, Int.le_refl, Int.reduceLE, Int.reduceLT, Int.toNat_zero, Nat.zero_mul, List.all_cons, List.all_nil, Bool.and_self, Bool.and_true, Bool.true_and, Nat.reduceEqDiff, Nat.one_ne_zero, true_and, and_true, and_self, List.drop_succ_cons, List.drop_nil, List.take_succ_cons, List.take_nil, reduceCtorEq, Nat.sub_zero, Option.some.injEq, wrap_i64, wrap_u8, dec_t, dec_f, ite_t, ite_f, Int.toNat_natCast, Int.cast_ofNat_Int, toNat_cast_add, bcells_length, List.length_take, List.length_map, List.length_drop, List.length_append, hw1, hw2]
      refine hd2.plain rfl rfl ?_
      simp (config := {maxSteps := 10000000}) (disch := first | (intro; intros; rename_i h; injection h; done) | omega) only [go_sem, Bool.false_or, Bool.true_or, Bool.or_true, Bool.or_false, Nat.reduceAdd, Nat.reduceSub, Nat.reduceMul, Nat.reduceLT, Nat.reduceLeDiff, Nat.lt_irrefl, Nat.le_refl, List.getElem?_toArray, bne_self_eq_false, Int.le_refl, Int.reduceLE, Int.reduceLT, Int.toNat_zero, Nat.zero_mul, List.all_cons, List.all_nil, Bool.and_self, Bool.and_true, Bool.true_and, Nat.reduceEqDiff, Nat.one_ne_zero, true_and, and_true, and_self, List.drop_succ_cons, List.drop_nil, List.take_succ_cons, List.take_nil, reduceCtorEq, Nat.sub_zero, Option.some.injEq, wrap_i64, wrap_u8, dec_t, dec_f, ite_t, ite_f, Int.toNat_natCast, Int.cast_ofNat_Int, toNat_cast_add, bcells_length, List.length_take, List.length_map, List.length_drop, List.length_append, hw1, hw2]
      repeat (first | (with_reducible refine nx_normal ?_) | (with_reducible refine hN _ _ ?_; clear hN N) | (clear hN N; with_reducible refine hN _ _ ?_; clear hN N))
      repeat' (first
        | (refine aW_reg fun N hN => ?_; simp (config := {maxSteps := 10000000}) (disch := first | (intro; intros; rename_i h; injection h; done) | omega) only [go_sem, Bool.false_or, Bool.true_or, Bool.or_true, Bool.or_false, Nat.reduceAdd, Nat.reduceSub, Nat.reduceMul, Nat.reduceLT, Nat.reduceLeDiff, Nat.lt_irrefl, Nat.le_refl, List.getElem?_toArray, bne_self_eq_false, Int.le_refl, Int.reduceLE, Int.reduceLT, Int.toNat_zero, Nat.zero_mul, List.all_cons, List.all_nil, Bool.and_self, Bool.and_true, Bool.true_and, Nat.reduceEqDiff, Nat.one_ne_zero, true_and, and_true, and_self, List.drop_succ_cons, List.drop_nil, List.take_succ_cons, List.take_nil, reduceCtorEq, Nat.sub_zero, Option.some.injEq, wrap_i64, wrap_u8, dec_t, dec_f, ite_t, ite_f, Int.toNat_natCast, Int.cast_ofNat_Int, toNat_cast_add, bcells_length, List.length_take, List.length_map, List.length_drop, List.length_append, hw1]; with_reducible refine hN _ _ ?_; clear hN N)
        | (refine aW_reg1 fun N hN => ?_; simp (config := {maxSteps := 10000000}) (disch := first | (intro; intros; rename_i h; injection h; done) | omega) only [go_sem, Bool.false_or, Bool.true_or, Bool.or_true, Bool.or_false, Nat.reduceAdd, Nat.reduceSub, Nat.reduceMul, Nat.reduceLT, Nat.reduceLeDiff, Nat.lt_irrefl, Nat.le_refl, List.getElem?_toArray, bne_self_eq_false, Int.le_refl, Int.reduceLE, Int.reduceLT, Int.toNat_zero, Nat.zero_mul, List.all_cons, List.all_nil, Bool.and_self, Bool.and_true, Bool.true_and, Nat.reduceEqDiff, Nat.one_ne_zero, true_and, and_true, and_self, List.drop_succ_cons, List.drop_nil, List.take_succ_cons, List.take_nil, reduceCtorEq, Nat.sub_zero, Option.some.injEq, wrap_i64, wrap_u8, dec_t, dec_f, ite_t, ite_f, Int.toNat_natCast, Int.cast_ofNat_Int, toNat_cast_add, bcells_length, List.length_take, List.length_map, List.length_drop, List.length_append, hw1]; with_reducible refine hN _ _ ?_; clear hN N)
        | (refine aW_seq_k fun N hN => ?_)
        | (refine aW_block ?_)
        | (refine aW_cond (b := true) rfl (fun _ => ?_) (fun h => by cases h))
        | (refine aW_cond (b := false) rfl (fun h => by cases h) (fun _ => ?_))
        | (refine aW_skip ?_)
        | (refine aW_exit ?_)
        | (with_reducible refine nx_normal ?_)
        | (first | (with_reducible refine hN _ _ ?_; clear hN N) | (clear hN N; with_reducible refine hN _ _ ?_; clear hN N) | (clear hN N; clear hN N; with_reducible refine hN _ _ ?_; clear hN N) | (clear hN N; clear hN N; clear hN N; with_reducible refine hN _ _ ?_; clear hN N))
        | (with_reducible refine nx_exit ?_)
        | (with_reducible refine nx_ret ?_)
        | (with_reducible refine ib_normal ?_)
        | (with_reducible refine ib_exit ?_)
        | (with_reducible refine ib_ret ?_)
        | (with_reducible refine ib_exit_ne (by decide) ?_)
        | (with_reducible refine for_exit ?_)
        | (with_reducible refine for_ret ?_)
        | (with_reducible refine forq_exit ?_)
        | (with_reducible refine forq_ret ?_)
        | (with_reducible refine round_exit ?_)
        | (with_reducible refine round_ret ?_))
      have hone : rE.cells (bRs m (0 + 1)) = [.str (dec 0), .int .i64 5, .int .i64 1, .int .i64 (m + ((0 : Nat) : Int)), .int .i64 0, .int .u8 0, .int .u8 0, .int .u8 0, .int .u8 0, .int .u8 0, .int .u8 0, .int .u8 0, .int .u8 0, .int .u8 0, .int .u8 0, .int .u8 0, .int .u8 0, .int .u8 0, .int .u8 0, .int .u8 0, .int .u8 0, .str (dec (0 + 1)), .str []] := rfl
      exact ⟨by omega, _, Weak.lit [1] (by simp [LeL, LeV, ren, renL, pf, rE.ren]) (by simp at hone; simp [Keeps, renB, renL, ren, rE.ren, hone, pf]) (by decide) (by simp)⟩
    | succ k' =>
      have hml : (rE.cells (bRs m (k' + 1))).length = (k' + 1) * 23 := by rw [rE.length, bRs_len]; rfl
      have hmt : (rE.cells (bRs m (k' + 1))).take ((k' + 1) * 23) = rE.cells (bRs m (k' + 1)) := List.take_of_length_le (by omega)
      have hms : rE.cells (bRs m (k' + 1)) ++ rcell (bR m (k' + 1)) = rE.cells (bRs m (k' + 1 + 1)) := rE.snoc _ (bR m (k' + 1))
      rw [hrec] at hms
      simp only [bS, bH] at *
      refine aW_reg1 fun N hN => ?_
      simp (config := {maxSteps := 10000000}) (disch := first | (intro; intros; rename_i h; injection h; done) | omega) only [go_sem, Bool.false_or, Bool.true_or, Bool.or_true, Bool.or_false, Nat.reduceAdd, Nat.reduceSub, Nat.reduceMul, Nat.reduceLT, Nat.reduceLeDiff, Nat.lt_irrefl, Nat.le_refl, List.getElem?_toArray, bne_self_eq_false, Int.le_refl, Int.reduceLE, Int.reduceLT, Int.toNat_zero, Nat.zero_mul, List.all_cons, List.all_nil, Bool.and_self, Bool.and_true, Bool.true_and, Nat.reduceEqDiff, Nat.one_ne_zero, true_and, and_true, and_self, List.drop_succ_cons, List.drop_nil, List.take_succ_cons, List.take_nil, reduceCtorEq, Nat.sub_zero, Option.some.injEq, wrap_i64, wrap_u8, dec_t, dec_f, ite_t, ite_f, Int.toNat_natCast, Int.cast_ofNat_Int, toNat_cast_add, bcells_length, List.length_take, List.length_map, List.length_drop, List.length_append, hw1, hw2]
      refine hd1.plain rfl rfl ?_
      simp (config := {maxSteps := 10000000}) (disch := first | (intro; intros; rename_i h; injection h; done) | omega) only [go_sem, Bool.false_or, Bool.true_or, Bool.or_true, Bool.or_false, Nat.reduceAdd, Nat.reduceSub, Nat.reduceMul, Nat.reduceLT, Nat.reduceLeDiff, Nat.lt_irrefl, Nat.le_refl, List.getElem?_toArray, bne_self_eq_false, Int.le_refl, Int.reduceLE, Int.reduceLT, Int.toNat_zero, Nat.zero_mul, List.all_cons, List.all_nil, Bool.and_self, Bool.and_true, Bool.true_and, Nat.reduceEqDiff, Nat.one_ne_zero, true_and, and_true, and_self, List.drop_succ_cons, List.drop_nil, List.take_succ_cons, List.take_nil, reduceCtorEq, Nat.sub_zero, Option.some.injEq, wrap_i64, wrap_u8, dec_t, dec_f, ite_t, ite_f, Int.toNat_natCast, Int.cast_ofNat_Int, toNat_cast_add, bcells_length, List.length_take, List.length_map, List.length_drop, List.length_append, hw1, hw2]
      refine hd2.plain rfl rfl ?_
      simp (config := {maxSteps := 10000000}) (disch := first | (intro; intros; rename_i h; injection h; done) | omega) only [go_sem, Bool.false_or, Bool.true_or, Bool.or_true, Bool.or_false, Nat.reduceAdd, Nat.reduceSub, Nat.reduceMul, Nat.reduceLT, Nat.reduceLeDiff, Nat.lt_irrefl, Nat.le_refl, List.getElem?_toArray, bne_self_eq_false, Int.le_refl, Int.reduceLE, Int.reduceLT, Int.toNat_zero, Nat.zero_mul, List.all_cons, List.all_nil, Bool.and_self, Bool.and_true, Bool.true_and, Nat.reduceEqDiff, Nat.one_ne_zero, true_and, and_true, and_self, List.drop_succ_cons, List.drop_nil, List.take_succ_cons, List.take_nil, reduceCtorEq, Nat.sub_zero, Option.some.injEq, wrap_i64, wrap_u8, dec_t, dec_f, ite_t, ite_f, Int.toNat_natCast, Int.cast_ofNat_Int, toNat_cast_add, bcells_length, List.length_take, List.length_map, List.length_drop, List.length_append, hw1, hw2, hml, hmt, hms]
      repeat (first | (with_reducible refine nx_normal ?_) | (with_reducible refine hN _ _ ?_; clear hN N) | (clear hN N; with_reducible refine hN _ _ ?_; clear hN N))
      repeat' (first
        | (refine aW_reg fun N hN => ?_; simp (config := {maxSteps := 10000000}) (disch := first | (intro; intros; rename_i h; injection h; done) | omega) only [go_sem, Bool.false_or, Bool.true_or, Bool.or_true, Bool.or_false, Nat.reduceAdd, Nat.reduceSub, Nat.reduceMul, Nat.reduceLT, Nat.reduceLeDiff, Nat.lt_irrefl, Nat.le_refl, List.getElem?_toArray, bne_self_eq_false, Int.le_refl, Int.reduceLE, Int.reduceLT, Int.toNat_zero, Nat.zero_mul, List.all_cons, List.all_nil, Bool.and_self, Bool.and_true, Bool.true_and, Nat.reduceEqDiff, Nat.one_ne_zero, true_and, and_true, and_self, List.drop_succ_cons, List.drop_nil, List.take_succ_cons, List.take_nil, reduceCtorEq, Nat.sub_zero, Option.some.injEq, wrap_i64, wrap_u8, dec_t, dec_f, ite_t, ite_f, Int.toNat_natCast, Int.cast_ofNat_Int, toNat_cast_add, bcells_length, List.length_take, List.length_map, List.length_drop, List.length_append, hw1]; with_reducible refine hN _ _ ?_; clear hN N)
        | (refine aW_reg1 fun N hN => ?_; simp (config := {maxSteps := 10000000}) (disch := first | (intro; intros; rename_i h; injection h; done) | omega) only [go_sem, Bool.false_or, Bool.true_or, Bool.or_true, Bool.or_false, Nat.reduceAdd, Nat.reduceSub, Nat.reduceMul, Nat.reduceLT, Nat.reduceLeDiff, Nat.lt_irrefl, Nat.le_refl, List.getElem?_toArray, bne_self_eq_false, Int.le_refl, Int.reduceLE, Int.reduceLT, Int.toNat_zero, Nat.zero_mul, List.all_cons, List.all_nil, Bool.and_self, Bool.and_true, Bool.true_and, Nat.reduceEqDiff, Nat.one_ne_zero, true_and, and_true, and_self, List.drop_succ_cons, List.drop_nil, List.take_succ_cons, List.take_nil, reduceCtorEq, Nat.sub_zero, Option.some.injEq, wrap_i64, wrap_u8, dec_t, dec_f, ite_t, ite_f, Int.toNat_natCast, Int.cast_ofNat_Int, toNat_cast_add, bcells_length, List.length_take, List.length_map, List.length_drop, List.length_append, hw1]; with_reducible refine hN _ _ ?_; clear hN N)
        | (refine aW_seq_k fun N hN => ?_)
        | (refine aW_block ?_)
        | (refine aW_cond (b := true) rfl (fun _ => ?_) (fun h => by cases h))
        | (refine aW_cond (b := false) rfl (fun h => by cases h) (fun _ => ?_))
        | (refine aW_skip ?_)
        | (refine aW_exit ?_)
        | (with_reducible refine nx_normal ?_)
        | (first | (with_reducible refine hN _ _ ?_; clear hN N) | (clear hN N; with_reducible refine hN _ _ ?_; clear hN N) | (clear hN N; clear hN N; with_reducible refine hN _ _ ?_; clear hN N) | (clear hN N; clear hN N; clear hN N; with_reducible refine hN _ _ ?_; clear hN N))
        | (with_reducible refine nx_exit ?_)
        | (with_reducible refine nx_ret ?_)
        | (with_reducible refine ib_normal ?_)
        | (with_reducible refine ib_exit ?_)
        | (with_reducible refine ib_ret ?_)
        | (with_reducible refine ib_exit_ne (by decide) ?_)
        | (with_reducible refine for_exit ?_)
        | (with_reducible refine for_ret ?_)
        | (with_reducible refine forq_exit ?_)
        | (with_reducible refine forq_ret ?_)
        | (with_reducible refine round_exit ?_)
        | (with_reducible refine round_ret ?_))
      exact ⟨by omega, _, Weak.lit [2] (by simp [LeL, LeV, ren, renL, pf, rE.ren]) (by simp [Keeps, renB, renL, ren, rE.ren, pf]) (by decide) (by simp)⟩
  · obtain rfl : k = n := by omega
    have hdn := dec_c k (by omega)
    have had : rcell (bEnd k) = [.str (dec k), .int .i64 1, .int .i64 1, .int .i64 5000, .int .i64 4, .int .u8 0, .int .u8 0, .int .u8 0, .int .u8 0, .int .u8 0, .int .u8 0, .int .u8 0, .int .u8 0, .int .u8 0, .int .u8 0, .int .u8 0, .int .u8 0, .int .u8 0, .int .u8 0, .int .u8 0, .int .u8 0, .str [], .str []] := rfl
    have hal : (bRs m k ++ [bEnd k]).length = k + 1 := by rw [List.length_append, bRs_len]; rfl
    have hbs1 : 0 < k → bS k = .gsl 0 k 23 := fun h => by cases k with | zero => omega | succ n => rfl
    have hbh1 : 0 < k → bH m k = [some (.row (rE.cells (bRs m k)) 52 false)] := fun h => by cases k with | zero => omega | succ n => rfl
    have hml : (rE.cells (bRs m k)).length = k * 23 := by rw [rE.length, bRs_len]; rfl
    have hmt : (rE.cells (bRs m k)).take (k * 23) = rE.cells (bRs m k) := List.take_of_length_le (by omega)
    have hms : rE.cells (bRs m k) ++ rcell (bEnd k) = rE.cells (bRs m k ++ [bEnd k]) := rE.snoc _ (bEnd k)
    have h1k : IntKind.i64.wrap (0 + 1) = 1 := by decide
    rcases Nat.eq_zero_or_pos k with h0 | h0
    case' inl =>
      have hbs : bS k = .nilsl := by rw [h0]; rfl
      have hbh : bH m k = [] := by rw [h0]; rfl
      have hbl : rE.cells (bRs m k ++ [bEnd k]) = rcell (bEnd k) := by rw [h0]; rfl
      rw [had] at hbl
      have hk1 : k + 1 = 1 := by omega
      rw [hbs, hbh]
      repeat' (first
        | (refine aW_reg fun N hN => ?_; simp (config := {maxSteps := 10000000}) (disch := first | (intro; intros; rename_i h; injection h; done) | omega) only [go_sem, Bool.false_or, Bool.true_or, Bool.or_true, Bool.or_false, Nat.reduceAdd, Nat.reduceSub, Nat.reduceMul, Nat.reduceLT, Nat.reduceLeDiff, Nat.lt_irrefl, Nat.le_refl, List.getElem?_toArray, bne_self_eq_false, Int.le_refl, Int.reduceLE, Int.reduceLT, Int.toNat_zero, Nat.zero_mul, List.all_cons, List.all_nil, Bool.and_self, Bool.and_true, Bool.true_and, Nat.reduceEqDiff, Nat.one_ne_zero, true_and, and_true, and_self, List.drop_succ_cons, List.drop_nil, List.take_succ_cons, List.take_nil, reduceCtorEq, Nat.sub_zero, Option.some.injEq, wrap_i64, wrap_u8, dec_t, dec_f, ite_t, ite_f, Int.toNat_natCast, Int.cast_ofNat_Int, toNat_cast_add, bcells_length, List.length_take, List.length_map, List.length_drop, List.length_append]; with_reducible refine hN _ _ ?_; clear hN N)
        | (refine aW_reg1 fun N hN => ?_; simp (config := {maxSteps := 10000000}) (disch := first | (intro; intros; rename_i h; injection h; done) | omega) only [go_sem, Bool.false_or, Bool.true_or, Bool.or_true, Bool.or_false, Nat.reduceAdd, Nat.reduceSub, Nat.reduceMul, Nat.reduceLT, Nat.reduceLeDiff, Nat.lt_irrefl, Nat.le_refl, List.getElem?_toArray, bne_self_eq_false, Int.le_refl, Int.reduceLE, Int.reduceLT, Int.toNat_zero, Nat.zero_mul, List.all_cons, List.all_nil, Bool.and_self, Bool.and_true, Bool.true_and, Nat.reduceEqDiff, Nat.one_ne_zero, true_and, and_true, and_self, List.drop_succ_cons, List.drop_nil, List.take_succ_cons, List.take_nil, reduceCtorEq, Nat.sub_zero, Option.some.injEq, wrap_i64, wrap_u8, dec_t, dec_f, ite_t, ite_f, Int.toNat_natCast, Int.cast_ofNat_Int, toNat_cast_add, bcells_length, List.length_take, List.length_map, List.length_drop, List.length_append]; with_reducible refine hN _ _ ?_; clear hN N)
        | (refine aW_seq_k fun N hN => ?_)
        | (refine aW_block ?_)
        | (refine aW_cond (b := true) rfl (fun _ => ?_) (fun h => by cases h))
        | (refine aW_cond (b := false) rfl (fun h => by cases h) (fun _ => ?_))
        | (refine aW_skip ?_)
        | (refine aW_exit ?_)
        | (with_reducible refine nx_normal ?_)
        | (first | (with_reducible refine hN _ _ ?_; clear hN N) | (clear hN N; with_reducible refine hN _ _ ?_; clear hN N) | (clear hN N; clear hN N; with_reducible refine hN _ _ ?_; clear hN N) | (clear hN N; clear hN N; clear hN N; with_reducible refine hN _ _ ?_; clear hN N))
        | (with_reducible refine nx_exit ?_)
        | (with_reducible refine nx_ret ?_)
        | (with_reducible refine ib_normal ?_)
        | (with_reducible refine ib_exit ?_)
        | (with_reducible refine ib_ret ?_)
        | (with_reducible refine ib_exit_ne (by decide) ?_)
        | (with_reducible refine for_exit ?_)
        | (with_reducible refine for_ret ?_)
        | (with_reducible refine forq_exit ?_)
        | (with_reducible refine forq_ret ?_)
        | (with_reducible refine round_exit ?_)
        | (with_reducible refine round_ret ?_))
      refine aW_dreg1 mixed ⟨[2, 5, 6, 7], [[0, 1, 3], [4], [], [], []], [[0, 1, 3], [0, 3, 4], [0], [], []], [[], [], [1], [], [1, 2, 3], [1, 2, 3, 4], [0, 1, 2, 3, 4, 5], [0, 1, 2, 3, 4, 5, 6]]⟩ (by decide +kernel) fun N hN => ?_
      simp (config := {maxSteps := 10000000}) (disch := first | (intro; intros; rename_i h; injection h; done) | omega) only [go_sem, Bool.false_or, Bool.true_or, Bool.or_true, Bool.or_false, Nat.reduceAdd, Nat.reduceSub, Nat.reduceMul, Nat.reduceLT, Nat.reduceLeDiff, Nat.lt_irrefl, Nat.le_refl, List.getElem?_toArray, bne_self_eq_false, Int.le_refl, Int.reduceLE, Int.reduceLT, Int.toNat_zero, Nat.zero_mul, List.all_cons, List.all_nil, Bool.and_self, Bool.and_true, Bool.true_and, Nat.reduceEqDiff, Nat.one_ne_zero, true_and, and_true, and_self, List.drop_succ_cons, List.drop_nil, List.take_succ_cons, List.take_nil, reduceCtorEq, Nat.sub_zero, Option.some.injEq, wrap_i64, wrap_u8, dec_t, dec_f, ite_t, ite_f, Int.toNat_natCast, Int.cast_ofNat_Int, toNat_cast_add, bcells_length, List.length_take, List.length_map, List.length_drop, List.length_append]
      refine hdn.plain rfl rfl ?_
      simp (config := {maxSteps := 10000000}) (disch := first | (intro; intros; rename_i h; injection h; done) | omega) only [go_sem, Bool.false_or, Bool.true_or, Bool.or_true, Bool.or_false, Nat.reduceAdd, Nat.reduceSub, Nat.reduceMul, Nat.reduceLT, Nat.reduceLeDiff, Nat.lt_irrefl, Nat.le_refl, List.getElem?_toArray, bne_self_eq_false, Int.le_refl, Int.reduceLE, Int.reduceLT, Int.toNat_zero, Nat.zero_mul, List.all_cons, List.all_nil, Bool.and_self, Bool.and_true, Bool.true_and, Nat.reduceEqDiff, Nat.one_ne_zero, true_and, and_true, and_self, List.drop_succ_cons, List.drop_nil, List.take_succ_cons, List.take_nil, reduceCtorEq, Nat.sub_zero, Option.some.injEq, wrap_i64, wrap_u8, dec_t, dec_f, ite_t, ite_f, Int.toNat_natCast, Int.cast_ofNat_Int, toNat_cast_add, bcells_length, List.length_take, List.length_map, List.length_drop, List.length_append]
      repeat (first | (with_reducible refine nx_normal ?_) | (with_reducible refine hN _ _ ?_; clear hN N) | (clear hN N; with_reducible refine hN _ _ ?_; clear hN N))
      refine aW_freeze 2 rfl ?_
      simp only [go_sem, frzL, frz, frzH, frzB, List.set_cons_zero, List.set_cons_succ, if_true, if_false, Nat.reduceEqDiff, Option.some.injEq, reduceCtorEq, rE.frz]
      refine aW_weak (Weak.lit (T0 := ((.int .i64 (k : Int) :: .int .i64 m :: .unk :: .unk :: .bool false :: .isl (rE.cells (bRs m k ++ [bEnd k])) (k + 1) :: .unk :: .ptr 0 0 :: .unk :: .unk :: .unk :: .unk :: .unk :: .unk :: .unk :: .unk :: .unk :: .unk :: .unk :: .unk :: .unk :: .unk :: .unk :: .unk :: .unk :: .unk :: .unk :: .unk :: .unk :: .unk :: .unk :: .unk :: .unk :: .unk :: .unk :: .unk :: .unk :: .unk :: .unk :: .unk :: .unk :: .unk :: .unk :: .unk :: .unk :: .unk :: .unk :: .unk :: .unk :: .unk :: .unk :: .unk :: .unk :: .unk :: .unk :: .unk :: .unk :: .unk :: .unk :: .unk :: .unk :: .unk :: .unk :: .unk :: .unk :: .unk :: .unk :: .unk :: .unk :: .unk :: .unk :: .unk :: .unk :: .unk :: .unk :: .unk :: .unk :: .unk :: .unk :: .unk :: .unk :: .unk :: .unk :: .unk :: .unk :: .unk :: .unk :: .unk :: .unk :: .unk :: .unk :: .unk :: .unk :: .unk :: .unk :: .unk :: .unk :: .unk :: .unk :: .unk :: .unk :: .unk :: .unk :: .unk :: []))) (h0 := [some (.row (acell ad4) 50 true)]) [0] (by simp [LeL, LeV, ren, renL, pf, rE.ren, hbl, hk1]) (by simp [Keeps, renB, renL, ren, rE.ren, pf, acell, ad4]) (by decide) (by simp)) ?_
    case' inr =>
      have hbs := hbs1 h0
      have hbh := hbh1 h0
      rw [had] at hms
      rw [hbs, hbh]
      repeat' (first
        | (refine aW_reg fun N hN => ?_; simp (config := {maxSteps := 10000000}) (disch := first | (intro; intros; rename_i h; injection h; done) | omega) only [go_sem, Bool.false_or, Bool.true_or, Bool.or_true, Bool.or_false, Nat.reduceAdd, Nat.reduceSub, Nat.reduceMul, Nat.reduceLT, Nat.reduceLeDiff, Nat.lt_irrefl, Nat.le_refl, List.getElem?_toArray, bne_self_eq_false, Int.le_refl, Int.reduceLE, Int.reduceLT, Int.toNat_zero, Nat.zero_mul, List.all_cons, List.all_nil, Bool.and_self, Bool.and_true, Bool.true_and, Nat.reduceEqDiff, Nat.one_ne_zero, true_and, and_true, and_self, List.drop_succ_cons, List.drop_nil, List.take_succ_cons, List.take_nil, reduceCtorEq, Nat.sub_zero, Option.some.injEq, wrap_i64, wrap_u8, dec_t, dec_f, ite_t, ite_f, Int.toNat_natCast, Int.cast_ofNat_Int, toNat_cast_add, bcells_length, List.length_take, List.length_map, List.length_drop, List.length_append]; with_reducible refine hN _ _ ?_; clear hN N)
        | (refine aW_reg1 fun N hN => ?_; simp (config := {maxSteps := 10000000}) (disch := first | (intro; intros; rename_i h; injection h; done) | omega) only [go_sem, Bool.false_or, Bool.true_or, Bool.or_true, Bool.or_false, Nat.reduceAdd, Nat.reduceSub, Nat.reduceMul, Nat.reduceLT, Nat.reduceLeDiff, Nat.lt_irrefl, Nat.le_refl, List.getElem?_toArray, bne_self_eq_false, Int.le_refl, Int.reduceLE, Int.reduceLT, Int.toNat_zero, Nat.zero_mul, List.all_cons, List.all_nil, Bool.and_self, Bool.and_true, Bool.true_and, Nat.reduceEqDiff, Nat.one_ne_zero, true_and, and_true, and_self, List.drop_succ_cons, List.drop_nil, List.take_succ_cons, List.take_nil, reduceCtorEq, Nat.sub_zero, Option.some.injEq, wrap_i64, wrap_u8, dec_t, dec_f, ite_t, ite_f, Int.toNat_natCast, Int.cast_ofNat_Int, toNat_cast_add, bcells_length, List.length_take, List.length_map, List.length_drop, List.length_append]; with_reducible refine hN _ _ ?_; clear hN N)
        | (refine aW_seq_k fun N hN => ?_)
        | (refine aW_block ?_)
        | (refine aW_cond (b := true) rfl (fun _ => ?_) (fun h => by cases h))
        | (refine aW_cond (b := false) rfl (fun h => by cases h) (fun _ => ?_))
        | (refine aW_skip ?_)
        | (refine aW_exit ?_)
        | (with_reducible refine nx_normal ?_)
        | (first | (with_reducible refine hN _ _ ?_; clear hN N) | (clear hN N; with_reducible refine hN _ _ ?_; clear hN N) | (clear hN N; clear hN N; with_reducible refine hN _ _ ?_; clear hN N) | (clear hN N; clear hN N; clear hN N; with_reducible refine hN _ _ ?_; clear hN N))
        | (with_reducible refine nx_exit ?_)
        | (with_reducible refine nx_ret ?_)
        | (with_reducible refine ib_normal ?_)
        | (with_reducible refine ib_exit ?_)
        | (with_reducible refine ib_ret ?_)
        | (with_reducible refine ib_exit_ne (by decide) ?_)
        | (with_reducible refine for_exit ?_)
        | (with_reducible refine for_ret ?_)
        | (with_reducible refine forq_exit ?_)
        | (with_reducible refine forq_ret ?_)
        | (with_reducible refine round_exit ?_)
        | (with_reducible refine round_ret ?_))
      refine aW_dreg1 mixed ⟨[2, 5, 6, 7], [[0, 1, 3], [4], [], [], []], [[0, 1, 3], [0, 3, 4], [0], [], []], [[], [], [1], [], [1, 2, 3], [1, 2, 3, 4], [0, 1, 2, 3, 4, 5], [0, 1, 2, 3, 4, 5, 6]]⟩ (by decide +kernel) fun N hN => ?_
      simp (config := {maxSteps := 10000000}) (disch := first | (intro; intros; rename_i h; injection h; done) | omega) only [go_sem, Bool.false_or, Bool.true_or, Bool.or_true, Bool.or_false, Nat.reduceAdd, Nat.reduceSub, Nat.reduceMul, Nat.reduceLT, Nat.reduceLeDiff, Nat.lt_irrefl, Nat.le_refl, List.getElem?_toArray, bne_self_eq_false, Int.le_refl, Int.reduceLE, Int.reduceLT, Int.toNat_zero, Nat.zero_mul, List.all_cons, List.all_nil, Bool.and_self, Bool.and_true, Bool.true_and, Nat.reduceEqDiff, Nat.one_ne_zero, true_and, and_true, and_self, List.drop_succ_cons, List.drop_nil, List.take_succ_cons, List.take_nil, reduceCtorEq, Nat.sub_zero, Option.some.injEq, wrap_i64, wrap_u8, dec_t, dec_f, ite_t, ite_f, Int.toNat_natCast, Int.cast_ofNat_Int, toNat_cast_add, bcells_length, List.length_take, List.length_map, List.length_drop, List.length_append]
      refine hdn.plain rfl rfl ?_
      simp (config := {maxSteps := 10000000}) (disch := first | (intro; intros; rename_i h; injection h; done) | omega) only [go_sem, Bool.false_or, Bool.true_or, Bool.or_true, Bool.or_false, Nat.reduceAdd, Nat.reduceSub, Nat.reduceMul, Nat.reduceLT, Nat.reduceLeDiff, Nat.lt_irrefl, Nat.le_refl, List.getElem?_toArray, bne_self_eq_false, Int.le_refl, Int.reduceLE, Int.reduceLT, Int.toNat_zero, Nat.zero_mul, List.all_cons, List.all_nil, Bool.and_self, Bool.and_true, Bool.true_and, Nat.reduceEqDiff, Nat.one_ne_zero, true_and, and_true, and_self, List.drop_succ_cons, List.drop_nil, List.take_succ_cons, List.take_nil, reduceCtorEq, Nat.sub_zero, Option.some.injEq, wrap_i64, wrap_u8, dec_t, dec_f, ite_t, ite_f, Int.toNat_natCast, Int.cast_ofNat_Int, toNat_cast_add, bcells_length, List.length_take, List.length_map, List.length_drop, List.length_append, hml, hmt, hms]
      repeat (first | (with_reducible refine nx_normal ?_) | (with_reducible refine hN _ _ ?_; clear hN N) | (clear hN N; with_reducible refine hN _ _ ?_; clear hN N))
      refine aW_freeze 3 rfl ?_
      simp only [go_sem, frzL, frz, frzH, frzB, List.set_cons_zero, List.set_cons_succ, if_true, if_false, Nat.reduceEqDiff, Option.some.injEq, reduceCtorEq, rE.frz]
      refine aW_weak (Weak.lit (T0 := ((.int .i64 (k : Int) :: .int .i64 m :: .unk :: .unk :: .bool false :: .isl (rE.cells (bRs m k ++ [bEnd k])) (k + 1) :: .unk :: .ptr 0 0 :: .unk :: .unk :: .unk :: .unk :: .unk :: .unk :: .unk :: .unk :: .unk :: .unk :: .unk :: .unk :: .unk :: .unk :: .unk :: .unk :: .unk :: .unk :: .unk :: .unk :: .unk :: .unk :: .unk :: .unk :: .unk :: .unk :: .unk :: .unk :: .unk :: .unk :: .unk :: .unk :: .unk :: .unk :: .unk :: .unk :: .unk :: .unk :: .unk :: .unk :: .unk :: .unk :: .unk :: .unk :: .unk :: .unk :: .unk :: .unk :: .unk :: .unk :: .unk :: .unk :: .unk :: .unk :: .unk :: .unk :: .unk :: .unk :: .unk :: .unk :: .unk :: .unk :: .unk :: .unk :: .unk :: .unk :: .unk :: .unk :: .unk :: .unk :: .unk :: .unk :: .unk :: .unk :: .unk :: .unk :: .unk :: .unk :: .unk :: .unk :: .unk :: .unk :: .unk :: .unk :: .unk :: .unk :: .unk :: .unk :: .unk :: .unk :: .unk :: .unk :: .unk :: .unk :: .unk :: .unk :: []))) (h0 := [some (.row (acell ad4) 50 true)]) [1] (by simp [LeL, LeV, ren, renL, pf, rE.ren, hms]) (by simp [Keeps, renB, renL, ren, rE.ren, pf, acell, ad4]) (by decide) (by simp)) ?_
    all_goals
      have hlen : (bRs m k ++ [bEnd k]).length = k + 1 := hal
      have has := as_c qB
      have hfo := rforge_c qB (bRs m k ++ [bEnd k])
      have htl := tell_c qB (by decide) 33152 (bRs m k ++ [bEnd k]) (by rw [hlen]; omega) (bAll_ok m k)
      rw [bound_law m hm0 hm1 k (by omega)] at htl
      simp only [qcell, forged, tcell, hlen, qB] at has hfo htl
      repeat' (first
        | (refine aW_reg fun N hN => ?_; simp (config := {maxSteps := 10000000}) (disch := first | (intro; intros; rename_i h; injection h; done) | omega) only [go_sem, Bool.false_or, Bool.true_or, Bool.or_true, Bool.or_false, Nat.reduceAdd, Nat.reduceSub, Nat.reduceMul, Nat.reduceLT, Nat.reduceLeDiff, Nat.lt_irrefl, Nat.le_refl, List.getElem?_toArray, bne_self_eq_false, Int.le_refl, Int.reduceLE, Int.reduceLT, Int.toNat_zero, Nat.zero_mul, List.all_cons, List.all_nil, Bool.and_self, Bool.and_true, Bool.true_and, Nat.reduceEqDiff, Nat.one_ne_zero, true_and, and_true, and_self, List.drop_succ_cons, List.drop_nil, List.take_succ_cons, List.take_nil, reduceCtorEq, Nat.sub_zero, Option.some.injEq, wrap_i64, wrap_u8, dec_t, dec_f, ite_t, ite_f, Int.toNat_natCast, Int.cast_ofNat_Int, toNat_cast_add, bcells_length, List.length_take, List.length_map, List.length_drop, List.length_append]; with_reducible refine hN _ _ ?_; clear hN N)
        | (refine aW_reg1 fun N hN => ?_; simp (config := {maxSteps := 10000000}) (disch := first | (intro; intros; rename_i h; injection h; done) | omega) only [go_sem, Bool.false_or, Bool.true_or, Bool.or_true, Bool.or_false, Nat.reduceAdd, Nat.reduceSub, Nat.reduceMul, Nat.reduceLT, Nat.reduceLeDiff, Nat.lt_irrefl, Nat.le_refl, List.getElem?_toArray, bne_self_eq_false, Int.le_refl, Int.reduceLE, Int.reduceLT, Int.toNat_zero, Nat.zero_mul, List.all_cons, List.all_nil, Bool.and_self, Bool.and_true, Bool.true_and, Nat.reduceEqDiff, Nat.one_ne_zero, true_and, and_true, and_self, List.drop_succ_cons, List.drop_nil, List.take_succ_cons, List.take_nil, reduceCtorEq, Nat.sub_zero, Option.some.injEq, wrap_i64, wrap_u8, dec_t, dec_f, ite_t, ite_f, Int.toNat_natCast, Int.cast_ofNat_Int, toNat_cast_add, bcells_length, List.length_take, List.length_map, List.length_drop, List.length_append]; with_reducible refine hN _ _ ?_; clear hN N)
        | (refine aW_seq_k fun N hN => ?_)
        | (refine aW_block ?_)
        | (refine aW_cond (b := true) rfl (fun _ => ?_) (fun h => by cases h))
        | (refine aW_cond (b := false) rfl (fun h => by cases h) (fun _ => ?_))
        | (refine aW_skip ?_)
        | (refine aW_exit ?_)
        | (with_reducible refine nx_normal ?_)
        | (first | (with_reducible refine hN _ _ ?_; clear hN N) | (clear hN N; with_reducible refine hN _ _ ?_; clear hN N) | (clear hN N; clear hN N; with_reducible refine hN _ _ ?_; clear hN N) | (clear hN N; clear hN N; clear hN N; with_reducible refine hN _ _ ?_; clear hN N))
        | (with_reducible refine nx_exit ?_)
        | (with_reducible refine nx_ret ?_)
        | (with_reducible refine ib_normal ?_)
        | (with_reducible refine ib_exit ?_)
        | (with_reducible refine ib_ret ?_)
        | (with_reducible refine ib_exit_ne (by decide) ?_)
        | (with_reducible refine for_exit ?_)
        | (with_reducible refine for_ret ?_)
        | (with_reducible refine forq_exit ?_)
        | (with_reducible refine forq_ret ?_)
        | (with_reducible refine round_exit ?_)
        | (with_reducible refine round_ret ?_))
      by_cases h8 : 8 < k
      · simp only [bT, if_pos h8, List.length_nil] at htl
        try clear hk1
        clear h0
        refine aW_tdreg1 mixed (.two [0, 1, 3] [0, 1, 3] 2 (.two [] [0, 3] 4 (.two [] [0] 5 (.one [] [] 6 (.one [] [] 7 (.fin [] []))) 6 (.one [] [0] 5 (.one [] [] 7 (.fin [] [])))) 6 (.one [] [0, 3] 4 (.one [] [0] 5 (.one [] [] 7 (.fin [] []))))) 6 (.one [] [0, 1, 3] 2 (.one [] [0, 3] 4 (.one [] [0] 5 (.one [] [] 7 (.fin [] [])))))) [[], [], [1], [], [1, 2, 3], [0, 1, 2, 3, 4], [], [0, 1, 2, 3, 4, 5, 6]] [2, 4, 5, 6, 7] (by decide +kernel) fun N hN => ?_
        simp (config := {maxSteps := 10000000}) (disch := first | (intro; intros; rename_i h; injection h; done) | omega) only [go_sem, Bool.false_or, Bool.true_or, Bool.or_true, Bool.or_false, Nat.reduceAdd, Nat.reduceSub, Nat.reduceMul, Nat.reduceLT, Nat.reduceLeDiff, Nat.lt_irrefl, Nat.le_refl, List.getElem?_toArray, bne_self_eq_false, Int.le_refl, Int.reduceLE, Int.reduceLT, Int.toNat_zero, Nat.zero_mul, List.all_cons, List.all_nil, Bool.and_self, Bool.and_true, Bool.true_and, Nat.reduceEqDiff, Nat.one_ne_zero, true_and, and_true, and_self, List.drop_succ_cons, List.drop_nil, List.take_succ_cons, List.take_nil, reduceCtorEq, Nat.sub_zero, Option.some.injEq, wrap_i64, wrap_u8, dec_t, dec_f, ite_t, ite_f, Int.toNat_natCast, Int.cast_ofNat_Int, toNat_cast_add, bcells_length, List.length_take, List.length_map, List.length_drop, List.length_append]
        apply share'
        · intro key
          refine ⟨?_, ?_⟩
          all_goals
            refine has.plain rfl rfl ?_
            simp (config := {maxSteps := 10000000}) (disch := first | (intro; intros; rename_i h; injection h; done) | omega) only [go_sem, Bool.false_or, Bool.true_or, Bool.or_true, Bool.or_false, Nat.reduceAdd, Nat.reduceSub, Nat.reduceMul, Nat.reduceLT, Nat.reduceLeDiff, Nat.lt_irrefl, Nat.le_refl, List.getElem?_toArray, bne_self_eq_false, Int.le_refl, Int.reduceLE, Int.reduceLT, Int.toNat_zero, Nat.zero_mul, List.all_cons, List.all_nil, Bool.and_self, Bool.and_true, Bool.true_and, Nat.reduceEqDiff, Nat.one_ne_zero, true_and, and_true, and_self, List.drop_succ_cons, List.drop_nil, List.take_succ_cons, List.take_nil, reduceCtorEq, Nat.sub_zero, Option.some.injEq, wrap_i64, wrap_u8, dec_t, dec_f, ite_t, ite_f, Int.toNat_natCast, Int.cast_ofNat_Int, toNat_cast_add, bcells_length, List.length_take, List.length_map, List.length_drop, List.length_append]
          · refine ⟨?_, ?_⟩
            all_goals
              refine hfo.plain (by simp only [renL, ren, rE.ren]) (by simp only [renL, ren, rE.ren]) ?_
              simp (config := {maxSteps := 10000000}) (disch := first | (intro; intros; rename_i h; injection h; done) | omega) only [go_sem, Bool.false_or, Bool.true_or, Bool.or_true, Bool.or_false, Nat.reduceAdd, Nat.reduceSub, Nat.reduceMul, Nat.reduceLT, Nat.reduceLeDiff, Nat.lt_irrefl, Nat.le_refl, List.getElem?_toArray, bne_self_eq_false, Int.le_refl, Int.reduceLE, Int.reduceLT, Int.toNat_zero, Nat.zero_mul, List.all_cons, List.all_nil, Bool.and_self, Bool.and_true, Bool.true_and, Nat.reduceEqDiff, Nat.one_ne_zero, true_and, and_true, and_self, List.drop_succ_cons, List.drop_nil, List.take_succ_cons, List.take_nil, reduceCtorEq, Nat.sub_zero, Option.some.injEq, wrap_i64, wrap_u8, dec_t, dec_f, ite_t, ite_f, Int.toNat_natCast, Int.cast_ofNat_Int, toNat_cast_add, bcells_length, List.length_take, List.length_map, List.length_drop, List.length_append]
            · refine ⟨?_, ?_⟩
              all_goals
                refine htl.plain (by simp only [renL, ren, rE.ren]) (by simp only [renL, ren, aE.ren]) ?_
                simp (config := {maxSteps := 10000000}) (disch := first | (intro; intros; rename_i h; injection h; done) | omega) only [go_sem, Bool.false_or, Bool.true_or, Bool.or_true, Bool.or_false, Nat.reduceAdd, Nat.reduceSub, Nat.reduceMul, Nat.reduceLT, Nat.reduceLeDiff, Nat.lt_irrefl, Nat.le_refl, List.getElem?_toArray, bne_self_eq_false, Int.le_refl, Int.reduceLE, Int.reduceLT, Int.toNat_zero, Nat.zero_mul, List.all_cons, List.all_nil, Bool.and_self, Bool.and_true, Bool.true_and, Nat.reduceEqDiff, Nat.one_ne_zero, true_and, and_true, and_self, List.drop_succ_cons, List.drop_nil, List.take_succ_cons, List.take_nil, reduceCtorEq, Nat.sub_zero, Option.some.injEq, wrap_i64, wrap_u8, dec_t, dec_f, ite_t, ite_f, Int.toNat_natCast, Int.cast_ofNat_Int, toNat_cast_add, bcells_length, List.length_take, List.length_map, List.length_drop, List.length_append]
                repeat (first | (with_reducible refine nx_normal ?_) | (with_reducible refine hN _ _ ?_; clear hN N) | (clear hN N; with_reducible refine hN _ _ ?_; clear hN N))
                exact key.go
            · refine htl.plain (by simp only [renL, ren, rE.ren]) (by simp only [renL, ren, aE.ren]) ?_
              simp (config := {maxSteps := 10000000}) (disch := first | (intro; intros; rename_i h; injection h; done) | omega) only [go_sem, Bool.false_or, Bool.true_or, Bool.or_true, Bool.or_false, Nat.reduceAdd, Nat.reduceSub, Nat.reduceMul, Nat.reduceLT, Nat.reduceLeDiff, Nat.lt_irrefl, Nat.le_refl, List.getElem?_toArray, bne_self_eq_false, Int.le_refl, Int.reduceLE, Int.reduceLT, Int.toNat_zero, Nat.zero_mul, List.all_cons, List.all_nil, Bool.and_self, Bool.and_true, Bool.true_and, Nat.reduceEqDiff, Nat.one_ne_zero, true_and, and_true, and_self, List.drop_succ_cons, List.drop_nil, List.take_succ_cons, List.take_nil, reduceCtorEq, Nat.sub_zero, Option.some.injEq, wrap_i64, wrap_u8, dec_t, dec_f, ite_t, ite_f, Int.toNat_natCast, Int.cast_ofNat_Int, toNat_cast_add, bcells_length, List.length_take, List.length_map, List.length_drop, List.length_append]
              repeat (first | (with_reducible refine nx_normal ?_) | (with_reducible refine hN _ _ ?_; clear hN N) | (clear hN N; with_reducible refine hN _ _ ?_; clear hN N))
              exact key.go
          · refine hfo.plain (by simp only [renL, ren, rE.ren]) (by simp only [renL, ren, rE.ren]) ?_
            simp (config := {maxSteps := 10000000}) (disch := first | (intro; intros; rename_i h; injection h; done) | omega) only [go_sem, Bool.false_or, Bool.true_or, Bool.or_true, Bool.or_false, Nat.reduceAdd, Nat.reduceSub, Nat.reduceMul, Nat.reduceLT, Nat.reduceLeDiff, Nat.lt_irrefl, Nat.le_refl, List.getElem?_toArray, bne_self_eq_false, Int.le_refl, Int.reduceLE, Int.reduceLT, Int.toNat_zero, Nat.zero_mul, List.all_cons, List.all_nil, Bool.and_self, Bool.and_true, Bool.true_and, Nat.reduceEqDiff, Nat.one_ne_zero, true_and, and_true, and_self, List.drop_succ_cons, List.drop_nil, List.take_succ_cons, List.take_nil, reduceCtorEq, Nat.sub_zero, Option.some.injEq, wrap_i64, wrap_u8, dec_t, dec_f, ite_t, ite_f, Int.toNat_natCast, Int.cast_ofNat_Int, toNat_cast_add, bcells_length, List.length_take, List.length_map, List.length_drop, List.length_append]
            refine htl.plain (by simp only [renL, ren, rE.ren]) (by simp only [renL, ren, aE.ren]) ?_
            simp (config := {maxSteps := 10000000}) (disch := first | (intro; intros; rename_i h; injection h; done) | omega) only [go_sem, Bool.false_or, Bool.true_or, Bool.or_true, Bool.or_false, Nat.reduceAdd, Nat.reduceSub, Nat.reduceMul, Nat.reduceLT, Nat.reduceLeDiff, Nat.lt_irrefl, Nat.le_refl, List.getElem?_toArray, bne_self_eq_false, Int.le_refl, Int.reduceLE, Int.reduceLT, Int.toNat_zero, Nat.zero_mul, List.all_cons, List.all_nil, Bool.and_self, Bool.and_true, Bool.true_and, Nat.reduceEqDiff, Nat.one_ne_zero, true_and, and_true, and_self, List.drop_succ_cons, List.drop_nil, List.take_succ_cons, List.take_nil, reduceCtorEq, Nat.sub_zero, Option.some.injEq, wrap_i64, wrap_u8, dec_t, dec_f, ite_t, ite_f, Int.toNat_natCast, Int.cast_ofNat_Int, toNat_cast_add, bcells_length, List.length_take, List.length_map, List.length_drop, List.length_append]
            repeat (first | (with_reducible refine nx_normal ?_) | (with_reducible refine hN _ _ ?_; clear hN N) | (clear hN N; with_reducible refine hN _ _ ?_; clear hN N))
            exact key.go
        repeat (first | (with_reducible refine nx_normal ?_) | (with_reducible refine hN _ _ ?_; clear hN N) | (clear hN N; with_reducible refine hN _ _ ?_; clear hN N))
        repeat' (first
          | (refine aW_reg fun N hN => ?_; simp (config := {maxSteps := 10000000}) (disch := first | (intro; intros; rename_i h; injection h; done) | omega) only [go_sem, Bool.false_or, Bool.true_or, Bool.or_true, Bool.or_false, Nat.reduceAdd, Nat.reduceSub, Nat.reduceMul, Nat.reduceLT, Nat.reduceLeDiff, Nat.lt_irrefl, Nat.le_refl, List.getElem?_toArray, bne_self_eq_false, Int.le_refl, Int.reduceLE, Int.reduceLT, Int.toNat_zero, Nat.zero_mul, List.all_cons, List.all_nil, Bool.and_self, Bool.and_true, Bool.true_and, Nat.reduceEqDiff, Nat.one_ne_zero, true_and, and_true, and_self, List.drop_succ_cons, List.drop_nil, List.take_succ_cons, List.take_nil, reduceCtorEq, Nat.sub_zero, Option.some.injEq, wrap_i64, wrap_u8, dec_t, dec_f, ite_t, ite_f, Int.toNat_natCast, Int.cast_ofNat_Int, toNat_cast_add, bcells_length, List.length_take, List.length_map, List.length_drop, List.length_append, Int.reduceBEq, Int.reduceBNe, beq_self_eq_true]; with_reducible refine hN _ _ ?_; clear hN N)
          | (refine aW_reg fun N hN => ?_; (try simp (config := {maxSteps := 10000000}) (disch := first | (intro; intros; rename_i h; injection h; done) | omega) only [go_sem, Bool.false_or, Bool.true_or, Bool.or_true, Bool.or_false, Nat.reduceAdd, Nat.reduceSub, Nat.reduceMul, Nat.reduceLT, Nat.reduceLeDiff, Nat.lt_irrefl, Nat.le_refl, List.getElem?_toArray, bne_self_eq_false, Int.le_refl, Int.reduceLE, Int.reduceLT, Int.toNat_zero, Nat.zero_mul, List.all_cons, List.all_nil, Bool.and_self, Bool.and_true, Bool.true_and, Nat.reduceEqDiff, Nat.one_ne_zero, true_and, and_true, and_self, List.drop_succ_cons, List.drop_nil, List.take_succ_cons, List.take_nil, reduceCtorEq, Nat.sub_zero, Option.some.injEq, wrap_i64, wrap_u8, dec_t, dec_f, ite_t, ite_f, Int.toNat_natCast, Int.cast_ofNat_Int, toNat_cast_add, bcells_length, List.length_take, List.length_map, List.length_drop, List.length_append, Int.reduceBEq, Int.reduceBNe, beq_self_eq_true]); (repeat ((first | (refine (lives_c).plain (by first | rfl | simp only [renL, ren, rE.ren, aE.ren, sE.ren, acell_noid, rcell_noid]) (by first | rfl | simp only [renL, ren, rE.ren, aE.ren, sE.ren, acell_noid, rcell_noid]) ?_)); try simp (config := {maxSteps := 10000000}) (disch := first | (intro; intros; rename_i h; injection h; done) | omega) only [go_sem, Bool.false_or, Bool.true_or, Bool.or_true, Bool.or_false, Nat.reduceAdd, Nat.reduceSub, Nat.reduceMul, Nat.reduceLT, Nat.reduceLeDiff, Nat.lt_irrefl, Nat.le_refl, List.getElem?_toArray, bne_self_eq_false, Int.le_refl, Int.reduceLE, Int.reduceLT, Int.toNat_zero, Nat.zero_mul, List.all_cons, List.all_nil, Bool.and_self, Bool.and_true, Bool.true_and, Nat.reduceEqDiff, Nat.one_ne_zero, true_and, and_true, and_self, List.drop_succ_cons, List.drop_nil, List.take_succ_cons, List.take_nil, reduceCtorEq, Nat.sub_zero, Option.some.injEq, wrap_i64, wrap_u8, dec_t, dec_f, ite_t, ite_f, Int.toNat_natCast, Int.cast_ofNat_Int, toNat_cast_add, bcells_length, List.length_take, List.length_map, List.length_drop, List.length_append, Int.reduceBEq, Int.reduceBNe, beq_self_eq_true])); with_reducible refine hN _ _ ?_; clear hN N)
          | (refine aW_reg1 fun N hN => ?_; simp (config := {maxSteps := 10000000}) (disch := first | (intro; intros; rename_i h; injection h; done) | omega) only [go_sem, Bool.false_or, Bool.true_or, Bool.or_true, Bool.or_false, Nat.reduceAdd, Nat.reduceSub, Nat.reduceMul, Nat.reduceLT, Nat.reduceLeDiff, Nat.lt_irrefl, Nat.le_refl, List.getElem?_toArray, bne_self_eq_false, Int.le_refl, Int.reduceLE, Int.reduceLT, Int.toNat_zero, Nat.zero_mul, List.all_cons, List.all_nil, Bool.and_self, Bool.and_true, Bool.true_and, Nat.reduceEqDiff, Nat.one_ne_zero, true_and, and_true, and_self, List.drop_succ_cons, List.drop_nil, List.take_succ_cons, List.take_nil, reduceCtorEq, Nat.sub_zero, Option.some.injEq, wrap_i64, wrap_u8, dec_t, dec_f, ite_t, ite_f, Int.toNat_natCast, Int.cast_ofNat_Int, toNat_cast_add, bcells_length, List.length_take, List.length_map, List.length_drop, List.length_append, Int.reduceBEq, Int.reduceBNe, beq_self_eq_true]; with_reducible refine hN _ _ ?_; clear hN N)
          | (refine aW_reg1 fun N hN => ?_; (try simp (config := {maxSteps := 10000000}) (disch := first | (intro; intros; rename_i h; injection h; done) | omega) only [go_sem, Bool.false_or, Bool.true_or, Bool.or_true, Bool.or_false, Nat.reduceAdd, Nat.reduceSub, Nat.reduceMul, Nat.reduceLT, Nat.reduceLeDiff, Nat.lt_irrefl, Nat.le_refl, List.getElem?_toArray, bne_self_eq_false, Int.le_refl, Int.reduceLE, Int.reduceLT, Int.toNat_zero, Nat.zero_mul, List.all_cons, List.all_nil, Bool.and_self, Bool.and_true, Bool.true_and, Nat.reduceEqDiff, Nat.one_ne_zero, true_and, and_true, and_self, List.drop_succ_cons, List.drop_nil, List.take_succ_cons, List.take_nil, reduceCtorEq, Nat.sub_zero, Option.some.injEq, wrap_i64, wrap_u8, dec_t, dec_f, ite_t, ite_f, Int.toNat_natCast, Int.cast_ofNat_Int, toNat_cast_add, bcells_length, List.length_take, List.length_map, List.length_drop, List.length_append, Int.reduceBEq, Int.reduceBNe, beq_self_eq_true]); (repeat ((first | (refine (lives_c).plain (by first | rfl | simp only [renL, ren, rE.ren, aE.ren, sE.ren, acell_noid, rcell_noid]) (by first | rfl | simp only [renL, ren, rE.ren, aE.ren, sE.ren, acell_noid, rcell_noid]) ?_)); try simp (config := {maxSteps := 10000000}) (disch := first | (intro; intros; rename_i h; injection h; done) | omega) only [go_sem, Bool.false_or, Bool.true_or, Bool.or_true, Bool.or_false, Nat.reduceAdd, Nat.reduceSub, Nat.reduceMul, Nat.reduceLT, Nat.reduceLeDiff, Nat.lt_irrefl, Nat.le_refl, List.getElem?_toArray, bne_self_eq_false, Int.le_refl, Int.reduceLE, Int.reduceLT, Int.toNat_zero, Nat.zero_mul, List.all_cons, List.all_nil, Bool.and_self, Bool.and_true, Bool.true_and, Nat.reduceEqDiff, Nat.one_ne_zero, true_and, and_true, and_self, List.drop_succ_cons, List.drop_nil, List.take_succ_cons, List.take_nil, reduceCtorEq, Nat.sub_zero, Option.some.injEq, wrap_i64, wrap_u8, dec_t, dec_f, ite_t, ite_f, Int.toNat_natCast, Int.cast_ofNat_Int, toNat_cast_add, bcells_length, List.length_take, List.length_map, List.length_drop, List.length_append, Int.reduceBEq, Int.reduceBNe, beq_self_eq_true])); with_reducible refine hN _ _ ?_; clear hN N)
          | (refine aW_seq_k fun N hN => ?_)
          | (refine aW_block ?_)
          | (refine aW_cond (b := true) rfl (fun _ => ?_) (fun h => by cases h))
          | (refine aW_cond (b := false) rfl (fun h => by cases h) (fun _ => ?_))
          | (refine aW_skip ?_)
          | (refine aW_exit ?_)
          | (with_reducible refine nx_normal ?_)
          | (first | (with_reducible refine hN _ _ ?_; clear hN N) | (clear hN N; with_reducible refine hN _ _ ?_; clear hN N) | (clear hN N; clear hN N; with_reducible refine hN _ _ ?_; clear hN N) | (clear hN N; clear hN N; clear hN N; with_reducible refine hN _ _ ?_; clear hN N))
          | (with_reducible refine nx_exit ?_)
          | (with_reducible refine nx_ret ?_)
          | (with_reducible refine ib_normal ?_)
          | (with_reducible refine ib_exit ?_)
          | (with_reducible refine ib_ret ?_)
          | (with_reducible refine ib_exit_ne (by decide) ?_)
          | (with_reducible refine for_exit ?_)
          | (with_reducible refine for_ret ?_)
          | (with_reducible refine forq_exit ?_)
          | (with_reducible refine forq_ret ?_)
          | (with_reducible refine round_exit ?_)
          | (with_reducible refine round_ret ?_))
        refine aW_ret ?_
        repeat' (first | (with_reducible refine nx_ret ?_) | (with_reducible refine ib_ret ?_) | (with_reducible refine for_ret ?_) | (with_reducible refine forq_ret ?_) | (with_reducible refine round_ret ?_))
        exact Body.keep [] (.bool true) [] rfl rfl trivial (by decide) (by decide) ⟨rfl, rfl⟩
      · simp only [bT, if_neg h8, List.length_cons, List.length_nil] at htl
        refine aW_tdreg1 mixed (.two [0, 1, 3] [0, 1, 3] 2 (.two [] [0, 3] 4 (.two [] [0] 5 (.one [] [] 6 (.one [] [] 7 (.fin [] []))) 6 (.one [] [0] 5 (.one [] [] 7 (.fin [] [])))) 6 (.one [] [0, 3] 4 (.one [] [0] 5 (.one [] [] 7 (.fin [] []))))) 6 (.one [] [0, 1, 3] 2 (.one [] [0, 3] 4 (.one [] [0] 5 (.one [] [] 7 (.fin [] [])))))) [[], [], [1], [], [1, 2, 3], [0, 1, 2, 3, 4], [], [0, 1, 2, 3, 4, 5, 6]] [2, 4, 5, 6, 7] (by decide +kernel) fun N hN => ?_
        simp (config := {maxSteps := 10000000}) (disch := first | (intro; intros; rename_i h; injection h; done) | omega) only [go_sem, Bool.false_or, Bool.true_or, Bool.or_true, Bool.or_false, Nat.reduceAdd, Nat.reduceSub, Nat.reduceMul, Nat.reduceLT, Nat.reduceLeDiff, Nat.lt_irrefl, Nat.le_refl, List.getElem?_toArray, bne_self_eq_false, Int.le_refl, Int.reduceLE, Int.reduceLT, Int.toNat_zero, Nat.zero_mul, List.all_cons, List.all_nil, Bool.and_self, Bool.and_true, Bool.true_and, Nat.reduceEqDiff, Nat.one_ne_zero, true_and, and_true, and_self, List.drop_succ_cons, List.drop_nil, List.take_succ_cons, List.take_nil, reduceCtorEq, Nat.sub_zero, Option.some.injEq, wrap_i64, wrap_u8, dec_t, dec_f, ite_t, ite_f, Int.toNat_natCast, Int.cast_ofNat_Int, toNat_cast_add, bcells_length, List.length_take, List.length_map, List.length_drop, List.length_append]
        apply share'
        · intro key
          refine ⟨?_, ?_⟩
          all_goals
            refine has.plain rfl rfl ?_
            simp (config := {maxSteps := 10000000}) (disch := first | (intro; intros; rename_i h; injection h; done) | omega) only [go_sem, Bool.false_or, Bool.true_or, Bool.or_true, Bool.or_false, Nat.reduceAdd, Nat.reduceSub, Nat.reduceMul, Nat.reduceLT, Nat.reduceLeDiff, Nat.lt_irrefl, Nat.le_refl, List.getElem?_toArray, bne_self_eq_false, Int.le_refl, Int.reduceLE, Int.reduceLT, Int.toNat_zero, Nat.zero_mul, List.all_cons, List.all_nil, Bool.and_self, Bool.and_true, Bool.true_and, Nat.reduceEqDiff, Nat.one_ne_zero, true_and, and_true, and_self, List.drop_succ_cons, List.drop_nil, List.take_succ_cons, List.take_nil, reduceCtorEq, Nat.sub_zero, Option.some.injEq, wrap_i64, wrap_u8, dec_t, dec_f, ite_t, ite_f, Int.toNat_natCast, Int.cast_ofNat_Int, toNat_cast_add, bcells_length, List.length_take, List.length_map, List.length_drop, List.length_append]
          · refine ⟨?_, ?_⟩
            all_goals
              refine hfo.plain (by simp only [renL, ren, rE.ren]) (by simp only [renL, ren, rE.ren]) ?_
              simp (config := {maxSteps := 10000000}) (disch := first | (intro; intros; rename_i h; injection h; done) | omega) only [go_sem, Bool.false_or, Bool.true_or, Bool.or_true, Bool.or_false, Nat.reduceAdd, Nat.reduceSub, Nat.reduceMul, Nat.reduceLT, Nat.reduceLeDiff, Nat.lt_irrefl, Nat.le_refl, List.getElem?_toArray, bne_self_eq_false, Int.le_refl, Int.reduceLE, Int.reduceLT, Int.toNat_zero, Nat.zero_mul, List.all_cons, List.all_nil, Bool.and_self, Bool.and_true, Bool.true_and, Nat.reduceEqDiff, Nat.one_ne_zero, true_and, and_true, and_self, List.drop_succ_cons, List.drop_nil, List.take_succ_cons, List.take_nil, reduceCtorEq, Nat.sub_zero, Option.some.injEq, wrap_i64, wrap_u8, dec_t, dec_f, ite_t, ite_f, Int.toNat_natCast, Int.cast_ofNat_Int, toNat_cast_add, bcells_length, List.length_take, List.length_map, List.length_drop, List.length_append]
            · refine ⟨?_, ?_⟩
              all_goals
                refine htl.plain (by simp only [renL, ren, rE.ren]) (by simp only [renL, ren, aE.ren]) ?_
                simp (config := {maxSteps := 10000000}) (disch := first | (intro; intros; rename_i h; injection h; done) | omega) only [go_sem, Bool.false_or, Bool.true_or, Bool.or_true, Bool.or_false, Nat.reduceAdd, Nat.reduceSub, Nat.reduceMul, Nat.reduceLT, Nat.reduceLeDiff, Nat.lt_irrefl, Nat.le_refl, List.getElem?_toArray, bne_self_eq_false, Int.le_refl, Int.reduceLE, Int.reduceLT, Int.toNat_zero, Nat.zero_mul, List.all_cons, List.all_nil, Bool.and_self, Bool.and_true, Bool.true_and, Nat.reduceEqDiff, Nat.one_ne_zero, true_and, and_true, and_self, List.drop_succ_cons, List.drop_nil, List.take_succ_cons, List.take_nil, reduceCtorEq, Nat.sub_zero, Option.some.injEq, wrap_i64, wrap_u8, dec_t, dec_f, ite_t, ite_f, Int.toNat_natCast, Int.cast_ofNat_Int, toNat_cast_add, bcells_length, List.length_take, List.length_map, List.length_drop, List.length_append]
                repeat (first | (with_reducible refine nx_normal ?_) | (with_reducible refine hN _ _ ?_; clear hN N) | (clear hN N; with_reducible refine hN _ _ ?_; clear hN N))
                exact key.go
            · refine htl.plain (by simp only [renL, ren, rE.ren]) (by simp only [renL, ren, aE.ren]) ?_
              simp (config := {maxSteps := 10000000}) (disch := first | (intro; intros; rename_i h; injection h; done) | omega) only [go_sem, Bool.false_or, Bool.true_or, Bool.or_true, Bool.or_false, Nat.reduceAdd, Nat.reduceSub, Nat.reduceMul, Nat.reduceLT, Nat.reduceLeDiff, Nat.lt_irrefl, Nat.le_refl, List.getElem?_toArray, bne_self_eq_false, Int.le_refl, Int.reduceLE, Int.reduceLT, Int.toNat_zero, Nat.zero_mul, List.all_cons, List.all_nil, Bool.and_self, Bool.and_true, Bool.true_and, Nat.reduceEqDiff, Nat.one_ne_zero, true_and, and_true, and_self, List.drop_succ_cons, List.drop_nil, List.take_succ_cons, List.take_nil, reduceCtorEq, Nat.sub_zero, Option.some.injEq, wrap_i64, wrap_u8, dec_t, dec_f, ite_t, ite_f, Int.toNat_natCast, Int.cast_ofNat_Int, toNat_cast_add, bcells_length, List.length_take, List.length_map, List.length_drop, List.length_append]
              repeat (first | (with_reducible refine nx_normal ?_) | (with_reducible refine hN _ _ ?_; clear hN N) | (clear hN N; with_reducible refine hN _ _ ?_; clear hN N))
              exact key.go
          · refine hfo.plain (by simp only [renL, ren, rE.ren]) (by simp only [renL, ren, rE.ren]) ?_
            simp (config := {maxSteps := 10000000}) (disch := first | (intro; intros; rename_i h; injection h; done) | omega) only [go_sem, Bool.false_or, Bool.true_or, Bool.or_true, Bool.or_false, Nat.reduceAdd, Nat.reduceSub, Nat.reduceMul, Nat.reduceLT, Nat.reduceLeDiff, Nat.lt_irrefl, Nat.le_refl, List.getElem?_toArray, bne_self_eq_false, Int.le_refl, Int.reduceLE, Int.reduceLT, Int.toNat_zero, Nat.zero_mul, List.all_cons, List.all_nil, Bool.and_self, Bool.and_true, Bool.true_and, Nat.reduceEqDiff, Nat.one_ne_zero, true_and, and_true, and_self, List.drop_succ_cons, List.drop_nil, List.take_succ_cons, List.take_nil, reduceCtorEq, Nat.sub_zero, Option.some.injEq, wrap_i64, wrap_u8, dec_t, dec_f, ite_t, ite_f, Int.toNat_natCast, Int.cast_ofNat_Int, toNat_cast_add, bcells_length, List.length_take, List.length_map, List.length_drop, List.length_append]
            refine htl.plain (by simp only [renL, ren, rE.ren]) (by simp only [renL, ren, aE.ren]) ?_
            simp (config := {maxSteps := 10000000}) (disch := first | (intro; intros; rename_i h; injection h; done) | omega) only [go_sem, Bool.false_or, Bool.true_or, Bool.or_true, Bool.or_false, Nat.reduceAdd, Nat.reduceSub, Nat.reduceMul, Nat.reduceLT, Nat.reduceLeDiff, Nat.lt_irrefl, Nat.le_refl, List.getElem?_toArray, bne_self_eq_false, Int.le_refl, Int.reduceLE, Int.reduceLT, Int.toNat_zero, Nat.zero_mul, List.all_cons, List.all_nil, Bool.and_self, Bool.and_true, Bool.true_and, Nat.reduceEqDiff, Nat.one_ne_zero, true_and, and_true, and_self, List.drop_succ_cons, List.drop_nil, List.take_succ_cons, List.take_nil, reduceCtorEq, Nat.sub_zero, Option.some.injEq, wrap_i64, wrap_u8, dec_t, dec_f, ite_t, ite_f, Int.toNat_natCast, Int.cast_ofNat_Int, toNat_cast_add, bcells_length, List.length_take, List.length_map, List.length_drop, List.length_append]
            repeat (first | (with_reducible refine nx_normal ?_) | (with_reducible refine hN _ _ ?_; clear hN N) | (clear hN N; with_reducible refine hN _ _ ?_; clear hN N))
            exact key.go
        repeat (first | (with_reducible refine nx_normal ?_) | (with_reducible refine hN _ _ ?_; clear hN N) | (clear hN N; with_reducible refine hN _ _ ?_; clear hN N))
        repeat' (first
          | (refine aW_reg fun N hN => ?_; simp (config := {maxSteps := 10000000}) (disch := first | (intro; intros; rename_i h; injection h; done) | omega) only [go_sem, Bool.false_or, Bool.true_or, Bool.or_true, Bool.or_false, Nat.reduceAdd, Nat.reduceSub, Nat.reduceMul, Nat.reduceLT, Nat.reduceLeDiff, Nat.lt_irrefl, Nat.le_refl, List.getElem?_toArray, bne_self_eq_false, Int.le_refl, Int.reduceLE, Int.reduceLT, Int.toNat_zero, Nat.zero_mul, List.all_cons, List.all_nil, Bool.and_self, Bool.and_true, Bool.true_and, Nat.reduceEqDiff, Nat.one_ne_zero, true_and, and_true, and_self, List.drop_succ_cons, List.drop_nil, List.take_succ_cons, List.take_nil, reduceCtorEq, Nat.sub_zero, Option.some.injEq, wrap_i64, wrap_u8, dec_t, dec_f, ite_t, ite_f, Int.toNat_natCast, Int.cast_ofNat_Int, toNat_cast_add, bcells_length, List.length_take, List.length_map, List.length_drop, List.length_append, Int.reduceBEq, Int.reduceBNe, beq_self_eq_true]; with_reducible refine hN _ _ ?_; clear hN N)
          | (refine aW_reg fun N hN => ?_; (try simp (config := {maxSteps := 10000000}) (disch := first | (intro; intros; rename_i h; injection h; done) | omega) only [go_sem, Bool.false_or, Bool.true_or, Bool.or_true, Bool.or_false, Nat.reduceAdd, Nat.reduceSub, Nat.reduceMul, Nat.reduceLT, Nat.reduceLeDiff, Nat.lt_irrefl, Nat.le_refl, List.getElem?_toArray, bne_self_eq_false, Int.le_refl, Int.reduceLE, Int.reduceLT, Int.toNat_zero, Nat.zero_mul, List.all_cons, List.all_nil, Bool.and_self, Bool.and_true, Bool.true_and, Nat.reduceEqDiff, Nat.one_ne_zero, true_and, and_true, and_self, List.drop_succ_cons, List.drop_nil, List.take_succ_cons, List.take_nil, reduceCtorEq, Nat.sub_zero, Option.some.injEq, wrap_i64, wrap_u8, dec_t, dec_f, ite_t, ite_f, Int.toNat_natCast, Int.cast_ofNat_Int, toNat_cast_add, bcells_length, List.length_take, List.length_map, List.length_drop, List.length_append, Int.reduceBEq, Int.reduceBNe, beq_self_eq_true]); (repeat ((first | (refine (lives_c).plain (by first | rfl | simp only [renL, ren, rE.ren, aE.ren, sE.ren, acell_noid, rcell_noid]) (by first | rfl | simp only [renL, ren, rE.ren, aE.ren, sE.ren, acell_noid, rcell_noid]) ?_)); try simp (config := {maxSteps := 10000000}) (disch := first | (intro; intros; rename_i h; injection h; done) | omega) only [go_sem, Bool.false_or, Bool.true_or, Bool.or_true, Bool.or_false, Nat.reduceAdd, Nat.reduceSub, Nat.reduceMul, Nat.reduceLT, Nat.reduceLeDiff, Nat.lt_irrefl, Nat.le_refl, List.getElem?_toArray, bne_self_eq_false, Int.le_refl, Int.reduceLE, Int.reduceLT, Int.toNat_zero, Nat.zero_mul, List.all_cons, List.all_nil, Bool.and_self, Bool.and_true, Bool.true_and, Nat.reduceEqDiff, Nat.one_ne_zero, true_and, and_true, and_self, List.drop_succ_cons, List.drop_nil, List.take_succ_cons, List.take_nil, reduceCtorEq, Nat.sub_zero, Option.some.injEq, wrap_i64, wrap_u8, dec_t, dec_f, ite_t, ite_f, Int.toNat_natCast, Int.cast_ofNat_Int, toNat_cast_add, bcells_length, List.length_take, List.length_map, List.length_drop, List.length_append, Int.reduceBEq, Int.reduceBNe, beq_self_eq_true])); with_reducible refine hN _ _ ?_; clear hN N)
          | (refine aW_reg1 fun N hN => ?_; simp (config := {maxSteps := 10000000}) (disch := first | (intro; intros; rename_i h; injection h; done) | omega) only [go_sem, Bool.false_or, Bool.true_or, Bool.or_true, Bool.or_false, Nat.reduceAdd, Nat.reduceSub, Nat.reduceMul, Nat.reduceLT, Nat.reduceLeDiff, Nat.lt_irrefl, Nat.le_refl, List.getElem?_toArray, bne_self_eq_false, Int.le_refl, Int.reduceLE, Int.reduceLT, Int.toNat_zero, Nat.zero_mul, List.all_cons, List.all_nil, Bool.and_self, Bool.and_true, Bool.true_and, Nat.reduceEqDiff, Nat.one_ne_zero, true_and, and_true, and_self, List.drop_succ_cons, List.drop_nil, List.take_succ_cons, List.take_nil, reduceCtorEq, Nat.sub_zero, Option.some.injEq, wrap_i64, wrap_u8, dec_t, dec_f, ite_t, ite_f, Int.toNat_natCast, Int.cast_ofNat_Int, toNat_cast_add, bcells_length, List.length_take, List.length_map, List.length_drop, List.length_append, Int.reduceBEq, Int.reduceBNe, beq_self_eq_true]; with_reducible refine hN _ _ ?_; clear hN N)
          | (refine aW_reg1 fun N hN => ?_; (try simp (config := {maxSteps := 10000000}) (disch := first | (intro; intros; rename_i h; injection h; done) | omega) only [go_sem, Bool.false_or, Bool.true_or, Bool.or_true, Bool.or_false, Nat.reduceAdd, Nat.reduceSub, Nat.reduceMul, Nat.reduceLT, Nat.reduceLeDiff, Nat.lt_irrefl, Nat.le_refl, List.getElem?_toArray, bne_self_eq_false, Int.le_refl, Int.reduceLE, Int.reduceLT, Int.toNat_zero, Nat.zero_mul, List.all_cons, List.all_nil, Bool.and_self, Bool.and_true, Bool.true_and, Nat.reduceEqDiff, Nat.one_ne_zero, true_and, and_true, and_self, List.drop_succ_cons, List.drop_nil, List.take_succ_cons, List.take_nil, reduceCtorEq, Nat.sub_zero, Option.some.injEq, wrap_i64, wrap_u8, dec_t, dec_f, ite_t, ite_f, Int.toNat_natCast, Int.cast_ofNat_Int, toNat_cast_add, bcells_length, List.length_take, List.length_map, List.length_drop, List.length_append, Int.reduceBEq, Int.reduceBNe, beq_self_eq_true]); (repeat ((first | (refine (lives_c).plain (by first | rfl | simp only [renL, ren, rE.ren, aE.ren, sE.ren, acell_noid, rcell_noid]) (by first | rfl | simp only [renL, ren, rE.ren, aE.ren, sE.ren, acell_noid, rcell_noid]) ?_)); try simp (config := {maxSteps := 10000000}) (disch := first | (intro; intros; rename_i h; injection h; done) | omega) only [go_sem, Bool.false_or, Bool.true_or, Bool.or_true, Bool.or_false, Nat.reduceAdd, Nat.reduceSub, Nat.reduceMul, Nat.reduceLT, Nat.reduceLeDiff, Nat.lt_irrefl, Nat.le_refl, List.getElem?_toArray, bne_self_eq_false, Int.le_refl, Int.reduceLE, Int.reduceLT, Int.toNat_zero, Nat.zero_mul, List.all_cons, List.all_nil, Bool.and_self, Bool.and_true, Bool.true_and, Nat.reduceEqDiff, Nat.one_ne_zero, true_and, and_true, and_self, List.drop_succ_cons, List.drop_nil, List.take_succ_cons, List.take_nil, reduceCtorEq, Nat.sub_zero, Option.some.injEq, wrap_i64, wrap_u8, dec_t, dec_f, ite_t, ite_f, Int.toNat_natCast, Int.cast_ofNat_Int, toNat_cast_add, bcells_length, List.length_take, List.length_map, List.length_drop, List.length_append, Int.reduceBEq, Int.reduceBNe, beq_self_eq_true])); with_reducible refine hN _ _ ?_; clear hN N)
          | (refine aW_seq_k fun N hN => ?_)
          | (refine aW_block ?_)
          | (refine aW_cond (b := true) rfl (fun _ => ?_) (fun h => by cases h))
          | (refine aW_cond (b := false) rfl (fun h => by cases h) (fun _ => ?_))
          | (refine aW_skip ?_)
          | (refine aW_exit ?_)
          | (with_reducible refine nx_normal ?_)
          | (first | (with_reducible refine hN _ _ ?_; clear hN N) | (clear hN N; with_reducible refine hN _ _ ?_; clear hN N) | (clear hN N; clear hN N; with_reducible refine hN _ _ ?_; clear hN N) | (clear hN N; clear hN N; clear hN N; with_reducible refine hN _ _ ?_; clear hN N))
          | (with_reducible refine nx_exit ?_)
          | (with_reducible refine nx_ret ?_)
          | (with_reducible refine ib_normal ?_)
          | (with_reducible refine ib_exit ?_)
          | (with_reducible refine ib_ret ?_)
          | (with_reducible refine ib_exit_ne (by decide) ?_)
          | (with_reducible refine for_exit ?_)
          | (with_reducible refine for_ret ?_)
          | (with_reducible refine forq_exit ?_)
          | (with_reducible refine forq_ret ?_)
          | (with_reducible refine round_exit ?_)
          | (with_reducible refine round_ret ?_))
        have hsa := sameAddrs_c [ad4] (by decide)
        have hae : aE.cells [ad4] = [.int .i64 4, .int .u8 0, .int .u8 0, .int .u8 0, .int .u8 0, .int .u8 0, .int .u8 0, .int .u8 0, .int .u8 0, .int .u8 0, .int .u8 0, .int .u8 0, .int .u8 0, .int .u8 0, .int .u8 0, .int .u8 0, .int .u8 0] := rfl
        refine aW_reg1 fun N hN => ?_
        simp (config := {maxSteps := 10000000}) (disch := first | (intro; intros; rename_i h; injection h; done) | omega) only [go_sem, Bool.false_or, Bool.true_or, Bool.or_true, Bool.or_false, Nat.reduceAdd, Nat.reduceSub, Nat.reduceMul, Nat.reduceLT, Nat.reduceLeDiff, Nat.lt_irrefl, Nat.le_refl, List.getElem?_toArray, bne_self_eq_false, Int.le_refl, Int.reduceLE, Int.reduceLT, Int.toNat_zero, Nat.zero_mul, List.all_cons, List.all_nil, Bool.and_self, Bool.and_true, Bool.true_and, Nat.reduceEqDiff, Nat.one_ne_zero, true_and, and_true, and_self, List.drop_succ_cons, List.drop_nil, List.take_succ_cons, List.take_nil, reduceCtorEq, Nat.sub_zero, Option.some.injEq, wrap_i64, wrap_u8, dec_t, dec_f, ite_t, ite_f, Int.toNat_natCast, Int.cast_ofNat_Int, toNat_cast_add, bcells_length, List.length_take, List.length_map, List.length_drop, List.length_append, Int.reduceBEq, Int.reduceBNe, beq_self_eq_true]
        refine hsa.pure [3] ⟨.inl (by simp only [LeV, ren, aE.ren]; rfl), .inr ⟨by simp, rfl, _, _, _, rfl, by rw [aE.ren]; rfl⟩, trivial⟩ (.inr rfl) rfl ?_
        simp (config := {maxSteps := 10000000}) (disch := first | (intro; intros; rename_i h; injection h; done) | omega) only [go_sem, Bool.false_or, Bool.true_or, Bool.or_true, Bool.or_false, Nat.reduceAdd, Nat.reduceSub, Nat.reduceMul, Nat.reduceLT, Nat.reduceLeDiff, Nat.lt_irrefl, Nat.le_refl, List.getElem?_toArray, bne_self_eq_false, Int.le_refl, Int.reduceLE, Int.reduceLT, Int.toNat_zero, Nat.zero_mul, List.all_cons, List.all_nil, Bool.and_self, Bool.and_true, Bool.true_and, Nat.reduceEqDiff, Nat.one_ne_zero, true_and, and_true, and_self, List.drop_succ_cons, List.drop_nil, List.take_succ_cons, List.take_nil, reduceCtorEq, Nat.sub_zero, Option.some.injEq, wrap_i64, wrap_u8, dec_t, dec_f, ite_t, ite_f, Int.toNat_natCast, Int.cast_ofNat_Int, toNat_cast_add, bcells_length, List.length_take, List.length_map, List.length_drop, List.length_append, Int.reduceBEq, Int.reduceBNe, beq_self_eq_true]
        refine lives_c.plain rfl rfl ?_
        simp (config := {maxSteps := 10000000}) (disch := first | (intro; intros; rename_i h; injection h; done) | omega) only [go_sem, Bool.false_or, Bool.true_or, Bool.or_true, Bool.or_false, Nat.reduceAdd, Nat.reduceSub, Nat.reduceMul, Nat.reduceLT, Nat.reduceLeDiff, Nat.lt_irrefl, Nat.le_refl, List.getElem?_toArray, bne_self_eq_false, Int.le_refl, Int.reduceLE, Int.reduceLT, Int.toNat_zero, Nat.zero_mul, List.all_cons, List.all_nil, Bool.and_self, Bool.and_true, Bool.true_and, Nat.reduceEqDiff, Nat.one_ne_zero, true_and, and_true, and_self, List.drop_succ_cons, List.drop_nil, List.take_succ_cons, List.take_nil, reduceCtorEq, Nat.sub_zero, Option.some.injEq, wrap_i64, wrap_u8, dec_t, dec_f, ite_t, ite_f, Int.toNat_natCast, Int.cast_ofNat_Int, toNat_cast_add, bcells_length, List.length_take, List.length_map, List.length_drop, List.length_append]
        repeat (first | (with_reducible refine nx_normal ?_) | (with_reducible refine hN _ _ ?_; clear hN N) | (clear hN N; with_reducible refine hN _ _ ?_; clear hN N))
        exact aW_ret (Body.keep [] (.bool true) [] rfl rfl trivial (by decide) (by decide) ⟨rfl, rfl⟩)
theorem bound_w (s t : (Sch.int .i64).Val) (h1 : (Sch.int .i64).ok s) (h2 : (Sch.int .i64).ok t) :
    ACalls Try.prog 6 [(Sch.int .i64).arg s, (Sch.int .i64).arg t] [] (fun r h => r = .ret (.bool true) ∧ h = []) :=
  bound_c s t (i64b h1).1 (i64b h1).2 (i64b h2).1 (i64b h2).2
end Go.Proofs
