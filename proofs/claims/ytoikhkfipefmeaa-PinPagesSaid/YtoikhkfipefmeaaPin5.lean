/- Contracts of the package's functions, by the walk over abstract values. No condition. -/
import Derived.Test.YtoikhkfipefmeaaPin3
namespace Go.Proofs
open Go Go.AH TryTy
set_option linter.unusedSimpArgs false
set_option linter.unusedVariables false
set_option maxRecDepth 10000

theorem few_c (s : List UInt8) (n : Nat) (hn : n ≤ 1000) (hs : s.length ≤ 9223372036854775806) : ACalls Try.prog 14 [.str s, .int .i64 (n : Int)] [] (fun r h => r = .ret (.str (s.take n)) ∧ h = []) := by
  refine acalls_body Try.func14 rfl (by decide +kernel) ?_
  simp only [List.length_nil, List.length_cons, List.length_append, Nat.zero_add, Try.ntmps14, List.replicate, List.cons_append, List.nil_append, List.append_assoc, Nat.reduceSub, Nat.reduceAdd]
  by_cases hc : n < s.length
  · repeat' (first
      | (refine aW_reg fun N hN => ?_; simp (config := {maxSteps := 10000000}) (disch := first | (intro; intros; rename_i h; injection h; done) | omega) only [go_sem, Nat.reduceAdd, Nat.reduceSub, Nat.reduceMul, Nat.reduceLT, Nat.reduceLeDiff, Nat.lt_irrefl, Nat.le_refl, List.getElem?_toArray, bne_self_eq_false, Int.le_refl, Int.reduceLE, Int.reduceLT, Int.toNat_zero, Nat.zero_mul, List.all_cons, List.all_nil, Bool.and_self, Bool.and_true, Bool.true_and, Nat.reduceEqDiff, Nat.one_ne_zero, true_and, and_true, and_self, List.drop_succ_cons, List.drop_nil, List.take_succ_cons, List.take_nil, wrap_i64, wrap_u8, dec_t, dec_f, ite_t, ite_f, Int.toNat_natCast, toNat_cast_add, bcells_length, List.length_take, List.length_map, List.length_drop, List.length_append]; refine hN _ _ ?_; clear hN N)
      | (refine aW_reg1 fun N hN => ?_; simp (config := {maxSteps := 10000000}) (disch := first | (intro; intros; rename_i h; injection h; done) | omega) only [go_sem, Nat.reduceAdd, Nat.reduceSub, Nat.reduceMul, Nat.reduceLT, Nat.reduceLeDiff, Nat.lt_irrefl, Nat.le_refl, List.getElem?_toArray, bne_self_eq_false, Int.le_refl, Int.reduceLE, Int.reduceLT, Int.toNat_zero, Nat.zero_mul, List.all_cons, List.all_nil, Bool.and_self, Bool.and_true, Bool.true_and, Nat.reduceEqDiff, Nat.one_ne_zero, true_and, and_true, and_self, List.drop_succ_cons, List.drop_nil, List.take_succ_cons, List.take_nil, wrap_i64, wrap_u8, dec_t, dec_f, ite_t, ite_f, Int.toNat_natCast, toNat_cast_add, bcells_length, List.length_take, List.length_map, List.length_drop, List.length_append]; refine hN _ _ ?_; clear hN N)
      | (refine aW_seq_k fun N hN => ?_)
      | (refine aW_block ?_)
      | (refine aW_cond (b := true) rfl (fun _ => ?_) (fun h => by cases h))
      | (refine aW_cond (b := false) rfl (fun h => by cases h) (fun _ => ?_))
      | (refine aW_skip ?_)
      | (refine aW_exit ?_)
      | (refine aW_ret ?_)
      | (with_reducible refine nx_normal ?_)
      | (first | (with_reducible refine hN _ _ ?_; clear hN N) | (clear hN N; with_reducible refine hN _ _ ?_; clear hN N) | (clear hN N; clear hN N; with_reducible refine hN _ _ ?_; clear hN N) | (clear hN N; clear hN N; clear hN N; with_reducible refine hN _ _ ?_; clear hN N))
      | (with_reducible refine nx_exit ?_)
      | (with_reducible refine nx_ret ?_)
      | (with_reducible refine ib_normal ?_)
      | (with_reducible refine ib_exit ?_)
      | (with_reducible refine ib_ret ?_)
      | (with_reducible refine ib_exit_ne (by decide) ?_)
      | (with_reducible refine for_exit ?_)
      | (with_reducible refine for_ret ?_)
      | (with_reducible refine round_exit ?_)
      | (with_reducible refine round_ret ?_))
    exact Body.done rfl (Nat.le_refl _) ⟨rfl, rfl⟩
  · repeat' (first
      | (refine aW_reg fun N hN => ?_; simp (config := {maxSteps := 10000000}) (disch := first | (intro; intros; rename_i h; injection h; done) | omega) only [go_sem, Nat.reduceAdd, Nat.reduceSub, Nat.reduceMul, Nat.reduceLT, Nat.reduceLeDiff, Nat.lt_irrefl, Nat.le_refl, List.getElem?_toArray, bne_self_eq_false, Int.le_refl, Int.reduceLE, Int.reduceLT, Int.toNat_zero, Nat.zero_mul, List.all_cons, List.all_nil, Bool.and_self, Bool.and_true, Bool.true_and, Nat.reduceEqDiff, Nat.one_ne_zero, true_and, and_true, and_self, List.drop_succ_cons, List.drop_nil, List.take_succ_cons, List.take_nil, wrap_i64, wrap_u8, dec_t, dec_f, ite_t, ite_f, Int.toNat_natCast, toNat_cast_add, bcells_length, List.length_take, List.length_map, List.length_drop, List.length_append]; refine hN _ _ ?_; clear hN N)
      | (refine aW_reg1 fun N hN => ?_; simp (config := {maxSteps := 10000000}) (disch := first | (intro; intros; rename_i h; injection h; done) | omega) only [go_sem, Nat.reduceAdd, Nat.reduceSub, Nat.reduceMul, Nat.reduceLT, Nat.reduceLeDiff, Nat.lt_irrefl, Nat.le_refl, List.getElem?_toArray, bne_self_eq_false, Int.le_refl, Int.reduceLE, Int.reduceLT, Int.toNat_zero, Nat.zero_mul, List.all_cons, List.all_nil, Bool.and_self, Bool.and_true, Bool.true_and, Nat.reduceEqDiff, Nat.one_ne_zero, true_and, and_true, and_self, List.drop_succ_cons, List.drop_nil, List.take_succ_cons, List.take_nil, wrap_i64, wrap_u8, dec_t, dec_f, ite_t, ite_f, Int.toNat_natCast, toNat_cast_add, bcells_length, List.length_take, List.length_map, List.length_drop, List.length_append]; refine hN _ _ ?_; clear hN N)
      | (refine aW_seq_k fun N hN => ?_)
      | (refine aW_block ?_)
      | (refine aW_cond (b := true) rfl (fun _ => ?_) (fun h => by cases h))
      | (refine aW_cond (b := false) rfl (fun h => by cases h) (fun _ => ?_))
      | (refine aW_skip ?_)
      | (refine aW_exit ?_)
      | (refine aW_ret ?_)
      | (with_reducible refine nx_normal ?_)
      | (first | (with_reducible refine hN _ _ ?_; clear hN N) | (clear hN N; with_reducible refine hN _ _ ?_; clear hN N) | (clear hN N; clear hN N; with_reducible refine hN _ _ ?_; clear hN N) | (clear hN N; clear hN N; clear hN N; with_reducible refine hN _ _ ?_; clear hN N))
      | (with_reducible refine nx_exit ?_)
      | (with_reducible refine nx_ret ?_)
      | (with_reducible refine ib_normal ?_)
      | (with_reducible refine ib_exit ?_)
      | (with_reducible refine ib_ret ?_)
      | (with_reducible refine ib_exit_ne (by decide) ?_)
      | (with_reducible refine for_exit ?_)
      | (with_reducible refine for_ret ?_)
      | (with_reducible refine round_exit ?_)
      | (with_reducible refine round_ret ?_))
    refine Body.done rfl (Nat.le_refl _) ⟨?_, rfl⟩
    rw [List.take_of_length_le (by omega)]
    rfl

def lowS (k : Nat) : AV := match k with | 0 => .nilsl | k + 1 => .gsl 0 (k + 1) 1
def lowH (s : List UInt8) (k : Nat) : Heap := match k with | 0 => [] | k + 1 => [some (.row (bcells (lower (s.take (k + 1)))) 5 false)]

theorem lower_length (s : List UInt8) : (lower s).length = s.length := by simp [lower]
theorem lowc_add (c : UInt8) (h : 65 ≤ c.toNat) (h2 : c.toNat ≤ 90) : IntKind.u8.wrap ((c.toNat : Int) + 32) = ((lowc c).toNat : Int) := by
  have : (lowc c).toNat = c.toNat + 32 := by
    unfold lowc
    rw [if_pos (by omega), UInt8.toNat_add]
    simp
    omega
  rw [this, IntWalk.u8_in _ (by omega)]
  rfl
theorem bcells_snoc (l : List UInt8) (c : UInt8) : bcells l ++ [.int .u8 (c.toNat : Int)] = bcells (l ++ [c]) := by simp [bcells]
theorem take_lower_succ (s : List UInt8) (k : Nat) (hk : k < s.length) : lower (s.take (k + 1)) = lower (s.take k) ++ [lowc s[k]] := by
  rw [List.take_add_one, List.getElem?_eq_getElem hk]
  simp only [lower, List.map_append]
  rfl
theorem renL_bcells (m : Nat → Nat) : ∀ (l : List UInt8), renL m (bcells l) = bcells l
  | [] => rfl
  | x :: l => by
    have := renL_bcells m l
    simp only [bcells, List.map_cons, renL, ren] at this ⊢
    rw [this]

theorem rlower_c (s : List UInt8) (hs : s.length ≤ 1000) : ACalls Try.prog 15 [.str s] [] (fun r h => r = .ret (.str (lower s)) ∧ h = []) := by
  refine acalls_body Try.func15 rfl (by decide +kernel) ?_
  simp only [List.length_nil, List.length_cons, List.length_append, Nat.zero_add, Try.ntmps15, List.replicate, List.cons_append, List.nil_append, List.append_assoc, Nat.reduceSub, Nat.reduceAdd]
  repeat' (first
    | (refine aW_reg fun N hN => ?_; simp (config := {maxSteps := 10000000}) (disch := first | (intro; intros; rename_i h; injection h; done) | omega) only [go_sem, Nat.reduceAdd, Nat.reduceSub, Nat.reduceMul, Nat.reduceLT, Nat.reduceLeDiff, Nat.lt_irrefl, Nat.le_refl, List.getElem?_toArray, bne_self_eq_false, Int.le_refl, Int.reduceLE, Int.reduceLT, Int.toNat_zero, Nat.zero_mul, List.all_cons, List.all_nil, Bool.and_self, Bool.and_true, Bool.true_and, Nat.reduceEqDiff, Nat.one_ne_zero, true_and, and_true, and_self, List.drop_succ_cons, List.drop_nil, List.take_succ_cons, List.take_nil, wrap_i64, wrap_u8, dec_t, dec_f, ite_t, ite_f, Int.toNat_natCast, toNat_cast_add, bcells_length, List.length_take, List.length_map, List.length_drop, List.length_append]; refine hN _ _ ?_; clear hN N)
    | (refine aW_reg1 fun N hN => ?_; simp (config := {maxSteps := 10000000}) (disch := first | (intro; intros; rename_i h; injection h; done) | omega) only [go_sem, Nat.reduceAdd, Nat.reduceSub, Nat.reduceMul, Nat.reduceLT, Nat.reduceLeDiff, Nat.lt_irrefl, Nat.le_refl, List.getElem?_toArray, bne_self_eq_false, Int.le_refl, Int.reduceLE, Int.reduceLT, Int.toNat_zero, Nat.zero_mul, List.all_cons, List.all_nil, Bool.and_self, Bool.and_true, Bool.true_and, Nat.reduceEqDiff, Nat.one_ne_zero, true_and, and_true, and_self, List.drop_succ_cons, List.drop_nil, List.take_succ_cons, List.take_nil, wrap_i64, wrap_u8, dec_t, dec_f, ite_t, ite_f, Int.toNat_natCast, toNat_cast_add, bcells_length, List.length_take, List.length_map, List.length_drop, List.length_append]; refine hN _ _ ?_; clear hN N)
    | (refine aW_seq_k fun N hN => ?_)
    | (refine aW_block ?_)
    | (refine aW_cond (b := true) rfl (fun _ => ?_) (fun h => by cases h))
    | (refine aW_cond (b := false) rfl (fun h => by cases h) (fun _ => ?_))
    | (refine aW_skip ?_)
    | (refine aW_exit ?_)
    | (refine aW_ret ?_)
    | (with_reducible refine nx_normal ?_)
    | (first | (with_reducible refine hN _ _ ?_; clear hN N) | (clear hN N; with_reducible refine hN _ _ ?_; clear hN N) | (clear hN N; clear hN N; with_reducible refine hN _ _ ?_; clear hN N) | (clear hN N; clear hN N; clear hN N; with_reducible refine hN _ _ ?_; clear hN N))
    | (with_reducible refine nx_exit ?_)
    | (with_reducible refine nx_ret ?_)
    | (with_reducible refine ib_normal ?_)
    | (with_reducible refine ib_exit ?_)
    | (with_reducible refine ib_ret ?_)
    | (with_reducible refine ib_exit_ne (by decide) ?_)
    | (with_reducible refine for_exit ?_)
    | (with_reducible refine for_ret ?_)
    | (with_reducible refine round_exit ?_)
    | (with_reducible refine round_ret ?_))
  refine aW_for (fun k => ([.str s, .unk, .unk, lowS k, .int .i64 (k : Int), .unk, .unk, .unk, .unk, .unk, .unk, .unk, .unk, .unk, .unk, .unk, .unk, .unk, .unk, .unk, .unk, .unk, .unk, .unk, .unk, .unk, .unk, .unk, .unk], lowH s k)) s.length (fun hn => Weak.forget (by simp [LeU, lowS]) (Nat.le_refl _)) ?_
  intro k hk _
  simp only
  by_cases hlt : k < s.length
  · obtain ⟨c, hcc⟩ : ∃ c, s[k] = c := ⟨_, rfl⟩
    have hget : s[k]? = some c := by rw [List.getElem?_eq_getElem hlt, hcc]
    have hgd : s.getD k 0 = c := by rw [List.getD, hget]; rfl
    have hlb : c.toNat < 256 := c.toNat_lt
    have hts := take_lower_succ s k hlt
    have ht0 : (bcells (lower (s.take k))).take k = bcells (lower (s.take k)) := List.take_of_length_le (by simp [bcells_length, lower_length]; omega)
    rw [hcc] at hts
    have hw : (65 ≤ c.toNat ∧ c.toNat ≤ 90 ∧ IntKind.u8.wrap ((c.toNat : Int) + 32) = ((lowc c).toNat : Int)) ∨ ((c.toNat < 65) ∧ lowc c = c) ∨ (65 ≤ c.toNat ∧ 90 < c.toNat ∧ lowc c = c) := by
      by_cases h65 : 65 ≤ c.toNat
      · by_cases h90 : c.toNat ≤ 90
        · exact .inl ⟨h65, h90, lowc_add c h65 h90⟩
        · exact .inr (.inr ⟨h65, by omega, by unfold lowc; rw [if_neg (by omega)]⟩)
      · exact .inr (.inl ⟨by omega, by unfold lowc; rw [if_neg (by omega)]⟩)
    rcases k with _ | k <;> rcases hw with ⟨h65, h90, hw⟩ | ⟨h65, hw⟩ | ⟨h65, h90, hw⟩
    all_goals
      repeat' (first
        | (refine aW_reg fun N hN => ?_; simp (config := {maxSteps := 10000000}) (disch := first | (intro; intros; rename_i h; injection h; done) | omega) only [go_sem, Nat.reduceAdd, Nat.reduceSub, Nat.reduceMul, Nat.reduceLT, Nat.reduceLeDiff, Nat.lt_irrefl, Nat.le_refl, List.getElem?_toArray, bne_self_eq_false, Int.le_refl, Int.reduceLE, Int.reduceLT, Int.toNat_zero, Nat.zero_mul, List.all_cons, List.all_nil, Bool.and_self, Bool.and_true, Bool.true_and, Nat.reduceEqDiff, Nat.one_ne_zero, true_and, and_true, and_self, List.drop_succ_cons, List.drop_nil, List.take_succ_cons, List.take_nil, wrap_i64, wrap_u8, dec_t, dec_f, ite_t, ite_f, Int.toNat_natCast, toNat_cast_add, bcells_length, List.length_take, List.length_map, List.length_drop, List.length_append, hget, hgd, lowS, lowH, lower_length, hw, Nat.lt_irrefl, ht0]; refine hN _ _ ?_; clear hN N)
        | (refine aW_reg1 fun N hN => ?_; simp (config := {maxSteps := 10000000}) (disch := first | (intro; intros; rename_i h; injection h; done) | omega) only [go_sem, Nat.reduceAdd, Nat.reduceSub, Nat.reduceMul, Nat.reduceLT, Nat.reduceLeDiff, Nat.lt_irrefl, Nat.le_refl, List.getElem?_toArray, bne_self_eq_false, Int.le_refl, Int.reduceLE, Int.reduceLT, Int.toNat_zero, Nat.zero_mul, List.all_cons, List.all_nil, Bool.and_self, Bool.and_true, Bool.true_and, Nat.reduceEqDiff, Nat.one_ne_zero, true_and, and_true, and_self, List.drop_succ_cons, List.drop_nil, List.take_succ_cons, List.take_nil, wrap_i64, wrap_u8, dec_t, dec_f, ite_t, ite_f, Int.toNat_natCast, toNat_cast_add, bcells_length, List.length_take, List.length_map, List.length_drop, List.length_append, hget, hgd, lowS, lowH, lower_length, hw, Nat.lt_irrefl, ht0]; refine hN _ _ ?_; clear hN N)
        | (refine aW_seq_k fun N hN => ?_)
        | (refine aW_block ?_)
        | (refine aW_cond (b := true) rfl (fun _ => ?_) (fun h => by cases h))
        | (refine aW_cond (b := false) rfl (fun h => by cases h) (fun _ => ?_))
        | (refine aW_skip ?_)
        | (refine aW_exit ?_)
        | (refine aW_ret ?_)
        | (with_reducible refine nx_normal ?_)
        | (first | (with_reducible refine hN _ _ ?_; clear hN N) | (clear hN N; with_reducible refine hN _ _ ?_; clear hN N) | (clear hN N; clear hN N; with_reducible refine hN _ _ ?_; clear hN N) | (clear hN N; clear hN N; clear hN N; with_reducible refine hN _ _ ?_; clear hN N))
        | (with_reducible refine nx_exit ?_)
        | (with_reducible refine nx_ret ?_)
        | (with_reducible refine ib_normal ?_)
        | (with_reducible refine ib_exit ?_)
        | (with_reducible refine ib_ret ?_)
        | (with_reducible refine ib_exit_ne (by decide) ?_)
        | (with_reducible refine for_exit ?_)
        | (with_reducible refine for_ret ?_)
        | (with_reducible refine round_exit ?_)
        | (with_reducible refine round_ret ?_))
      try rw [hw] at hts
    iterate 3
      exact ⟨by omega, _, Weak.lit [1] (by simp [LeL, LeV, ren, pf, lowS]) (by simp [Keeps, lowH, renB, renL_bcells, hts]; rfl) (by decide) (by decide)⟩
    iterate 3
      exact ⟨by omega, _, Weak.lit [2] (by simp [LeL, LeV, ren, pf, lowS]) (by simp [Keeps, lowH, renB, renL_app, renL_bcells, renL, ren, hts, ← bcells_snoc]) (by decide) (by decide)⟩
  · obtain rfl : k = s.length := by omega
    have hts : s.take s.length = s := List.take_length
    cases hk : s.length with
    | zero =>
      obtain rfl := List.eq_nil_of_length_eq_zero hk
      repeat' (first
        | (refine aW_reg fun N hN => ?_; simp (config := {maxSteps := 10000000}) (disch := first | (intro; intros; rename_i h; injection h; done) | omega) only [go_sem, Nat.reduceAdd, Nat.reduceSub, Nat.reduceMul, Nat.reduceLT, Nat.reduceLeDiff, Nat.lt_irrefl, Nat.le_refl, List.getElem?_toArray, bne_self_eq_false, Int.le_refl, Int.reduceLE, Int.reduceLT, Int.toNat_zero, Nat.zero_mul, List.all_cons, List.all_nil, Bool.and_self, Bool.and_true, Bool.true_and, Nat.reduceEqDiff, Nat.one_ne_zero, true_and, and_true, and_self, List.drop_succ_cons, List.drop_nil, List.take_succ_cons, List.take_nil, wrap_i64, wrap_u8, dec_t, dec_f, ite_t, ite_f, Int.toNat_natCast, toNat_cast_add, bcells_length, List.length_take, List.length_map, List.length_drop, List.length_append, lowS, lowH]; refine hN _ _ ?_; clear hN N)
        | (refine aW_reg1 fun N hN => ?_; simp (config := {maxSteps := 10000000}) (disch := first | (intro; intros; rename_i h; injection h; done) | omega) only [go_sem, Nat.reduceAdd, Nat.reduceSub, Nat.reduceMul, Nat.reduceLT, Nat.reduceLeDiff, Nat.lt_irrefl, Nat.le_refl, List.getElem?_toArray, bne_self_eq_false, Int.le_refl, Int.reduceLE, Int.reduceLT, Int.toNat_zero, Nat.zero_mul, List.all_cons, List.all_nil, Bool.and_self, Bool.and_true, Bool.true_and, Nat.reduceEqDiff, Nat.one_ne_zero, true_and, and_true, and_self, List.drop_succ_cons, List.drop_nil, List.take_succ_cons, List.take_nil, wrap_i64, wrap_u8, dec_t, dec_f, ite_t, ite_f, Int.toNat_natCast, toNat_cast_add, bcells_length, List.length_take, List.length_map, List.length_drop, List.length_append, lowS, lowH]; refine hN _ _ ?_; clear hN N)
        | (refine aW_seq_k fun N hN => ?_)
        | (refine aW_block ?_)
        | (refine aW_cond (b := true) rfl (fun _ => ?_) (fun h => by cases h))
        | (refine aW_cond (b := false) rfl (fun h => by cases h) (fun _ => ?_))
        | (refine aW_skip ?_)
        | (refine aW_exit ?_)
        | (refine aW_ret ?_)
        | (with_reducible refine nx_normal ?_)
        | (first | (with_reducible refine hN _ _ ?_; clear hN N) | (clear hN N; with_reducible refine hN _ _ ?_; clear hN N) | (clear hN N; clear hN N; with_reducible refine hN _ _ ?_; clear hN N) | (clear hN N; clear hN N; clear hN N; with_reducible refine hN _ _ ?_; clear hN N))
        | (with_reducible refine nx_exit ?_)
        | (with_reducible refine nx_ret ?_)
        | (with_reducible refine ib_normal ?_)
        | (with_reducible refine ib_exit ?_)
        | (with_reducible refine ib_ret ?_)
        | (with_reducible refine ib_exit_ne (by decide) ?_)
        | (with_reducible refine for_exit ?_)
        | (with_reducible refine for_ret ?_)
        | (with_reducible refine round_exit ?_)
        | (with_reducible refine round_ret ?_))
      exact Body.done rfl (Nat.le_refl _) ⟨rfl, rfl⟩
    | succ k =>
      rw [hk] at hts
      have ht0 : (bcells (lower s)).take (k + 1) = bcells (lower s) := List.take_of_length_le (by simp [bcells_length, lower_length]; omega)
      repeat' (first
        | (refine aW_reg fun N hN => ?_; simp (config := {maxSteps := 10000000}) (disch := first | (intro; intros; rename_i h; injection h; done) | omega) only [go_sem, Nat.reduceAdd, Nat.reduceSub, Nat.reduceMul, Nat.reduceLT, Nat.reduceLeDiff, Nat.lt_irrefl, Nat.le_refl, List.getElem?_toArray, bne_self_eq_false, Int.le_refl, Int.reduceLE, Int.reduceLT, Int.toNat_zero, Nat.zero_mul, List.all_cons, List.all_nil, Bool.and_self, Bool.and_true, Bool.true_and, Nat.reduceEqDiff, Nat.one_ne_zero, true_and, and_true, and_self, List.drop_succ_cons, List.drop_nil, List.take_succ_cons, List.take_nil, wrap_i64, wrap_u8, dec_t, dec_f, ite_t, ite_f, Int.toNat_natCast, toNat_cast_add, bcells_length, List.length_take, List.length_map, List.length_drop, List.length_append, lowS, lowH, lower_length, hts, ht0, toBytes_bcells]; refine hN _ _ ?_; clear hN N)
        | (refine aW_reg1 fun N hN => ?_; simp (config := {maxSteps := 10000000}) (disch := first | (intro; intros; rename_i h; injection h; done) | omega) only [go_sem, Nat.reduceAdd, Nat.reduceSub, Nat.reduceMul, Nat.reduceLT, Nat.reduceLeDiff, Nat.lt_irrefl, Nat.le_refl, List.getElem?_toArray, bne_self_eq_false, Int.le_refl, Int.reduceLE, Int.reduceLT, Int.toNat_zero, Nat.zero_mul, List.all_cons, List.all_nil, Bool.and_self, Bool.and_true, Bool.true_and, Nat.reduceEqDiff, Nat.one_ne_zero, true_and, and_true, and_self, List.drop_succ_cons, List.drop_nil, List.take_succ_cons, List.take_nil, wrap_i64, wrap_u8, dec_t, dec_f, ite_t, ite_f, Int.toNat_natCast, toNat_cast_add, bcells_length, List.length_take, List.length_map, List.length_drop, List.length_append, lowS, lowH, lower_length, hts, ht0, toBytes_bcells]; refine hN _ _ ?_; clear hN N)
        | (refine aW_seq_k fun N hN => ?_)
        | (refine aW_block ?_)
        | (refine aW_cond (b := true) rfl (fun _ => ?_) (fun h => by cases h))
        | (refine aW_cond (b := false) rfl (fun h => by cases h) (fun _ => ?_))
        | (refine aW_skip ?_)
        | (refine aW_exit ?_)
        | (refine aW_ret ?_)
        | (with_reducible refine nx_normal ?_)
        | (first | (with_reducible refine hN _ _ ?_; clear hN N) | (clear hN N; with_reducible refine hN _ _ ?_; clear hN N) | (clear hN N; clear hN N; with_reducible refine hN _ _ ?_; clear hN N) | (clear hN N; clear hN N; clear hN N; with_reducible refine hN _ _ ?_; clear hN N))
        | (with_reducible refine nx_exit ?_)
        | (with_reducible refine nx_ret ?_)
        | (with_reducible refine ib_normal ?_)
        | (with_reducible refine ib_exit ?_)
        | (with_reducible refine ib_ret ?_)
        | (with_reducible refine ib_exit_ne (by decide) ?_)
        | (with_reducible refine for_exit ?_)
        | (with_reducible refine for_ret ?_)
        | (with_reducible refine round_exit ?_)
        | (with_reducible refine round_ret ?_))
      exact Body.keep [] (.str (lower s)) [] rfl rfl trivial List.nodup_nil (List.nil_prefix) ⟨rfl, rfl⟩
end Go.Proofs
