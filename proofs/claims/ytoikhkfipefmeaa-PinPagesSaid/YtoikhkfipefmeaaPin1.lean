/- Contracts of the package's functions, by the walk over abstract values. No condition. -/
import Derived.Test.YtoikhkfipefmeaaLower
namespace Go.Proofs
open Go Go.AH TryTy
set_option linter.unusedSimpArgs false
set_option linter.unusedVariables false
set_option maxRecDepth 10000

structure Pn where
  page : Int
  host : List UInt8
  s : Int

def pcell (p : Pn) : List AV := [.int .i64 p.page, .str p.host, .int .i64 p.s]
def pcells (l : List Pn) : List AV := l.flatMap pcell
theorem pcells_length (l : List Pn) : (pcells l).length = l.length * 3 := by
  induction l with
  | nil => rfl
  | cons x l ih => simp only [pcells, List.flatMap_cons, List.length_append, List.length_cons] at ih ⊢; rw [ih]; simp [pcell]; omega
theorem pcells_drop : ∀ (l : List Pn) (i : Nat), (pcells l).drop (i * 3) = pcells (l.drop i)
  | [], i => by simp [pcells]
  | x :: l, 0 => rfl
  | x :: l, i + 1 => by
    have := pcells_drop l i
    rw [Nat.add_mul, List.drop_succ_cons, ← this]
    simp only [pcells, List.flatMap_cons, pcell]
    rfl
theorem pcells_append (l l' : List Pn) : pcells (l ++ l') = pcells l ++ pcells l' := by simp [pcells]
theorem pcells_at (l : List Pn) (i : Nat) (h : i < l.length) : (pcells l).drop (i * 3) = pcell l[i] ++ pcells (l.drop (i + 1)) := by
  rw [pcells_drop, List.drop_eq_getElem_cons h]
  rfl

theorem beq_eq_decide' {α : Type} [DecidableEq α] (a b : α) : (a == b) = decide (a = b) := by by_cases h : a = b <;> simp [h]

theorem pcell_len (x : Pn) (r : List AV) : (3 ≤ (pcell x ++ r).length) = True := by simp [pcell]
theorem pcell_take (x : Pn) (r : List AV) : List.take 3 (pcell x ++ r) = pcell x := by simp [pcell]

/-- Where the first is that is wanted; -1: nowhere. -/
def idx (q : Pn → Bool) (l : List Pn) : Int := match l.findIdx? q with
  | some i => (i : Int)
  | none => -1

theorem find1_c (p : Pn) (k : Int) (hs : List UInt8) : ACalls Try.prog 33 [.agg (pcell p), .ptr 0 0] [some (.row [.int .i64 k, .str hs] 26 true)]
    (fun r h => r = .ret (.bool (decide (p.page = k) && decide (p.host = hs))) ∧ h = [some (.row [.int .i64 k, .str hs] 26 true)]) := by
  refine acalls_body Try.func33 rfl (by decide +kernel) ?_
  simp only [List.length_nil, List.length_cons, List.length_append, Nat.zero_add, Try.ntmps33, List.replicate, List.cons_append, List.nil_append, List.append_assoc, Nat.reduceSub, Nat.reduceAdd]
  refine aW_reg fun N hN => ?_
  simp (config := {maxSteps := 10000000}) only [go_sem, Nat.reduceAdd, Nat.reduceSub, Nat.reduceMul, Nat.reduceLT, Nat.reduceLeDiff, Nat.lt_irrefl, Nat.le_refl, List.getElem?_toArray, bne_self_eq_false, Int.le_refl, Int.reduceLE, Int.reduceLT, Int.toNat_zero, Nat.zero_mul, List.all_cons, List.all_nil, Bool.and_self, Bool.and_true, Bool.true_and, Nat.reduceEqDiff, Nat.one_ne_zero, true_and, and_true, and_self, List.drop_succ_cons, List.drop_nil, List.take_succ_cons, List.take_nil, pcell]
  refine hN _ _ ?_; clear hN N
  refine aW_reg fun N hN => ?_
  simp (config := {maxSteps := 10000000}) only [go_sem, Nat.reduceAdd, Nat.reduceSub, Nat.reduceMul, Nat.reduceLT, Nat.reduceLeDiff, Nat.lt_irrefl, Nat.le_refl, List.getElem?_toArray, bne_self_eq_false, Int.le_refl, Int.reduceLE, Int.reduceLT, Int.toNat_zero, Nat.zero_mul, List.all_cons, List.all_nil, Bool.and_self, Bool.and_true, Bool.true_and, Nat.reduceEqDiff, Nat.one_ne_zero, true_and, and_true, and_self, List.drop_succ_cons, List.drop_nil, List.take_succ_cons, List.take_nil]
  refine hN _ _ ?_; clear hN N
  refine aW_ret (Body.keep [0] (.bool (decide (p.page = k) && decide (p.host = hs))) [some (.row [.int .i64 k, .str hs] 26 true)] rfl ?_ ⟨rfl, trivial⟩ (by decide) (by decide) ⟨rfl, rfl⟩)
  simp [go_sem]
  congr 1
  by_cases q : p.host = hs <;> simp [q]

theorem idx_none {q : Pn → Bool} {l : List Pn} (h : ∀ i (hi : i < l.length), q l[i] = false) : idx q l = -1 := by
  unfold idx
  rw [List.findIdx?_eq_none_iff.2]
  intro x hx
  obtain ⟨i, hi, rfl⟩ := List.getElem_of_mem hx
  exact h i hi
theorem idx_some {q : Pn → Bool} {l : List Pn} {i : Nat} (hi : i < l.length) (ht : q l[i] = true) (h : ∀ j (hj : j < i), q (l[j]'(by omega)) = false) : idx q l = i := by
  unfold idx
  rw [(List.findIdx?_eq_some_iff_getElem (xs := l) (p := q) (i := i)).2 ⟨hi, ht, fun j hj => by simp [h j hj]⟩]

theorem index_c (l : List Pn) (hl : l.length ≤ 9223372036854775806) (f : FuncId) (caps : List AV) (h0 : Heap) (q : Pn → Bool)
    (hq : ∀ p, ACalls Try.prog f ([.agg (pcell p)] ++ caps) h0 (fun r h => r = .ret (.bool (q p)) ∧ h = h0)) :
    ACalls Try.prog 32 [.isl (pcells l) l.length, .fn (.func f) caps] h0 (fun r h => r = .ret (.int .i64 (idx q l)) ∧ h = h0) := by
  refine acalls_body Try.func32 rfl (by decide +kernel) ?_
  simp only [List.length_nil, List.length_cons, List.length_append, Nat.zero_add, Try.ntmps32, List.replicate, List.cons_append, List.nil_append, List.append_assoc, Nat.reduceSub, Nat.reduceAdd]
  refine aW_reg fun N hN => ?_
  simp (config := {maxSteps := 10000000}) only [go_sem, Nat.reduceAdd, Nat.reduceSub, Nat.reduceMul, Nat.reduceLT, Nat.reduceLeDiff, Nat.lt_irrefl, Nat.le_refl, List.getElem?_toArray, bne_self_eq_false, Int.le_refl, Int.reduceLE, Int.reduceLT, Int.toNat_zero, Nat.zero_mul, List.all_cons, List.all_nil, Bool.and_self, Bool.and_true, Bool.true_and, Nat.reduceEqDiff, Nat.one_ne_zero, true_and, and_true, and_self, List.drop_succ_cons, List.drop_nil, List.take_succ_cons, List.take_nil]
  refine hN _ _ ?_; clear hN N
  refine aW_seq_k fun N hN => ?_
  refine aW_reg fun N hN => ?_
  simp (config := {maxSteps := 10000000}) only [go_sem, Nat.reduceAdd, Nat.reduceSub, Nat.reduceMul, Nat.reduceLT, Nat.reduceLeDiff, Nat.lt_irrefl, Nat.le_refl, List.getElem?_toArray, bne_self_eq_false, Int.le_refl, Int.reduceLE, Int.reduceLT, Int.toNat_zero, Nat.zero_mul, List.all_cons, List.all_nil, Bool.and_self, Bool.and_true, Bool.true_and, Nat.reduceEqDiff, Nat.one_ne_zero, true_and, and_true, and_self, List.drop_succ_cons, List.drop_nil, List.take_succ_cons, List.take_nil]
  refine hN _ _ ?_; clear hN N
  refine aW_forget ([.isl (pcells l) l.length, .fn (.func f) caps, .unk, .unk, .unk, .unk, .unk, .int .i64 l.length, .int .i64 ((0 : Nat) : Int), .unk, .unk, .unk, .unk, .unk, .unk, .unk, .unk, .unk, .unk]) (by simp [LeU]) fun _ => ?_
  refine aW_block (aW_loop (fun m T h => ∃ k : Nat, k ≤ l.length ∧ (∀ j (hj : j < k) (hl : j < l.length), q l[j] = false) ∧ m = l.length - k ∧ T = ([.isl (pcells l) l.length, .fn (.func f) caps, .unk, .unk, .unk, .unk, .unk, .int .i64 l.length, .int .i64 (k : Int), .unk, .unk, .unk, .unk, .unk, .unk, .unk, .unk, .unk, .unk]) ∧ h0 = h) l.length ⟨0, Nat.zero_le _, by omega, rfl, rfl, rfl⟩ ?_)
  rintro m T h hn ⟨k, hk, hno, rfl, rfl, rfl⟩
  by_cases hlt : k < l.length
  · have hd : decide ((k : Int) < (l.length : Int)) = true := by simpa using hlt
    have hidx : (0 ≤ (k : Int) ∧ (k : Int) < (l.length : Int)) = True := by simp; omega
    refine aW_reg fun N hN => ?_
    simp (config := {maxSteps := 10000000}) only [go_sem, Nat.reduceAdd, Nat.reduceSub, Nat.reduceMul, Nat.reduceLT, Nat.reduceLeDiff, Nat.lt_irrefl, Nat.le_refl, List.getElem?_toArray, bne_self_eq_false, Int.le_refl, Int.reduceLE, Int.reduceLT, Int.toNat_zero, Nat.zero_mul, List.all_cons, List.all_nil, Bool.and_self, Bool.and_true, Bool.true_and, Nat.reduceEqDiff, Nat.one_ne_zero, true_and, and_true, and_self, List.drop_succ_cons, List.drop_nil, List.take_succ_cons, List.take_nil, hd]
    refine hN _ _ ?_; clear hN N
    refine aW_seq_k fun N hN => ?_
    refine aW_cond (b := true) rfl (fun _ => aW_skip ?_) (fun h => by cases h)
    refine hN _ _ ?_; clear hN N
    refine aW_seq_k fun N hN => ?_
    refine aW_block ?_
    refine aW_reg fun N hN => ?_
    simp (config := {maxSteps := 10000000}) only [go_sem, Nat.reduceAdd, Nat.reduceSub, Nat.reduceMul, Nat.reduceLT, Nat.reduceLeDiff, Nat.lt_irrefl, Nat.le_refl, List.getElem?_toArray, bne_self_eq_false, Int.le_refl, Int.reduceLE, Int.reduceLT, Int.toNat_zero, Nat.zero_mul, List.all_cons, List.all_nil, Bool.and_self, Bool.and_true, Bool.true_and, Nat.reduceEqDiff, Nat.one_ne_zero, true_and, and_true, and_self, List.drop_succ_cons, List.drop_nil, List.take_succ_cons, List.take_nil]
    refine hN _ _ ?_; clear hN N
    (first | refine aW_reg fun N hN => ?_ | refine aW_reg1 fun N hN => ?_)
    simp (config := {maxSteps := 10000000}) only [go_sem, Nat.reduceAdd, Nat.reduceSub, Nat.reduceMul, Nat.reduceLT, Nat.reduceLeDiff, Nat.lt_irrefl, Nat.le_refl, List.getElem?_toArray, bne_self_eq_false, Int.le_refl, Int.reduceLE, Int.reduceLT, Int.toNat_zero, Nat.zero_mul, List.all_cons, List.all_nil, Bool.and_self, Bool.and_true, Bool.true_and, Nat.reduceEqDiff, Nat.one_ne_zero, true_and, and_true, and_self, List.drop_succ_cons, List.drop_nil, List.take_succ_cons, List.take_nil, hidx, Int.toNat_natCast, pcells_at l k hlt, pcell_len, pcell_take]
    refine (hq l[k]).mono ?_
    rintro r h' ⟨rfl, rfl⟩
    simp only [go_sem]
    refine hN _ _ ?_; clear hN N
    cases hb : q l[k] with
    | true =>
      refine aW_cond (b := true) (by simp only [go_sem]) (fun _ => ?_) (fun h => by cases h)
      refine aW_seq_k fun N hN => ?_
      refine aW_reg1 fun N hN => ?_
      simp (config := {maxSteps := 10000000}) only [go_sem, Nat.reduceAdd, Nat.reduceSub, Nat.reduceMul, Nat.reduceLT, Nat.reduceLeDiff, Nat.lt_irrefl, Nat.le_refl, List.getElem?_toArray, bne_self_eq_false, Int.le_refl, Int.reduceLE, Int.reduceLT, Int.toNat_zero, Nat.zero_mul, List.all_cons, List.all_nil, Bool.and_self, Bool.and_true, Bool.true_and, Nat.reduceEqDiff, Nat.one_ne_zero, true_and, and_true, and_self, List.drop_succ_cons, List.drop_nil, List.take_succ_cons, List.take_nil]
      refine hN _ _ ?_; clear hN N
      refine hN _ _ ?_; clear hN N
      refine aW_ret ?_
      simp only [go_sem]
      refine Body.done (R := .int .i64 (idx q l)) ?_ (Nat.le_refl _) ⟨rfl, rfl⟩
      rw [idx_some hlt hb fun j hj => hno j hj (by omega)]
      rfl
    | false =>
      refine aW_cond (b := false) (by simp only [go_sem]) (fun h => by cases h) (fun _ => aW_skip ?_)
      refine hN _ _ ?_; clear hN N
      have hw1 : IntKind.i64.wrap ((k : Int) + 1) = ((k + 1 : Nat) : Int) := by rw [IntWalk.i64_in _ (by omega)]; simp
      refine aW_reg1 fun N hN => ?_
      simp (config := {maxSteps := 10000000}) only [go_sem, Nat.reduceAdd, Nat.reduceSub, Nat.reduceMul, Nat.reduceLT, Nat.reduceLeDiff, Nat.lt_irrefl, Nat.le_refl, List.getElem?_toArray, bne_self_eq_false, Int.le_refl, Int.reduceLE, Int.reduceLT, Int.toNat_zero, Nat.zero_mul, List.all_cons, List.all_nil, Bool.and_self, Bool.and_true, Bool.true_and, Nat.reduceEqDiff, Nat.one_ne_zero, true_and, and_true, and_self, List.drop_succ_cons, List.drop_nil, List.take_succ_cons, List.take_nil, hw1]
      refine hN _ _ ?_; clear hN N
      exact ⟨l.length - (k + 1), _, _, _, by omega, Weak.forget (T0 := [.isl (pcells l) l.length, .fn (.func f) caps, .unk, .unk, .unk, .unk, .unk, .int .i64 l.length, .int .i64 ((k + 1 : Nat) : Int), .unk, .unk, .unk, .unk, .unk, .unk, .unk, .unk, .unk, .unk]) (by simp [LeU]) (Nat.le_refl _), k + 1, hlt, fun j hj hl => by
        rcases Nat.lt_or_ge j k with c | c
        · exact hno j c hl
        · obtain rfl : j = k := by omega
          exact hb, rfl, rfl, rfl⟩
  · have hd : decide ((k : Int) < (l.length : Int)) = false := by simp; omega
    obtain rfl : k = l.length := by omega
    refine aW_reg fun N hN => ?_
    simp (config := {maxSteps := 10000000}) only [go_sem, Nat.reduceAdd, Nat.reduceSub, Nat.reduceMul, Nat.reduceLT, Nat.reduceLeDiff, Nat.lt_irrefl, Nat.le_refl, List.getElem?_toArray, bne_self_eq_false, Int.le_refl, Int.reduceLE, Int.reduceLT, Int.toNat_zero, Nat.zero_mul, List.all_cons, List.all_nil, Bool.and_self, Bool.and_true, Bool.true_and, Nat.reduceEqDiff, Nat.one_ne_zero, true_and, and_true, and_self, List.drop_succ_cons, List.drop_nil, List.take_succ_cons, List.take_nil, hd]
    refine hN _ _ ?_; clear hN N
    refine aW_seq_k fun N hN => ?_
    refine aW_cond (b := false) rfl (fun h => by cases h) (fun _ => aW_exit ?_)
    simp only [go_sem]
    clear hN N
    refine hN _ _ ?_; clear hN N
    refine aW_reg fun N hN => ?_
    simp (config := {maxSteps := 10000000}) only [go_sem, Nat.reduceAdd, Nat.reduceSub, Nat.reduceMul, Nat.reduceLT, Nat.reduceLeDiff, Nat.lt_irrefl, Nat.le_refl, List.getElem?_toArray, bne_self_eq_false, Int.le_refl, Int.reduceLE, Int.reduceLT, Int.toNat_zero, Nat.zero_mul, List.all_cons, List.all_nil, Bool.and_self, Bool.and_true, Bool.true_and, Nat.reduceEqDiff, Nat.one_ne_zero, true_and, and_true, and_self, List.drop_succ_cons, List.drop_nil, List.take_succ_cons, List.take_nil]
    refine hN _ _ ?_; clear hN N
    refine aW_ret (Body.done rfl (Nat.le_refl _) ⟨?_, rfl⟩)
    rw [idx_none fun j hj => hno j hj hj]
    rfl

/-- A board's slice of pins, and its row. -/
def bS (g : Bool) (n : Nat) : AV := if g then .gsl 1 n 3 else .nilsl
def bR (g : Bool) (l : List Pn) (junk : List AV) : Option Blk := if g then some (.row (pcells l ++ junk) 65 false) else none
def BH (room : Int) (g : Bool) (l : List Pn) (junk : List AV) : Heap := [some (.row [.int .i64 room, bS g l.length] 62 true), bR g l junk]

def keyIs (k : Int) (hs : List UInt8) (p : Pn) : Bool := decide (p.page = k) && decide (p.host = hs)

theorem index_find (l : List Pn) (hl : l.length ≤ 9223372036854775806) (k : Int) (hs : List UInt8) :
    ACalls Try.prog 32 [.isl (pcells l) l.length, .fn (.func 33) [.ptr 0 0]] [some (.row [.int .i64 k, .str hs] 26 true)]
      (fun r h => r = .ret (.int .i64 (idx (keyIs k hs) l)) ∧ h = [some (.row [.int .i64 k, .str hs] 26 true)]) :=
  index_c l hl 33 [.ptr 0 0] _ (keyIs k hs) fun p => find1_c p k hs

theorem bR_row (room : Int) (l : List Pn) (junk : List AV) (rest : Heap) :
    Go.AH.rowAt (some (.row [.int .i64 room, .gsl 1 l.length 3] 62 true) :: some (.row (pcells l ++ junk) 65 false) :: rest) 1 = some (pcells l ++ junk, 65, false) := rfl
theorem renL_pcells (m : Nat → Nat) : ∀ (l : List Pn), renL m (pcells l) = pcells l
  | [] => rfl
  | x :: l => by
    have := renL_pcells m l
    simp only [pcells, List.flatMap_cons, pcell, List.cons_append, List.nil_append, renL, ren] at this ⊢
    rw [this]
theorem lent_pcells (m : Nat → Nat) (l : List Pn) (junk : List AV) : renL m (pcells l) = (pcells l ++ junk).take (pcells l).length := by
  rw [renL_pcells, List.take_left']
  rfl

/-- Cells without ids. -/
def NoId (l : List AV) : Prop := ∀ m, renL m l = l
theorem renL_app (m : Nat → Nat) : ∀ (l l' : List AV), renL m (l ++ l') = renL m l ++ renL m l'
  | [], _ => rfl
  | x :: l, l' => by simp only [List.cons_append, renL, renL_app m l l']
theorem keepRow (m : Nat → Nat) (l : List Pn) {junk : List AV} (hj : NoId junk) : renB m (.row (pcells l ++ junk) 65 false) = .row (pcells l ++ junk) 65 false := by
  simp only [renB, renL_app, renL_pcells, hj m]

theorem find_c (room : Int) (g : Bool) (l : List Pn) (junk : List AV) (hg : g = false → l = []) (hj : NoId junk) (hl : l.length ≤ 1000) (k : Int) (host : List UInt8) (hh : host.length ≤ 1000) :
    ACalls Try.prog 24 [.ptr 0 0, .int .i64 k, .str host] (BH room g l junk) (fun r h => r = .ret (.int .i64 (idx (keyIs k (lower host)) l)) ∧ h = BH room g l junk) := by
  cases g with
  | false =>
    obtain rfl := hg rfl
    simp only [BH, bS, bR, if_true, if_false, Bool.false_eq_true, List.length_nil]
    refine acalls_body Try.func24 rfl (by decide +kernel) ?_
    simp only [List.length_nil, List.length_cons, List.length_append, Nat.zero_add, Try.ntmps24, List.replicate, List.cons_append, List.nil_append, List.append_assoc, Nat.reduceSub, Nat.reduceAdd]
    refine aW_reg fun N hN => ?_
    simp (config := {maxSteps := 10000000}) only [go_sem, Nat.reduceAdd, Nat.reduceSub, Nat.reduceMul, Nat.reduceLT, Nat.reduceLeDiff, Nat.lt_irrefl, Nat.le_refl, List.getElem?_toArray, bne_self_eq_false, Int.le_refl, Int.reduceLE, Int.reduceLT, Int.toNat_zero, Nat.zero_mul, List.all_cons, List.all_nil, Bool.and_self, Bool.and_true, Bool.true_and, Nat.reduceEqDiff, Nat.one_ne_zero, true_and, and_true, and_self, List.drop_succ_cons, List.drop_nil, List.take_succ_cons, List.take_nil]
    refine hN _ _ ?_; clear hN N
    (first | refine aW_reg fun N hN => ?_ | refine aW_reg1 fun N hN => ?_)
    simp (config := {maxSteps := 10000000}) only [go_sem, Nat.reduceAdd, Nat.reduceSub, Nat.reduceMul, Nat.reduceLT, Nat.reduceLeDiff, Nat.lt_irrefl, Nat.le_refl, List.getElem?_toArray, bne_self_eq_false, Int.le_refl, Int.reduceLE, Int.reduceLT, Int.toNat_zero, Nat.zero_mul, List.all_cons, List.all_nil, Bool.and_self, Bool.and_true, Bool.true_and, Nat.reduceEqDiff, Nat.one_ne_zero, true_and, and_true, and_self, List.drop_succ_cons, List.drop_nil, List.take_succ_cons, List.take_nil]
    refine (lower_c host (by omega)).plain rfl rfl ?_
    simp only [go_sem]
    refine hN _ _ ?_; clear hN N
    (first | refine aW_reg fun N hN => ?_ | refine aW_reg1 fun N hN => ?_)
    simp (config := {maxSteps := 10000000}) only [go_sem, Nat.reduceAdd, Nat.reduceSub, Nat.reduceMul, Nat.reduceLT, Nat.reduceLeDiff, Nat.lt_irrefl, Nat.le_refl, List.getElem?_toArray, bne_self_eq_false, Int.le_refl, Int.reduceLE, Int.reduceLT, Int.toNat_zero, Nat.zero_mul, List.all_cons, List.all_nil, Bool.and_self, Bool.and_true, Bool.true_and, Nat.reduceEqDiff, Nat.one_ne_zero, true_and, and_true, and_self, List.drop_succ_cons, List.drop_nil, List.take_succ_cons, List.take_nil]
    refine (index_find [] (by simp) k (lower host)).frame [2] [] rfl (by decide) (by simp) (by simp) ⟨.inr rfl, .inl rfl, trivial⟩ (by rintro (_ | _ | _ | k) i b0 h1 h2 <;> simp at h1 h2 <;> subst h1 h2 <;> first | rfl) ?_
    rintro r0 h0' _ ⟨rfl, rfl⟩
    refine ⟨by first | exact .inl rfl | exact .inr ⟨rfl, rfl⟩, ?_⟩
    simp (config := {maxSteps := 10000000}) only [go_sem, Bool.false_or, Bool.true_or, Bool.or_true, Bool.or_false, Nat.reduceAdd, Nat.reduceSub, Nat.reduceMul, Nat.reduceLT, Nat.reduceLeDiff, Nat.lt_irrefl, Nat.le_refl, List.getElem?_toArray, bne_self_eq_false, Int.le_refl, Int.reduceLE, Int.reduceLT, Int.toNat_zero, Nat.zero_mul, List.all_cons, List.all_nil, Bool.and_self, Bool.and_true, Bool.true_and, Nat.reduceEqDiff, Nat.one_ne_zero, true_and, and_true, and_self, List.drop_succ_cons, List.drop_nil, List.take_succ_cons, List.take_nil, merge, upd, mf, renB]
    refine hN _ _ ?_; clear hN N
    exact aW_ret (Body.keep [0, 1] (.int .i64 (idx (keyIs k (lower host)) [])) [some (.row [.int .i64 room, .nilsl] 62 true), none] rfl rfl ⟨rfl, by simp, trivial⟩ (by decide) (by decide) ⟨rfl, rfl⟩)
  | true =>
    simp only [BH, bS, bR, if_true, if_false, Bool.false_eq_true]
    refine acalls_body Try.func24 rfl (by decide +kernel) ?_
    simp only [List.length_nil, List.length_cons, List.length_append, Nat.zero_add, Try.ntmps24, List.replicate, List.cons_append, List.nil_append, List.append_assoc, Nat.reduceSub, Nat.reduceAdd]
    refine aW_reg fun N hN => ?_
    simp (config := {maxSteps := 10000000}) only [go_sem, Nat.reduceAdd, Nat.reduceSub, Nat.reduceMul, Nat.reduceLT, Nat.reduceLeDiff, Nat.lt_irrefl, Nat.le_refl, List.getElem?_toArray, bne_self_eq_false, Int.le_refl, Int.reduceLE, Int.reduceLT, Int.toNat_zero, Nat.zero_mul, List.all_cons, List.all_nil, Bool.and_self, Bool.and_true, Bool.true_and, Nat.reduceEqDiff, Nat.one_ne_zero, true_and, and_true, and_self, List.drop_succ_cons, List.drop_nil, List.take_succ_cons, List.take_nil]
    refine hN _ _ ?_; clear hN N
    (first | refine aW_reg fun N hN => ?_ | refine aW_reg1 fun N hN => ?_)
    simp (config := {maxSteps := 10000000}) only [go_sem, Nat.reduceAdd, Nat.reduceSub, Nat.reduceMul, Nat.reduceLT, Nat.reduceLeDiff, Nat.lt_irrefl, Nat.le_refl, List.getElem?_toArray, bne_self_eq_false, Int.le_refl, Int.reduceLE, Int.reduceLT, Int.toNat_zero, Nat.zero_mul, List.all_cons, List.all_nil, Bool.and_self, Bool.and_true, Bool.true_and, Nat.reduceEqDiff, Nat.one_ne_zero, true_and, and_true, and_self, List.drop_succ_cons, List.drop_nil, List.take_succ_cons, List.take_nil]
    refine (lower_c host (by omega)).plain rfl rfl ?_
    simp only [go_sem]
    refine hN _ _ ?_; clear hN N
    (first | refine aW_reg fun N hN => ?_ | refine aW_reg1 fun N hN => ?_)
    simp (config := {maxSteps := 10000000}) only [go_sem, Nat.reduceAdd, Nat.reduceSub, Nat.reduceMul, Nat.reduceLT, Nat.reduceLeDiff, Nat.lt_irrefl, Nat.le_refl, List.getElem?_toArray, bne_self_eq_false, Int.le_refl, Int.reduceLE, Int.reduceLT, Int.toNat_zero, Nat.zero_mul, List.all_cons, List.all_nil, Bool.and_self, Bool.and_true, Bool.true_and, Nat.reduceEqDiff, Nat.one_ne_zero, true_and, and_true, and_self, List.drop_succ_cons, List.drop_nil, List.take_succ_cons, List.take_nil]
    refine (index_find l (by omega) k (lower host)).frame [2] [1] rfl (by decide) (by simp) (by simp) ⟨.inr ⟨by simp, rfl, _, _, _, bR_row room l junk _, lent_pcells _ l junk⟩, .inl rfl, trivial⟩ (by rintro (_ | _ | _ | k) i b0 h1 h2 <;> simp at h1 h2 <;> subst h1 h2 <;> first | rfl) ?_
    rintro r0 h0' _ ⟨rfl, rfl⟩
    refine ⟨by first | exact .inl rfl | exact .inr ⟨rfl, rfl⟩, ?_⟩
    simp (config := {maxSteps := 10000000}) only [go_sem, Bool.false_or, Bool.true_or, Bool.or_true, Bool.or_false, Nat.reduceAdd, Nat.reduceSub, Nat.reduceMul, Nat.reduceLT, Nat.reduceLeDiff, Nat.lt_irrefl, Nat.le_refl, List.getElem?_toArray, bne_self_eq_false, Int.le_refl, Int.reduceLE, Int.reduceLT, Int.toNat_zero, Nat.zero_mul, List.all_cons, List.all_nil, Bool.and_self, Bool.and_true, Bool.true_and, Nat.reduceEqDiff, Nat.one_ne_zero, true_and, and_true, and_self, List.drop_succ_cons, List.drop_nil, List.take_succ_cons, List.take_nil, merge, upd, mf, renB]
    refine hN _ _ ?_; clear hN N
    refine aW_ret (Body.keep [0, 1] (.int .i64 (idx (keyIs k (lower host)) l)) [some (.row [.int .i64 room, .gsl 1 l.length 3] 62 true), some (.row (pcells l ++ junk) 65 false)] rfl rfl ⟨rfl, ?_, trivial⟩ (by decide) (by decide) ⟨rfl, rfl⟩)
    rw [keepRow _ l hj]
    rfl

theorem len_c (room : Int) (g : Bool) (l : List Pn) (junk : List AV) (hg : g = false → l = []) :
    ACalls Try.prog 11 [.ptr 0 0] (BH room g l junk) (fun r h => r = .ret (.int .i64 l.length) ∧ h = BH room g l junk) := by
  cases g
  all_goals
    first | (obtain rfl := hg rfl) | skip
    simp only [BH, bS, bR, if_true, if_false, Bool.false_eq_true, List.length_nil]
    refine acalls_body Try.func11 rfl (by decide +kernel) ?_
    simp only [List.length_nil, List.length_cons, List.length_append, Nat.zero_add, Try.ntmps11, List.replicate, List.cons_append, List.nil_append, List.append_assoc, Nat.reduceSub, Nat.reduceAdd]
    refine aW_reg fun N hN => ?_
    simp (config := {maxSteps := 10000000}) only [go_sem, Nat.reduceAdd, Nat.reduceSub, Nat.reduceMul, Nat.reduceLT, Nat.reduceLeDiff, Nat.lt_irrefl, Nat.le_refl, List.getElem?_toArray, bne_self_eq_false, Int.le_refl, Int.reduceLE, Int.reduceLT, Int.toNat_zero, Nat.zero_mul, List.all_cons, List.all_nil, Bool.and_self, Bool.and_true, Bool.true_and, Nat.reduceEqDiff, Nat.one_ne_zero, true_and, and_true, and_self, List.drop_succ_cons, List.drop_nil, List.take_succ_cons, List.take_nil]
    refine hN _ _ ?_; clear hN N
    refine aW_reg fun N hN => ?_
    simp (config := {maxSteps := 10000000}) only [go_sem, Nat.reduceAdd, Nat.reduceSub, Nat.reduceMul, Nat.reduceLT, Nat.reduceLeDiff, Nat.lt_irrefl, Nat.le_refl, List.getElem?_toArray, bne_self_eq_false, Int.le_refl, Int.reduceLE, Int.reduceLT, Int.toNat_zero, Nat.zero_mul, List.all_cons, List.all_nil, Bool.and_self, Bool.and_true, Bool.true_and, Nat.reduceEqDiff, Nat.one_ne_zero, true_and, and_true, and_self, List.drop_succ_cons, List.drop_nil, List.take_succ_cons, List.take_nil]
    refine hN _ _ ?_; clear hN N
    exact aW_ret (Body.done rfl (Nat.le_refl _) ⟨rfl, rfl⟩)

theorem new_c (n : Int) : ACalls Try.prog 8 [.int .i64 n] [] (fun r h => r = .ret (.ptr 0 0) ∧ h = [some (.row [.int .i64 (min (max n 1) 64), .nilsl] 62 true)]) := by
  have e : (if 64 < (if 1 > n then 1 else n) then 64 else (if 1 > n then 1 else n)) = min (max n 1) 64 := by
    simp only [Int.min_def, Int.max_def]
    repeat' split
    all_goals omega
  refine acalls_body Try.func8 rfl (by decide +kernel) ?_
  simp only [List.length_nil, List.length_cons, List.length_append, Nat.zero_add, Try.ntmps8, List.replicate, List.cons_append, List.nil_append, List.append_assoc, Nat.reduceSub, Nat.reduceAdd]
  refine aW_reg fun N hN => ?_
  simp (config := {maxSteps := 10000000}) only [go_sem, Nat.reduceAdd, Nat.reduceSub, Nat.reduceMul, Nat.reduceLT, Nat.reduceLeDiff, Nat.lt_irrefl, Nat.le_refl, List.getElem?_toArray, bne_self_eq_false, Int.le_refl, Int.reduceLE, Int.reduceLT, Int.toNat_zero, Nat.zero_mul, List.all_cons, List.all_nil, Bool.and_self, Bool.and_true, Bool.true_and, Nat.reduceEqDiff, Nat.one_ne_zero, true_and, and_true, and_self, List.drop_succ_cons, List.drop_nil, List.take_succ_cons, List.take_nil]
  refine hN _ _ ?_; clear hN N
  refine aW_reg fun N hN => ?_
  simp (config := {maxSteps := 10000000}) only [go_sem, Nat.reduceAdd, Nat.reduceSub, Nat.reduceMul, Nat.reduceLT, Nat.reduceLeDiff, Nat.lt_irrefl, Nat.le_refl, List.getElem?_toArray, bne_self_eq_false, Int.le_refl, Int.reduceLE, Int.reduceLT, Int.toNat_zero, Nat.zero_mul, List.all_cons, List.all_nil, Bool.and_self, Bool.and_true, Bool.true_and, Nat.reduceEqDiff, Nat.one_ne_zero, true_and, and_true, and_self, List.drop_succ_cons, List.drop_nil, List.take_succ_cons, List.take_nil, e]
  refine hN _ _ ?_; clear hN N
  exact aW_ret (Body.done rfl (Nat.zero_le _) ⟨rfl, rfl⟩)

def arnd (n k : Int) : Int := (if n < 0 then -(n + 1) else n).tmod k
theorem around_c (n k : Int) (h0 : 0 < k) (h1 : k < 100000) (hn : -9223372036854775808 ≤ n) (hn2 : n ≤ 9223372036854775807) : ACalls Try.prog 9 [.int .i64 n, .int .i64 k] [] (fun r h => r = .ret (.int .i64 (arnd n k)) ∧ h = []) := by
  have hk0 : (k = 0) = False := by simp; omega
  refine acalls_body Try.func9 rfl (by decide +kernel) ?_
  simp only [List.length_nil, List.length_cons, List.length_append, Nat.zero_add, Try.ntmps9, List.replicate, List.cons_append, List.nil_append, List.append_assoc, Nat.reduceSub, Nat.reduceAdd]
  refine aW_reg fun N hN => ?_
  simp (config := {maxSteps := 10000000}) only [go_sem, Nat.reduceAdd, Nat.reduceSub, Nat.reduceMul, Nat.reduceLT, Nat.reduceLeDiff, Nat.lt_irrefl, Nat.le_refl, List.getElem?_toArray, bne_self_eq_false, Int.le_refl, Int.reduceLE, Int.reduceLT, Int.toNat_zero, Nat.zero_mul, List.all_cons, List.all_nil, Bool.and_self, Bool.and_true, Bool.true_and, Nat.reduceEqDiff, Nat.one_ne_zero, true_and, and_true, and_self, List.drop_succ_cons, List.drop_nil, List.take_succ_cons, List.take_nil]
  refine hN _ _ ?_; clear hN N
  refine aW_seq_k fun N hN => ?_
  refine aW_reg fun N hN => ?_
  simp (config := {maxSteps := 10000000}) only [go_sem, Nat.reduceAdd, Nat.reduceSub, Nat.reduceMul, Nat.reduceLT, Nat.reduceLeDiff, Nat.lt_irrefl, Nat.le_refl, List.getElem?_toArray, bne_self_eq_false, Int.le_refl, Int.reduceLE, Int.reduceLT, Int.toNat_zero, Nat.zero_mul, List.all_cons, List.all_nil, Bool.and_self, Bool.and_true, Bool.true_and, Nat.reduceEqDiff, Nat.one_ne_zero, true_and, and_true, and_self, List.drop_succ_cons, List.drop_nil, List.take_succ_cons, List.take_nil]
  refine hN _ _ ?_; clear hN N
  by_cases h : n < 0
  · have hw1 : IntKind.i64.wrap (n + 1) = n + 1 := IntWalk.i64_in _ (by omega)
    have hw2 : IntKind.i64.wrap (0 - (n + 1)) = -(n + 1) := by
      rw [IntWalk.i64_in _ (by omega)]; omega
    have hw2' : IntKind.i64.wrap (-(n + 1)) = -(n + 1) := IntWalk.i64_in _ (by omega)
    refine aW_cond (b := true) (by simp only [go_sem, h]) (fun _ => ?_) (fun h => by cases h)
    refine aW_reg1 fun N hN => ?_
    simp (config := {maxSteps := 10000000}) only [go_sem, Nat.reduceAdd, Nat.reduceSub, Nat.reduceMul, Nat.reduceLT, Nat.reduceLeDiff, Nat.lt_irrefl, Nat.le_refl, List.getElem?_toArray, bne_self_eq_false, Int.le_refl, Int.reduceLE, Int.reduceLT, Int.toNat_zero, Nat.zero_mul, List.all_cons, List.all_nil, Bool.and_self, Bool.and_true, Bool.true_and, Nat.reduceEqDiff, Nat.one_ne_zero, true_and, and_true, and_self, List.drop_succ_cons, List.drop_nil, List.take_succ_cons, List.take_nil, hw1, hw2]
    refine hN _ _ ?_; clear hN N
    refine hN _ _ ?_; clear hN N
    have hb := Int.tmod_lt_of_pos (-(n + 1)) h0
    have hb0 := Int.tmod_nonneg k (show 0 ≤ -(n + 1) by omega)
    have hw3 : IntKind.i64.wrap ((-(n + 1)).tmod k) = (-(n + 1)).tmod k := IntWalk.i64_in _ (by omega)
    refine aW_reg fun N hN => ?_
    simp (config := {maxSteps := 10000000}) only [go_sem, Nat.reduceAdd, Nat.reduceSub, Nat.reduceMul, Nat.reduceLT, Nat.reduceLeDiff, Nat.lt_irrefl, Nat.le_refl, List.getElem?_toArray, bne_self_eq_false, Int.le_refl, Int.reduceLE, Int.reduceLT, Int.toNat_zero, Nat.zero_mul, List.all_cons, List.all_nil, Bool.and_self, Bool.and_true, Bool.true_and, Nat.reduceEqDiff, Nat.one_ne_zero, true_and, and_true, and_self, List.drop_succ_cons, List.drop_nil, List.take_succ_cons, List.take_nil, hw3, hk0]
    refine hN _ _ ?_; clear hN N
    refine aW_ret (Body.done rfl (Nat.le_refl _) ⟨?_, rfl⟩)
    simp only [arnd, h, hw1, hw2, if_true, go_sem]
  · refine aW_cond (b := false) (by simp only [go_sem, h]) (fun h => by cases h) (fun _ => aW_skip ?_)
    refine hN _ _ ?_; clear hN N
    have hb := Int.tmod_lt_of_pos n h0
    have hb0 := Int.tmod_nonneg k (show 0 ≤ n by omega)
    have hw3 : IntKind.i64.wrap (n.tmod k) = n.tmod k := IntWalk.i64_in _ (by omega)
    refine aW_reg fun N hN => ?_
    simp (config := {maxSteps := 10000000}) only [go_sem, Nat.reduceAdd, Nat.reduceSub, Nat.reduceMul, Nat.reduceLT, Nat.reduceLeDiff, Nat.lt_irrefl, Nat.le_refl, List.getElem?_toArray, bne_self_eq_false, Int.le_refl, Int.reduceLE, Int.reduceLT, Int.toNat_zero, Nat.zero_mul, List.all_cons, List.all_nil, Bool.and_self, Bool.and_true, Bool.true_and, Nat.reduceEqDiff, Nat.one_ne_zero, true_and, and_true, and_self, List.drop_succ_cons, List.drop_nil, List.take_succ_cons, List.take_nil, hw3, hk0]
    refine hN _ _ ?_; clear hN N
    refine aW_ret (Body.done rfl (Nat.le_refl _) ⟨?_, rfl⟩)
    simp [arnd, h]
theorem arnd_nonneg (n k : Int) (h0 : 0 < k) : 0 ≤ arnd n k := Int.tmod_nonneg k (by split <;> omega)
theorem arnd_lt (n k : Int) (h0 : 0 < k) : arnd n k < k := Int.tmod_lt_of_pos _ h0

/-- Get's answer. -/
def pGet (l : List Pn) (k : Int) (host : List UInt8) : Int × Bool := match l.findIdx? (keyIs k (lower host)) with
  | some i => ((l.getD i ⟨0, [], 0⟩).s, true)
  | none => (0, false)

theorem get_c (room : Int) (g : Bool) (l : List Pn) (junk : List AV) (hg : g = false → l = []) (hj : NoId junk) (hl : l.length ≤ 1000) (k : Int) (host : List UInt8) (hh : host.length ≤ 1000) :
    ACalls Try.prog 12 [.ptr 0 0, .int .i64 k, .str host] (BH room g l junk) (fun r h => r = .ret (.tup [.int .i64 (pGet l k host).1, .bool (pGet l k host).2]) ∧ h = BH room g l junk) := by
  have hf := find_c room g l junk hg hj hl k host hh
  have hB : ∃ x y, BH room g l junk = [x, y] := ⟨_, _, rfl⟩
  refine acalls_body Try.func12 rfl (by decide +kernel) ?_
  simp only [List.length_nil, List.length_cons, List.length_append, Nat.zero_add, Try.ntmps12, List.replicate, List.cons_append, List.nil_append, List.append_assoc, Nat.reduceSub, Nat.reduceAdd]
  refine aW_reg fun N hN => ?_
  simp (config := {maxSteps := 10000000}) only [go_sem, Nat.reduceAdd, Nat.reduceSub, Nat.reduceMul, Nat.reduceLT, Nat.reduceLeDiff, Nat.lt_irrefl, Nat.le_refl, List.getElem?_toArray, bne_self_eq_false, Int.le_refl, Int.reduceLE, Int.reduceLT, Int.toNat_zero, Nat.zero_mul, List.all_cons, List.all_nil, Bool.and_self, Bool.and_true, Bool.true_and, Nat.reduceEqDiff, Nat.one_ne_zero, true_and, and_true, and_self, List.drop_succ_cons, List.drop_nil, List.take_succ_cons, List.take_nil]
  refine hN _ _ ?_; clear hN N
  (first | refine aW_reg fun N hN => ?_ | refine aW_reg1 fun N hN => ?_)
  simp (config := {maxSteps := 10000000}) only [go_sem, Nat.reduceAdd, Nat.reduceSub, Nat.reduceMul, Nat.reduceLT, Nat.reduceLeDiff, Nat.lt_irrefl, Nat.le_refl, List.getElem?_toArray, bne_self_eq_false, Int.le_refl, Int.reduceLE, Int.reduceLT, Int.toNat_zero, Nat.zero_mul, List.all_cons, List.all_nil, Bool.and_self, Bool.and_true, Bool.true_and, Nat.reduceEqDiff, Nat.one_ne_zero, true_and, and_true, and_self, List.drop_succ_cons, List.drop_nil, List.take_succ_cons, List.take_nil]
  refine hf.mono ?_
  rintro r h' ⟨rfl, rfl⟩
  simp (config := {maxSteps := 10000000}) only [go_sem, Nat.reduceAdd, Nat.reduceSub, Nat.reduceMul, Nat.reduceLT, Nat.reduceLeDiff, Nat.lt_irrefl, Nat.le_refl, List.getElem?_toArray, bne_self_eq_false, Int.le_refl, Int.reduceLE, Int.reduceLT, Int.toNat_zero, Nat.zero_mul, List.all_cons, List.all_nil, Bool.and_self, Bool.and_true, Bool.true_and, Nat.reduceEqDiff, Nat.one_ne_zero, true_and, and_true, and_self, List.drop_succ_cons, List.drop_nil, List.take_succ_cons, List.take_nil]
  refine hN _ _ ?_; clear hN N
  cases hi : l.findIdx? (keyIs k (lower host)) with
  | none =>
    have hx : idx (keyIs k (lower host)) l = -1 := by simp [idx, hi]
    have hp : pGet l k host = (0, false) := by simp [pGet, hi]
    rw [hx, hp]
    refine aW_seq_k fun N hN => ?_
    refine aW_reg fun N hN => ?_
    simp (config := {maxSteps := 10000000}) only [go_sem, Nat.reduceAdd, Nat.reduceSub, Nat.reduceMul, Nat.reduceLT, Nat.reduceLeDiff, Nat.lt_irrefl, Nat.le_refl, List.getElem?_toArray, bne_self_eq_false, Int.le_refl, Int.reduceLE, Int.reduceLT, Int.toNat_zero, Nat.zero_mul, List.all_cons, List.all_nil, Bool.and_self, Bool.and_true, Bool.true_and, Nat.reduceEqDiff, Nat.one_ne_zero, true_and, and_true, and_self, List.drop_succ_cons, List.drop_nil, List.take_succ_cons, List.take_nil]
    refine hN _ _ ?_; clear hN N
    refine aW_cond (b := true) (by simp only [go_sem] <;> rfl) (fun _ => ?_) (fun h => by cases h)
    refine aW_reg fun N hN => ?_
    simp (config := {maxSteps := 10000000}) only [go_sem, Nat.reduceAdd, Nat.reduceSub, Nat.reduceMul, Nat.reduceLT, Nat.reduceLeDiff, Nat.lt_irrefl, Nat.le_refl, List.getElem?_toArray, bne_self_eq_false, Int.le_refl, Int.reduceLE, Int.reduceLT, Int.toNat_zero, Nat.zero_mul, List.all_cons, List.all_nil, Bool.and_self, Bool.and_true, Bool.true_and, Nat.reduceEqDiff, Nat.one_ne_zero, true_and, and_true, and_self, List.drop_succ_cons, List.drop_nil, List.take_succ_cons, List.take_nil]
    refine hN _ _ ?_; clear hN N
    refine aW_ret ?_
    simp only [go_sem]
    exact Body.done rfl (Nat.le_refl _) ⟨rfl, rfl⟩
  | some i =>
    have hx : idx (keyIs k (lower host)) l = i := by simp [idx, hi]
    obtain ⟨hil, hi2, _⟩ := List.findIdx?_eq_some_iff_getElem.1 hi
    have hg1 : g = true := by
      cases g with
      | true => rfl
      | false => rw [hg rfl] at hil; simp at hil
    subst hg1
    have hp : pGet l k host = (l[i].s, true) := by simp [pGet, hi, hil]
    have hlt : decide ((i : Int) < 0) = false := by simp
    have hidx : (0 ≤ (i : Int) ∧ (i : Int) < (l.length : Int)) = True := by simp; omega
    have hge : (pcells l ++ junk)[i * 3 + 2]? = some (.int .i64 l[i].s) := by
      rw [List.getElem?_append_left (by rw [pcells_length]; omega), ← List.getElem?_drop, pcells_at l i hil]
      rfl
    rw [hx, hp]
    refine aW_seq_k fun N hN => ?_
    refine aW_reg fun N hN => ?_
    simp (config := {maxSteps := 10000000}) only [go_sem, Nat.reduceAdd, Nat.reduceSub, Nat.reduceMul, Nat.reduceLT, Nat.reduceLeDiff, Nat.lt_irrefl, Nat.le_refl, List.getElem?_toArray, bne_self_eq_false, Int.le_refl, Int.reduceLE, Int.reduceLT, Int.toNat_zero, Nat.zero_mul, List.all_cons, List.all_nil, Bool.and_self, Bool.and_true, Bool.true_and, Nat.reduceEqDiff, Nat.one_ne_zero, true_and, and_true, and_self, List.drop_succ_cons, List.drop_nil, List.take_succ_cons, List.take_nil, hlt]
    refine hN _ _ ?_; clear hN N
    refine aW_cond (b := false) (by simp only [go_sem, hlt]) (fun h => by cases h) (fun _ => aW_skip ?_)
    simp only [BH, bS, bR, if_true, if_false, Bool.false_eq_true] at hN ⊢
    refine hN _ _ ?_; clear hN N
    refine aW_reg fun N hN => ?_
    simp (config := {maxSteps := 10000000}) only [go_sem, Nat.reduceAdd, Nat.reduceSub, Nat.reduceMul, Nat.reduceLT, Nat.reduceLeDiff, Nat.lt_irrefl, Nat.le_refl, List.getElem?_toArray, bne_self_eq_false, Int.le_refl, Int.reduceLE, Int.reduceLT, Int.toNat_zero, Nat.zero_mul, List.all_cons, List.all_nil, Bool.and_self, Bool.and_true, Bool.true_and, Nat.reduceEqDiff, Nat.one_ne_zero, true_and, and_true, and_self, List.drop_succ_cons, List.drop_nil, List.take_succ_cons, List.take_nil, hidx, Int.toNat_natCast, hge]
    refine hN _ _ ?_; clear hN N
    exact aW_ret (Body.done rfl (Nat.le_refl _) ⟨rfl, rfl⟩)
end Go.Proofs
