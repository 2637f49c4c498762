/- Counted loops of which something is known, stored cells. No condition. -/
import Derived.Test.YtieaamjikcjbeaaA24
namespace Go.AH
set_option linter.unusedSimpArgs false
open Go
set_option linter.unusedVariables false
/-- What a round of a counted loop leaves, of which something is known. -/
def ForQ (n0 : Nat) (I : Nat → List AV × Heap) (Q : Nat → Prop) (n k : Nat) (K : AExit → List AV → Heap → Prop) : AExit → List AV → Heap → Prop
  | .normal, T, h => k < n ∧ Q (k + 1) ∧ ∃ m, Weak n0 m (I (k + 1)).1 (I (k + 1)).2 T h
  | e, T, h => K e T h
section
variable {P : Program} {n0 : Nat} {T : List AV} {h : Heap}
theorem aW_forQ {c : Code} {K : AExit → List AV → Heap → Prop} (I : Nat → List AV × Heap) (Q : Nat → Prop) (n : Nat) {m : Nat → Nat} (start : n0 ≤ h.length → Weak n0 m (I 0).1 (I 0).2 T h) (q0 : Q 0)
    (round : ∀ k, k ≤ n → Q k → n0 ≤ (I k).2.length → aW P n0 c (I k).1 (I k).2 (ForQ n0 I Q n k K)) : aW P n0 (.loop c) T h K := by
  suffices a : n0 ≤ h.length → aW P n0 (.loop c) (I 0).1 (I 0).2 K from fun F β w act D hn s r hd => aW_weak (start hn) (a hn) F β w act D hn s r hd
  intro hn
  refine aW_loop (fun m T h => ∃ k, k ≤ n ∧ Q k ∧ m = n - k ∧ T = (I k).1 ∧ h = (I k).2) n ⟨0, Nat.zero_le _, q0, rfl, rfl, rfl⟩ ?_
  rintro m' T' h' hn' ⟨k, hk, hq, rfl, rfl, rfl⟩
  refine aW_mono (round k hk hq hn') ?_
  intro e T2 h2 _ q
  cases e with
  | normal =>
    obtain ⟨q1, q3, m2, q2⟩ := q
    exact ⟨n - (k + 1), m2, _, _, by omega, q2, k + 1, q1, q3, rfl, rfl, rfl⟩
  | exit i => exact q
  | ret => exact q
  | pan v => exact q
end
section
variable {K : AExit → List AV → Heap → Prop} {T : List AV} {h : Heap} {i j n0 n : Nat} {I : Nat → List AV × Heap} {Q : Nat → Prop}
theorem forq_exit (q : K (.exit i) T h) : ForQ n0 I Q n j K (.exit i) T h := q
theorem forq_ret (q : K .ret T h) : ForQ n0 I Q n j K .ret T h := q
end
theorem Enc.drop_at {α : Type} (e : Enc α) (l : List α) (j : List AV) (k : Nat) (h : k < l.length) : (e.cells l ++ j).drop (k * e.n) = e.f l[k] ++ (e.cells (l.drop (k + 1)) ++ j) := by
  have hl := e.length l
  have h1 : k * e.n ≤ l.length * e.n := Nat.mul_le_mul_right _ (by omega)
  rw [List.drop_append_of_le_length (by omega), e.drop l k (by omega), List.drop_eq_getElem_cons h, Enc.cells_cons, List.append_assoc]
theorem Enc.drop0 {α : Type} (e : Enc α) (l : List α) (k : Nat) (h : k < l.length) : (e.cells l).drop (k * e.n) = e.f l[k] ++ e.cells (l.drop (k + 1)) := by
  have := e.drop_at l [] k h
  simpa using this

theorem setMany_left : ∀ (v a b : List AV) (off : Nat), setMany (a ++ b) (a.length + off) v = a ++ setMany b off v
  | [], a, b, off => rfl
  | x :: v, a, b, off => by
    rw [setMany, setMany, List.set_append_right _ _ (by omega), Nat.add_sub_cancel_left, Nat.add_assoc, setMany_left v a (b.set off x) (off + 1)]
theorem setMany_zero : ∀ (v c b : List AV), c.length = v.length → setMany (c ++ b) 0 v = v ++ b
  | [], c, b, h => by cases c <;> simp at h; rfl
  | x :: v, c, b, h => by
    cases c with
    | nil => simp at h
    | cons y c =>
      have e := setMany_left v [x] (c ++ b) 0
      rw [setMany, List.cons_append, List.set_cons_zero]
      simp only [List.singleton_append, List.length_singleton, Nat.add_zero] at e
      rw [e, setMany_zero v c b (by simpa using h)]
      rfl
theorem Enc.setAt {α : Type} (e : Enc α) (L : List α) (j : List AV) (k : Nat) (x : α) (h : k < L.length) : setMany (e.cells L ++ j) (k * e.n) (e.f x) = e.cells (L.set k x) ++ j := by
  have h1 : e.cells L = e.cells (L.take k) ++ (e.f L[k] ++ e.cells (L.drop (k + 1))) := by
    rw [← e.cells_cons, ← List.drop_eq_getElem_cons h, ← e.cells_append, List.take_append_drop]
  have h2 : (e.cells (L.take k)).length = k * e.n := by rw [e.length, List.length_take, Nat.min_eq_left (Nat.le_of_lt h)]
  have e1 := setMany_left (e.f x) (e.cells (L.take k)) (e.f L[k] ++ e.cells (L.drop (k + 1)) ++ j) 0
  rw [h2] at e1
  simp only [Nat.add_zero] at e1
  rw [h1, List.append_assoc, e1, List.append_assoc, setMany_zero _ _ _ (by rw [e.len, e.len]), List.set_eq_take_append_cons_drop, if_pos h, e.cells_append, e.cells_cons]
  simp only [List.append_assoc]
theorem renL_set (m : Nat → Nat) (x : AV) : ∀ (l : List AV) (i : Nat), renL m (l.set i x) = (renL m l).set i (ren m x)
  | [], _ => rfl
  | y :: l, 0 => rfl
  | y :: l, i + 1 => by rw [List.set_cons_succ, renL, renL, List.set_cons_succ, renL_set m x l i]
theorem renL_setMany (m : Nat → Nat) : ∀ (v l : List AV) (off : Nat), renL m (setMany l off v) = setMany (renL m l) off (renL m v)
  | [], l, off => rfl
  | x :: v, l, off => by rw [setMany, renL, setMany, renL_setMany m v, renL_set]
theorem renL_zeroRow (m : Nat → Nat) (z : List AV) (h : renL m z = z) : ∀ n, renL m (zeroRow z n) = zeroRow z n
  | 0 => rfl
  | n + 1 => by rw [zeroRow, renL_append, h, renL_zeroRow m z h n]

/-- What is to come is shown once, of all states of one shape. -/
theorem nx_mid {P : Program} {n0 : Nat} {c : Code} {K : AExit → List AV → Heap → Prop} {N : List AV → Heap → Prop} {G : Prop} (S : List AV → Heap → Prop) (hN : ∀ T h, aW P n0 c T h K → N T h)
    (key : ∀ T0 h0, S T0 h0 → aW P n0 c T0 h0 K) (a : (∀ T h, (∃ T0 h0 m, Weak n0 m T0 h0 T h ∧ S T0 h0) → N T h) → G) : G :=
  a fun T h ⟨T0, h0, _, w, s⟩ => hN T h (aW_weak w (key T0 h0 s))
end Go.AH
