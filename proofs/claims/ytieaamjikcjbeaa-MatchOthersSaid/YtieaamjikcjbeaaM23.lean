/- Contracts of the package's functions, by the walk over abstract values. No condition. -/
import Derived.Test.YtieaamjikcjbeaaM12
import Derived.Test.YtieaamjikcjbeaaA29
namespace Go.Proofs
open Go Go.AH TryTy
set_option linter.unusedSimpArgs false
set_option linter.unusedVariables false
set_option maxRecDepth 10000

structure Key (P : Prop) : Prop where
  go : P
theorem share' {P Q : Prop} (f : Key P → Q) (p : P) : Q := f ⟨p⟩
/-! ### records whose names are none of the chain change nothing: the plain law -/
def namesF (c : List (List UInt8) × List UInt8 × Int × Bool) : List (List UInt8) := c.1 ++ [c.2.1]
theorem names_mono (l : List Rc) (most : Int) : ∀ (k : Nat) (pre : List (List UInt8)) (last : List UInt8) (ttl : Int), ∀ n ∈ pre ++ [last], n ∈ namesF (chainF l most k pre last ttl)
  | 0, _, _, _, _, h => h
  | k + 1, pre, last, ttl, n, h => by
    rw [chainF]
    cases l.filter (isR last 5) with
    | nil => exact h
    | cons r rest =>
      simp only
      split
      · exact h
      · exact names_mono l most k _ _ _ n (List.mem_append_left _ h)
theorem names_less (l : List Rc) (m1 m2 : Int) (hm : m1 ≤ m2) : ∀ (k : Nat) (pre : List (List UInt8)) (last : List UInt8) (ttl : Int), ∀ n ∈ namesF (chainF l m1 k pre last ttl), n ∈ namesF (chainF l m2 k pre last ttl)
  | 0, _, _, _, _, h => h
  | k + 1, pre, last, ttl, n, h => by
    rw [chainF] at h ⊢
    cases hf : l.filter (isR last 5) with
    | nil => rw [hf] at h; exact h
    | cons r rest =>
      rw [hf] at h
      simp only at h ⊢
      split at h
      · split
        · exact h
        · exact names_mono l m2 k _ _ _ n (List.mem_append_left _ h)
      · split
        · omega
        · exact names_less l m1 m2 hm k _ _ _ n h
theorem chain_same (l l' : List Rc) (most : Int) : ∀ (k : Nat) (pre : List (List UInt8)) (last : List UInt8) (ttl : Int), (∀ n ∈ namesF (chainF l most k pre last ttl), ∀ t, l'.filter (isR n t) = l.filter (isR n t)) → chainF l' most k pre last ttl = chainF l most k pre last ttl
  | 0, _, _, _, _ => rfl
  | k + 1, pre, last, ttl, h => by
    have hl := h last (names_mono l most (k + 1) pre last ttl last (by simp)) 5
    rw [chainF] at h ⊢
    rw [hl]
    rw [chainF]
    cases hf : l.filter (isR last 5) with
    | nil => rfl
    | cons r rest =>
      rw [hf] at h
      simp only at h ⊢
      split
      · rfl
      · rename_i hh
        rw [if_neg hh] at h
        exact chain_same l l' most k _ _ _ h
theorem tell_same (q : Qy) (f : Int) (l l' : List Rc) (h : ∀ n ∈ namesF (chainF l 8 200 [] q.name 604800), ∀ t, l'.filter (isR n t) = l.filter (isR n t)) : tellF q f l' = tellF q f l := by
  have hc := chain_same l l' 8 200 [] q.name 604800 h
  unfold tellF
  rw [hc]
  clear hc
  generalize chainF l 8 200 [] q.name 604800 = ch at h
  obtain ⟨pre, last, ttl, ends⟩ := ch
  have hl := h last (by simp [namesF]) q.type
  simp only [hl]
theorem isR_long (n : List UInt8) (t : Int) (r : Rc) (h : n.length < r.name.length) : isR n t r = false := by
  have : (lower r.name == lower n) = false := by
    rw [beq_eq_false_iff_ne]
    intro e
    have := congrArg List.length e
    rw [lower_length, lower_length] at this
    omega
  rw [isR, this, Bool.and_false]
theorem others_law (q : Qy) (f : Int) (l ins : List Rc) (p : Nat) (long : Nat) (hn : ∀ n ∈ namesF (chainF l 20 200 [] q.name 604800), n.length ≤ long) (hi : ∀ r ∈ ins, long < r.name.length) :
    tellF q f (l.take p ++ ins ++ l.drop p) = tellF q f l := by
  refine tell_same q f l _ fun n h t => ?_
  have h2 := hn n (names_less l 8 20 (by decide) 200 [] q.name 604800 n h)
  have h3 : ins.filter (isR n t) = [] := by
    rw [List.filter_eq_nil_iff]
    intro r hr
    have := hi r hr
    rw [isR_long n t r (by omega)]
    simp
  rw [List.filter_append, List.filter_append, h3, List.append_nil, ← List.filter_append, List.take_append_drop]
/-- The longest of them. -/
def lgF (ns : List (List UInt8)) : Nat := ns.foldl (fun a s => max a s.length) 0
theorem lgF_snoc (ns : List (List UInt8)) (s : List UInt8) : lgF (ns ++ [s]) = max (lgF ns) s.length := by simp [lgF]
theorem lgF_le : ∀ (ns : List (List UInt8)) (a : Nat), a ≤ ns.foldl (fun a s => max a s.length) a ∧ ∀ n ∈ ns, n.length ≤ ns.foldl (fun a s => max a s.length) a
  | [], a => ⟨Nat.le_refl _, fun n h => by cases h⟩
  | s :: ns, a => by
    obtain ⟨h1, h2⟩ := lgF_le ns (max a s.length)
    refine ⟨by simp only [List.foldl_cons]; omega, fun n h => ?_⟩
    simp only [List.foldl_cons]
    rcases List.mem_cons.1 h with rfl | h
    · omega
    · exact h2 n h
theorem lgF_bound : ∀ (ns : List (List UInt8)) (a b : Nat), a ≤ b → (∀ n ∈ ns, n.length ≤ b) → ns.foldl (fun a s => max a s.length) a ≤ b
  | [], a, b, h, _ => h
  | s :: ns, a, b, h, h2 => by
    simp only [List.foldl_cons]
    exact lgF_bound ns _ b (by have := h2 s (by simp); omega) fun n hn => h2 n (by simp [hn])
end Go.Proofs
