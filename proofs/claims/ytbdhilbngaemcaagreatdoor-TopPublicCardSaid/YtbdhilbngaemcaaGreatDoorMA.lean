/- Masks and compares, by runs. No condition. -/
import Derived.Test.YtbdhilbngaemcaaGreatDoorAV
import Derived.Test.YtbdhilbngaemcaaGreatDoorAZ
set_option linter.unusedVariables false
set_option linter.unusedSimpArgs false
namespace Go.Proofs
open Go Go.AH
set_option maxRecDepth 100000
/-! ### cidr.Mask, by 33 runs -/
noncomputable def allR (g : Nat → Bool) (lo : Nat) : Nat → Bool := fun k => Nat.rec true (fun i r => bif g (lo + i) then r else false) k
theorem allR_ok {g : Nat → Bool} {lo : Nat} : ∀ {k : Nat}, allR g lo k = true → ∀ x, lo ≤ x → x < lo + k → g x = true
  | 0, _, x, h1, h2 => by omega
  | k + 1, h, x, h1, h2 => by
    have h : (bif g (lo + k) then allR g lo k else false) = true := h
    cases hb : g (lo + k) with
    | false => rw [hb] at h; cases h
    | true =>
      rw [hb] at h
      rcases (show x < lo + k ∨ lo + k ≤ x by omega) with q | q
      · exact allR_ok h x h1 q
      · rw [show x = lo + k by omega]; exact hb
noncomputable def okK (sp : CallF) (f : Nat) (args : List AV) (h : Heap) (r : AV) (h1 : Heap) : Bool := okRun ((rAll Tryz.prog (IT sp) 3000).body f args h) r h1
theorem okK_ok {sp : CallF} (hs : CallOk Tryz.prog sp) {f : Nat} {args : List AV} {h h1 : Heap} {r : AV} (q : okK sp f args h r h1 = true) : ACalls Tryz.prog f args h (fun r' h'' => r' = .ret r ∧ h'' = h1) := run_call (IT_ok hs) 3000 q
def sp0 : CallF := fun _ _ _ => none
theorem sp0_ok : CallOk Tryz.prog sp0 := fun _ _ _ _ _ e => by cases e
noncomputable def okMask (n : Nat) : Bool := okK sp0 137 (maskArgs n) [] (maskRes n) []
theorem mask0 : allR okMask 0 17 = true := by decide +kernel
end Go.Proofs
namespace Go.Proofs
open Go Go.AH
set_option maxRecDepth 100000
theorem mask1 : allR okMask 17 16 = true := by decide +kernel
theorem maskRuns (n : Nat) (hn : n ≤ 32) : ACalls Tryz.prog 137 (maskArgs n) [] (fun r h => r = .ret (maskRes n) ∧ h = []) := by
  rcases (show n < 17 ∨ 17 ≤ n by omega) with q | q
  · exact okK_ok sp0_ok (allR_ok mask0 n (by omega) (by omega))
  · exact okK_ok sp0_ok (allR_ok mask1 n q (by omega))
/-! ### cidr.Compare, by 195 runs -/
noncomputable def okCmp (i : Nat) (x : Nat) : Bool := okK sp0 264 (cArgs i (x / 6) (Nat.beq (x / 3 % 2) 1) (x % 3)) [] (.int .i64 (cVal i (Nat.beq (x / 3 % 2) 1) (x % 3))) []
theorem cmp0 : allR (okCmp 0) 0 48 = true := by decide +kernel
theorem cmp1 : allR (okCmp 1) 0 48 = true := by decide +kernel
theorem cmp2 : allR (okCmp 2) 0 48 = true := by decide +kernel
theorem cmp3 : allR (okCmp 3) 0 48 = true := by decide +kernel
theorem cmp4 : allR (okCmp 4) 0 3 = true := by decide +kernel
theorem cmpRun {i t : Nat} {s : Bool} {o : Nat} (ho : o < 3) (h : okCmp i (6 * t + 3 * (if s then 1 else 0) + o) = true) : ACalls Tryz.prog 264 (cArgs i t s o) [] (fun r h => r = .ret (.int .i64 (cVal i s o)) ∧ h = []) := by
  unfold okCmp at h
  have e1 : (6 * t + 3 * (if s then 1 else 0) + o) / 6 = t := by cases s <;> simp <;> omega
  have e2 : (6 * t + 3 * (if s then 1 else 0) + o) % 3 = o := by cases s <;> simp <;> omega
  have e3 : Nat.beq ((6 * t + 3 * (if s then 1 else 0) + o) / 3 % 2) 1 = s := by
    cases s
    · rw [show (6 * t + 3 * (if false = true then 1 else 0) + o) / 3 % 2 = 0 by simp; omega]; rfl
    · rw [show (6 * t + 3 * (if true = true then 1 else 0) + o) / 3 % 2 = 1 by simp; omega]; rfl
  rw [e1, e2, e3] at h
  exact okK_ok sp0_ok h
theorem cmpRuns (i t : Nat) (s : Bool) (o : Nat) (hi : i ≤ 4) (ht : t < 8) (ho : o < 3) (h4 : i = 4 → t = 0 ∧ s = false) : ACalls Tryz.prog 264 (cArgs i t s o) [] (fun r h => r = .ret (.int .i64 (cVal i s o)) ∧ h = []) := by
  apply cmpRun ho
  have hx : 6 * t + 3 * (if s then 1 else 0) + o < 48 := by cases s <;> simp <;> omega
  have : i = 0 ∨ i = 1 ∨ i = 2 ∨ i = 3 ∨ i = 4 := by omega
  rcases this with rfl | rfl | rfl | rfl | rfl
  · exact allR_ok cmp0 _ (by omega) (by omega)
  · exact allR_ok cmp1 _ (by omega) (by omega)
  · exact allR_ok cmp2 _ (by omega) (by omega)
  · exact allR_ok cmp3 _ (by omega) (by omega)
  · obtain ⟨rfl, rfl⟩ := h4 rfl
    exact allR_ok cmp4 _ (by omega) (by simp; omega)
def spX2 : CallF := fun f args h => bif Nat.beq f 137 then spMask args h else bif Nat.beq f 264 then spCmpL args h else none
theorem spX2_ok : CallOk Tryz.prog spX2 := by
  intro f args h r h' e
  unfold spX2 at e
  cases h1 : Nat.beq f 137 with
  | true =>
    rw [h1] at e
    have := Nat.eq_of_beq_eq_true h1
    subst this
    exact spMask_ok maskRuns e
  | false =>
    rw [h1] at e
    cases h2 : Nat.beq f 264 with
    | true =>
      rw [h2] at e
      have := Nat.eq_of_beq_eq_true h2
      subst this
      exact spCmpL_ok cmpRuns e
    | false => rw [h2] at e; cases e
end Go.Proofs
