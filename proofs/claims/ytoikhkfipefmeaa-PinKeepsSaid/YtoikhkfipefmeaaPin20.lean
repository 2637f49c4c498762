/- Contracts of the package's functions, by the walk over abstract values. No condition. -/
import Derived.Test.YtoikhkfipefmeaaPin19
namespace Go.Proofs
open Go Go.AH TryTy
set_option linter.unusedSimpArgs false
set_option linter.unusedVariables false
set_option maxRecDepth 10000

/-! ### the plain law -/
/-- The pin of a page and a host stands, and has its space. -/
def Keeps1 (k : Int) (hs : List UInt8) (s : Int) (l : List Pn) : Prop := (∃ x ∈ l, x.page = k ∧ x.host = hs) ∧ ∀ x ∈ l, x.page = k → x.host = hs → x.s = s
theorem keyIs_iff {k : Int} {hs : List UInt8} {x : Pn} : keyIs k hs x = true ↔ x.page = k ∧ x.host = hs := by simp [keyIs]
theorem mem_pDoes (room : Int) (l : List Pn) (d : Dd) (x : Pn) (hx : x ∈ pDoes room l d) : x ∈ l ∨ ¬ ∃ y ∈ l, y.page = x.page ∧ y.host = x.host := by
  unfold pDoes at hx
  split at hx
  · unfold pSet at hx
    split at hx
    · exact .inl hx
    · rename_i hn
      rw [List.mem_append] at hx
      rcases hx with hx | hx
      · left
        split at hx
        · exact List.mem_of_mem_drop hx
        · exact hx
      · right
        simp only [List.mem_singleton] at hx
        subst hx
        rintro ⟨y, hy, e1, e2⟩
        exact hn (List.any_eq_true.2 ⟨y, hy, keyIs_iff.2 ⟨e1, e2⟩⟩)
  · split at hx
    · exact .inl hx
    · split at hx
      · exact .inl hx
      · exact .inl ((List.mem_filter.1 hx).1)
theorem Keeps1.does {k : Int} {hs : List UInt8} {s : Int} {l : List Pn} (h : Keeps1 k hs s l) (room : Int) (d : Dd) (he : ∃ x ∈ pDoes room l d, x.page = k ∧ x.host = hs) : Keeps1 k hs s (pDoes room l d) := by
  refine ⟨he, fun x hx e1 e2 => ?_⟩
  rcases mem_pDoes room l d x hx with q | q
  · exact h.2 x q e1 e2
  · obtain ⟨y, hy, e3, e4⟩ := h.1
    exact absurd ⟨y, hy, by rw [e3, e1], by rw [e4, e2]⟩ q
theorem keeps1_get {k : Int} {host : List UInt8} {s : Int} {x : Pn} {l : List Pn} (h : Keeps1 k (lower host) s (x :: l)) (e1 : x.page = k) (e2 : x.host = lower host) : pGet (x :: l) k host = (s, true) := by
  have hf : (x :: l).findIdx? (keyIs k (lower host)) = some 0 := by
    rw [List.findIdx?_cons, if_pos (keyIs_iff.2 ⟨e1, e2⟩)]
  rw [pGet, hf]
  simp only [List.getD_cons_zero]
  rw [h.2 x (by simp) e1 e2]
theorem wrap_succ_ne {s : Int} (h : -9223372036854775808 ≤ s ∧ s ≤ 9223372036854775807) : IntKind.i64.wrap (s + 1) ≠ s := by
  by_cases h1 : s = 9223372036854775807
  · subst h1; decide
  · rw [IntWalk.i64_in _ (by omega)]; omega
end Go.Proofs
