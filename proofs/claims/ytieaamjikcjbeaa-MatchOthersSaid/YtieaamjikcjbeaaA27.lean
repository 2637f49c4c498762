/- What the check of a tree gives. No condition. -/
import Derived.Test.YtieaamjikcjbeaaA26
namespace Go.AH
set_option linter.unusedSimpArgs false
open Go
set_option linter.unusedVariables false
structure TreeP (ops : List Oper) (anc : List (List Nat)) (E : List Nat) : Prop where
  ancs : ancOk ops ⟨E, [], [], anc⟩ = true
  eff : ∀ i ∈ E, i < ops.length
  ahead : ∀ i, i < ops.length → ∀ e ∈ (ops.getD i default).after, Region.binds .any e = true → e.on < i
  reads : ∀ i, i < ops.length → ∀ t ∈ reads ops (ops.getD i default), ∀ j, j < ops.length → j ∈ E ∨ (ops.getD j default).dst ≠ some t ∨ j ∈ anc.getD i []

theorem treeP {ops : List Oper} {anc : List (List Nat)} {E : List Nat} {t : DT} (h : treeOk ops anc E t = true) : TreeP ops anc E ∧ t.ok ops anc E [] [] = true := by
  unfold treeOk at h
  simp only [Bool.and_eq_true] at h
  obtain ⟨⟨⟨⟨h1, h2⟩, h3⟩, h4⟩, h5⟩ := h
  refine ⟨⟨h1, fun i hi => by simpa using List.all_eq_true.1 h2 i hi, fun i hi e he hb => ?_, fun i hi t ht j hj => ?_⟩, h5⟩
  · have := List.all_eq_true.1 (all_range h3 hi) e (by simpa using he)
    simpa [hb] using this
  · have := all_range (List.all_eq_true.1 (all_range h4 hi) t ht) hj
    simp only [Bool.or_eq_true, List.contains_iff_mem, bne_iff_ne] at this
    rcases this with (q | q) | q
    · exact .inl q
    · exact .inr (.inl q)
    · exact .inr (.inr q)

structure NodeP (ops : List Oper) (anc : List (List Nat)) (E pe pns : List Nat) (t : DT) : Prop where
  ns : ∀ i ∈ t.ns, i < ops.length ∧ (∀ e, pe.getLast? = some e → e ∈ anc.getD i []) ∧ notCall (ops.getD i default).op = true ∧ (ops.getD i default).dst.isSome = true ∧ i ∉ E
  asked : ∀ i ∈ pns ++ t.ns, i ∈ t.fs ∨ ∃ j ∈ pe, i ∈ anc.getD j []
  kid : ∀ e t', (e, t') ∈ t.kids → e ∈ E ∧ e ∉ pe ∧ t'.ok ops anc E (pe ++ [e]) (pns ++ t.ns) = true
  cover : ∀ i ∈ E, i ∈ pe ∨ (∃ t', (i, t') ∈ t.kids) ∨ ∃ j ∈ E, j ∉ pe ∧ j ∈ anc.getD i []
  last : t.kids = [] → (∀ i ∈ E, i ∈ pe) ∧ ∀ i, i < ops.length → i ∈ E ∨ i ∈ pns ++ t.ns

theorem nodeOkP {ops : List Oper} {anc : List (List Nat)} {E pe pns ns fs : List Nat} (h : nodeOk ops anc E pe pns ns fs = true) :
    (∀ i ∈ ns, i < ops.length ∧ (∀ e, pe.getLast? = some e → e ∈ anc.getD i []) ∧ notCall (ops.getD i default).op = true ∧ (ops.getD i default).dst.isSome = true ∧ i ∉ E) ∧ ∀ i ∈ pns ++ ns, i ∈ fs ∨ ∃ j ∈ pe, i ∈ anc.getD j [] := by
  unfold nodeOk at h
  simp only [Bool.and_eq_true, List.all_eq_true] at h
  refine ⟨fun i hi => ?_, fun i hi => ?_⟩
  · have := h.1 i hi
    simp only [decide_eq_true_eq, Bool.not_eq_true', List.contains_eq_mem, decide_eq_false_iff_not] at this
    refine ⟨this.1.1.1.1, fun e he => ?_, this.1.1.2, this.1.2, this.2⟩
    have q := this.1.1.1.2
    unfold lastAnc at q
    rw [he] at q
    simpa using q
  · have := h.2 i hi
    simp only [Bool.or_eq_true, List.contains_iff_mem, List.any_eq_true] at this
    exact this

theorem coverP {anc : List (List Nat)} {E pe es : List Nat} (h : coverOk anc E pe es = true) : ∀ i ∈ E, i ∈ pe ∨ i ∈ es ∨ ∃ j ∈ E, j ∉ pe ∧ j ∈ anc.getD i [] := by
  intro i hi
  have := List.all_eq_true.1 h i hi
  simp only [Bool.or_eq_true, List.any_eq_true, Bool.and_eq_true, Bool.not_eq_true', List.contains_eq_mem, decide_eq_false_iff_not, decide_eq_true_eq] at this
  rcases this with (q | q) | ⟨j, q1, q2, q3⟩
  · exact .inl q
  · exact .inr (.inl q)
  · exact .inr (.inr ⟨j, q1, q2, q3⟩)

theorem nodeP {ops : List Oper} {anc : List (List Nat)} {E pe pns : List Nat} {t : DT} (h : t.ok ops anc E pe pns = true) : NodeP ops anc E pe pns t := by
  cases t with
  | fin ns fs =>
    simp only [DT.ok, Bool.and_eq_true] at h
    obtain ⟨h1, h2, h3⟩ := h
    obtain ⟨a, b⟩ := nodeOkP h1
    have hE : ∀ i ∈ E, i ∈ pe := fun i hi => by simpa using List.all_eq_true.1 h2 i hi
    refine ⟨a, b, fun e t' q => by simp [DT.kids] at q, fun i hi => .inl (hE i hi), fun _ => ⟨hE, fun i hi => ?_⟩⟩
    have := all_range h3 hi
    simp only [Bool.or_eq_true, List.contains_iff_mem] at this
    exact this
  | one ns fs e t =>
    simp only [DT.ok, kidOk, Bool.and_eq_true, Bool.not_eq_true', List.contains_eq_mem, decide_eq_true_eq, decide_eq_false_iff_not] at h
    obtain ⟨h1, ⟨⟨h2, h3⟩, h4⟩, h5⟩ := h
    obtain ⟨a, b⟩ := nodeOkP h1
    refine ⟨a, b, fun e t' q => ?_, fun i hi => ?_, fun q => by simp [DT.kids] at q⟩
    · simp only [DT.kids, List.mem_singleton, Prod.mk.injEq] at q
      obtain ⟨rfl, rfl⟩ := q
      exact ⟨h2, h3, h5⟩
    · rcases coverP h4 i hi with q | q | q
      · exact .inl q
      · exact .inr (.inl ⟨t, by simp at q; simp [DT.kids, q]⟩)
      · exact .inr (.inr q)
  | two ns fs e1 t1 e2 t2 =>
    simp only [DT.ok, kidOk, Bool.and_eq_true, Bool.not_eq_true', List.contains_eq_mem, decide_eq_true_eq, decide_eq_false_iff_not] at h
    obtain ⟨h1, ⟨⟨⟨⟨h2, h3⟩, h2', h3'⟩, h4⟩, h5⟩, h6⟩ := h
    obtain ⟨a, b⟩ := nodeOkP h1
    refine ⟨a, b, fun e t' q => ?_, fun i hi => ?_, fun q => by simp [DT.kids] at q⟩
    · simp only [DT.kids, List.mem_cons, Prod.mk.injEq, List.not_mem_nil, or_false] at q
      rcases q with ⟨rfl, rfl⟩ | ⟨rfl, rfl⟩
      · exact ⟨h2, h3, h5⟩
      · exact ⟨h2', h3', h6⟩
    · rcases coverP h4 i hi with q | q | q
      · exact .inl q
      · simp only [List.mem_cons, List.not_mem_nil, or_false] at q
        rcases q with rfl | rfl
        · exact .inr (.inl ⟨t1, by simp [DT.kids]⟩)
        · exact .inr (.inl ⟨t2, by simp [DT.kids]⟩)
      · exact .inr (.inr q)
end Go.AH
