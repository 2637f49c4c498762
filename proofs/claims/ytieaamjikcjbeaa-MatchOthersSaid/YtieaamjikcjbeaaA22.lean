/- A law that is true from an empty abstract heap. No condition. -/
import Derived.Test.YtieaamjikcjbeaaA21
namespace Go.AH
set_option linter.unusedSimpArgs false
set_option linter.unusedVariables false
open Go
section
variable {P : Program} {n0 : Nat} {T : List AV} {h : Heap}
theorem own_none {β : Nat → Nat} {h : Heap} {x b : Nat} (q : Own (fun id => if id = h.length then x else β id) (h ++ [none]) b) : Own β h b := by
  obtain ⟨id, blk, hb, e⟩ := q
  have hid : id < h.length := by
    rcases Nat.lt_or_ge id h.length with q | q
    · exact q
    · rw [List.getElem?_append_right q] at hb
      rcases Nat.lt_or_ge (id - h.length) 1 with q' | q'
      · have : id - h.length = 0 := by omega
        rw [this] at hb; simp at hb
      · rw [List.getElem?_eq_none (by simpa using q')] at hb; simp at hb
  rw [List.getElem?_append_left hid] at hb
  simp only [if_neg (show ¬ id = h.length by omega)] at e
  exact ⟨id, blk, hb, e⟩

/-- One more id, of a block that is not named. -/
theorem St.grow {F : Nat → Prop} {β : Nat → Nat} {w : World} (s : St F β w h) (hh : 0 < h.length) : Goes F β w h (fun id => if id = h.length then β 0 else β id) w (h ++ [none]) := by
  have st : Step (Own β h) w w (Own (fun id => if id = h.length then β 0 else β id) (h ++ [none])) :=
    ⟨rfl, rfl, rfl, Nat.le_refl _, fun _ _ _ => rfl, fun _ _ => rfl, fun b q => .inl (own_none q)⟩
  have le := s.leOf (β' := fun id => if id = h.length then β 0 else β id) (h' := h ++ [none]) st (by simp) (fun id hid => if_neg (by omega))
  have inh : ∀ (i : Nat) (b : Blk), (h ++ [none])[i]? = some (some b) → i < h.length ∧ h[i]? = some (some b) := by
    intro i b hb
    have hid : i < h.length := by
      rcases Nat.lt_or_ge i h.length with q | q
      · exact q
      · rw [List.getElem?_append_right q] at hb
        rcases Nat.lt_or_ge (i - h.length) 1 with q' | q'
        · have : i - h.length = 0 := by omega
          rw [this] at hb; simp at hb
        · rw [List.getElem?_eq_none (by simpa using q')] at hb; simp at hb
    rw [List.getElem?_append_left hid] at hb
    exact ⟨hid, hb⟩
  refine ⟨⟨fun id blk hb => ?_, fun i j bi bj hi hj e => ?_, fun b hb q => s.sep b hb (own_none q), s.flt, fun id hid => ?_⟩, st, by simp, fun id hid => if_neg (by omega)⟩
  · obtain ⟨h1, h2⟩ := inh id blk hb
    obtain ⟨o, ho, hr⟩ := s.live id blk h2
    exact ⟨o, by simp only [if_neg (show ¬ id = h.length by omega)]; exact ho, BlkRel.le le hr⟩
  · obtain ⟨h1, h2⟩ := inh i bi hi
    obtain ⟨h3, h4⟩ := inh j bj hj
    simp only [if_neg (show ¬ i = h.length by omega), if_neg (show ¬ j = h.length by omega)] at e
    exact s.inj i j bi bj h2 h4 e
  · by_cases q : id = h.length
    · simp only [if_pos q]; exact s.lt 0 hh
    · simp only [if_neg q]; exact s.lt id (by simp at hid; omega)

theorem aW_grow {c : Code} {K : AExit → List AV → Heap → Prop} (hh : 0 < h.length) (a : aW P n0 c T (h ++ [none]) K) : aW P n0 c T h K := by
  intro F β w act D hn s r hd
  have g := s.grow hh
  refine wp_mono (a F _ w act D (by rw [List.length_append]; omega) g.st (RelL.le (g.le s) _ _ r) hd) ?_
  rintro e a' w' ⟨x, β', T', h', hk, hg, he, hr, hd'⟩
  exact ⟨x, β', T', h', hk, (g.gets hn).trans hg, he, hr, hd'⟩

/-- A law that is true, from a world that it owns nothing of. -/
theorem ACalls.law {f : FuncId} {args : List AV} (c : ACalls P f args [] (fun r _ => r = .ret (.bool true))) (w : World) (vs : Array Value)
    (hr : RelL (ctx (fun _ => False) (fun _ => 0) w []) args vs.toList) : Calls P f vs w fun e w' => e = .returned (.bool true) ∧ Go.RowKit.Below w.heap.size w w' := by
  have s : St (fun _ => False) (fun _ => 0) w [] := ⟨by simp, by simp, by simp, by simp, by simp⟩
  refine (c.2 _ _ w vs s hr).mono ?_
  rintro e w' ⟨β', h', r, rfl, g, v', rfl, rv⟩
  have rv' : v' = .bool true := rv
  subst rv'
  exact ⟨rfl, g.step.below (by rintro b ⟨id, blk, hb, _⟩; simp at hb)⟩
/-- What is to come behind a call is not looked at before the call is done. -/
theorem ACalls.scongr {f : FuncId} {args args' : List AV} {h' : Heap} {K : AEnd → Heap → Prop} (ha : args = args') (hh : h = h') : ACalls P f args h K = ACalls P f args' h' K := by rw [ha, hh]
attribute [congr] ACalls.scongr
end
end Go.AH
