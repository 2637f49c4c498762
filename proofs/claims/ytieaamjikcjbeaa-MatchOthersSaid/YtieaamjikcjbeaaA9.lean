/- The evaluator is sound: first part. No condition. -/
import Derived.Test.YtieaamjikcjbeaaA8
namespace Go.AH
set_option linter.unusedSimpArgs false
set_option linter.unusedVariables false
open Go
section
variable {P : Program} {F : Nat → Prop} {β : Nat → Nat} {w : World} {h : Heap}

theorem rel_bcells (c : Ctx) : ∀ (s : List UInt8), RelL c (bcells s) (s.map fun b => Value.int .u8 b.toNat)
  | [] => rfl
  | _ :: s => ⟨_, _, rfl, rfl, rel_bcells c s⟩

theorem run_readSl (s : St F β w h) {sz n : Nat} {x : AV} {u : Value} {cs : List AV} (hr : readSl h sz x n = some cs) (hs : strOk sz x = true) (hn : ∀ l, lenOfA x = some l → n ≤ l) (r : Rel (ctx F β w h) x u) :
    ∃ vs, (Builtin.firstCells sz n u).run P w = .ok vs w ∧ RelL (ctx F β w h) cs vs.toList ∧ cs.length = n * sz := by
  unfold readSl at hr
  split at hr
  · split at hr <;> simp only [Option.some.injEq, reduceCtorEq] at hr
    rename_i h0
    subst hr h0
    simp only [Rel] at r
    subst r
    exact ⟨#[], by simp [Builtin.firstCells], rfl, by simp⟩
  · split at hr <;> simp only [Option.some.injEq, reduceCtorEq] at hr
    rename_i h0
    subst hr h0
    obtain ⟨a, rfl⟩ := r
    cases a with
    | none => exact ⟨#[], by simp [Builtin.firstCells], rfl, by simp⟩
    | some a => exact ⟨#[], by simp [Builtin.firstCells, loadCells, loadCellsFrom], rfl, by simp⟩
  · simp only [Option.some.injEq] at hr
    subst hr
    rename_i l
    simp only [Rel] at r
    subst r
    simp [strOk] at hs
    subst hs
    have := hn _ rfl
    refine ⟨((ByteArray.mk l.toArray).extract 0 n).data.map fun b => .int .u8 b.toNat, by simp [Builtin.firstCells], ?_, by simp [bcells]; omega⟩
    have e : (((ByteArray.mk l.toArray).extract 0 n).data.map fun b => Value.int .u8 b.toNat).toList = (l.take n).map fun b => Value.int .u8 b.toNat := by
      rw [Array.toList_map, ByteArray.data_extract, Array.toList_extract, List.extract]
      simp
    rw [e]
    exact rel_bcells _ _
  · split at hr <;> try (cases hr; done)
    split at hr <;> try (cases hr; done)
    rename_i id off len cap hle _ cs0 e wh hrow
    obtain ⟨hid, o, cap', rfl, ho, hlc, hc⟩ := r
    by_cases h0 : n = 0
    · subst h0
      obtain ⟨hl, _, _⟩ := cut_len hr
      have : cs = [] := List.eq_nil_of_length_eq_zero (by omega)
      subst this
      exact ⟨#[], by simp [Builtin.firstCells, loadCells, loadCellsFrom], rfl, by simp⟩
    · have ho' : o = off := by rcases ho with q | q <;> omega
      subst ho'
      obtain ⟨vs, h1, h2⟩ := run_loadCells_row (P := P) (s.row hrow) hr
      simp only [Nat.zero_add] at h1
      exact ⟨vs, by simpa [Builtin.firstCells] using h1, h2, (cut_len hr).1⟩
  · split at hr <;> try (cases hr; done)
    split at hr <;> try (cases hr; done)
    rename_i id len esz hle _ cs0 e wh hrow
    obtain ⟨hid, cap', et, rfl, hlc, hsh⟩ := r
    obtain ⟨vs, h1, h2⟩ := run_loadCells_row (P := P) (s.row hrow) hr
    simp only [Nat.zero_add] at h1
    exact ⟨vs, by simpa [Builtin.firstCells] using h1, h2, (cut_len hr).1⟩
  · split at hr <;> try (cases hr; done)
    rename_i cs0 len hle
    obtain ⟨a, cap', rfl, hlc, hq⟩ := r
    by_cases h0 : n = 0
    · subst h0
      obtain ⟨hl, _, _⟩ := cut_len hr
      have : cs = [] := List.eq_nil_of_length_eq_zero (by omega)
      subst this
      cases a with
      | none => exact ⟨#[], by simp [Builtin.firstCells], rfl, by simp⟩
      | some a => exact ⟨#[], by simp [Builtin.firstCells, loadCells, loadCellsFrom], rfl, by simp⟩
    · rcases hq with q | ⟨b, o, rfl, hb, hN, hrow⟩
      · omega
      · obtain ⟨vs, h1, h2⟩ := run_loadCells_row (P := P) hrow hr
        exact ⟨vs, by simpa [Builtin.firstCells] using h1, h2, (cut_len hr).1⟩
  · cases hr

theorem run_lenOfA {c : Ctx} {x : AV} {u : Value} {n : Nat} (hl : lenOfA x = some n) (r : Rel c x u) (w : World) : (Builtin.lenOf u).run P w = .ok n w := by
  cases x <;> simp only [lenOfA, Option.some.injEq, reduceCtorEq] at hl <;> subst hl <;> simp only [Rel] at r
  · subst r; simp [Builtin.lenOf, ByteArray.size]
  · subst r; rfl
  · obtain ⟨a, rfl⟩ := r; rfl
  · obtain ⟨_, o, cap', rfl, _⟩ := r; rfl
  · obtain ⟨_, cap', et, rfl, _⟩ := r; rfl
  · obtain ⟨a, cap', rfl, _⟩ := r; rfl

theorem setMany_eq {α : Type} : ∀ (us xs : List α) (off : Nat), off + us.length ≤ xs.length → setMany xs off us = xs.take off ++ us ++ xs.drop (off + us.length)
  | [], xs, off, _ => by simp [setMany]
  | u :: us, xs, off, hl => by
    simp only [List.length_cons] at hl
    rw [setMany, setMany_eq us _ _ (by simp; omega), List.take_set, List.drop_set, if_pos (by omega)]
    have h1 : (xs.take (off + 1)).set off u = xs.take off ++ [u] := by
      rw [List.take_add_one, List.set_append_right _ _ (by simp; omega)]
      have : off - (xs.take off).length = 0 := by simp; omega
      rw [this, List.getElem?_eq_getElem (by omega)]
      simp
    rw [h1]
    simp only [List.append_assoc, List.singleton_append, List.length_cons]
    rw [show off + 1 + us.length = off + (us.length + 1) by omega]

/-- A block under a new name. -/
theorem St.rename (s : St F β w h) (i : Nat) (blk : Blk) (hi : h[i]? = some (some blk)) : Goes F β w h (fun id => if id = h.length then β i else β id) w (h.set i none ++ [some blk]) := by
  have hil : i < h.length := by
    rcases Nat.lt_or_ge i h.length with q | q
    · exact q
    · rw [List.getElem?_eq_none q] at hi; simp at hi
  have key : ∀ (id : Nat) (b : Blk), (h.set i none ++ [some blk])[id]? = some (some b) → (id = h.length ∧ b = blk) ∨ (id < h.length ∧ id ≠ i ∧ h[id]? = some (some b)) := by
    intro id b hb
    rw [List.getElem?_append] at hb
    split at hb
    · rename_i hlt
      rw [List.getElem?_set] at hb
      split at hb
      · simp at hb
      · exact .inr ⟨by simpa using hlt, by omega, hb⟩
    · rename_i hge
      left
      simp at hge hb
      rcases Nat.lt_or_ge (id - h.length) 1 with q | q
      · have : id = h.length := by omega
        subst this
        simp at hb
        exact ⟨rfl, hb.symm⟩
      · rw [List.getElem?_eq_none (by simpa using q)] at hb; simp at hb
  have own : ∀ b, Own (fun id => if id = h.length then β i else β id) (h.set i none ++ [some blk]) b → Own β h b := by
    rintro b ⟨id, bk, hb, e⟩
    rcases key id bk hb with ⟨rfl, rfl⟩ | ⟨h1, h2, h3⟩
    · simp at e; exact ⟨i, _, hi, e⟩
    · simp only [if_neg (show id ≠ h.length by omega)] at e; exact ⟨id, bk, h3, e⟩
  have st : Step (Own β h) w w (Own (fun id => if id = h.length then β i else β id) (h.set i none ++ [some blk])) :=
    ⟨rfl, rfl, rfl, Nat.le_refl _, fun _ _ _ => rfl, fun _ _ => rfl, fun b q => .inl (own b q)⟩
  have le := s.leOf (β' := fun id => if id = h.length then β i else β id) (h' := h.set i none ++ [some blk]) st (by simp) (fun id hid => if_neg (by omega))
  refine ⟨⟨fun id b hb => ?_, fun a b ba bb ha hb e => ?_, fun b hF q => s.sep b hF (own b q), s.flt, fun id hid => ?_⟩, st, by simp, fun id hid => if_neg (by omega)⟩
  · rcases key id b hb with ⟨rfl, rfl⟩ | ⟨h1, h2, h3⟩
    · obtain ⟨o, ho, hr⟩ := s.live i _ hi
      exact ⟨o, by simpa using ho, BlkRel.le le hr⟩
    · obtain ⟨o, ho, hr⟩ := s.live id _ h3
      exact ⟨o, by simp only [if_neg (show id ≠ h.length by omega)]; exact ho, BlkRel.le le hr⟩
  · rcases key a ba ha with ⟨rfl, rfl⟩ | ⟨h1, h2, h3⟩ <;> rcases key b bb hb with ⟨rfl, rfl⟩ | ⟨k1, k2, k3⟩
    · rfl
    · simp only [if_pos, if_neg (show b ≠ h.length by omega)] at e; exact absurd (s.inj _ _ _ _ hi k3 e).symm k2
    · simp only [if_pos, if_neg (show a ≠ h.length by omega)] at e; exact absurd (s.inj _ _ _ _ h3 hi e) h2
    · simp only [if_neg (show b ≠ h.length by omega), if_neg (show a ≠ h.length by omega)] at e; exact s.inj _ _ _ _ h3 k3 e
  · simp at hid
    split
    · exact s.lt i hil
    · exact s.lt id (by omega)

theorem relL_append_zero {c : Ctx} {z : List AV} {zv : Array Value} (r : RelL c z zv.toList) : ∀ n, RelL c (zeroRow z n) (Builtin.zeroCells zv n).toList := by
  have hl := r.length
  simp at hl
  intro n
  have key : ∀ (n k : Nat), (List.range' (k * zv.size) (n * zv.size)).map (fun i => zv[i % zv.size]!) = (List.replicate n zv.toList).flatten := by
    intro n
    induction n with
    | zero => intro k; simp
    | succ n ih =>
      intro k
      rw [Nat.succ_mul, Nat.add_comm, ← List.range'_append_1, List.map_append, List.replicate_succ, List.flatten_cons]
      congr 1
      · apply List.ext_getElem
        · simp
        · intro i h1 h2
          simp at h1
          simp [h1, Nat.mod_eq_of_lt, Nat.mul_comm k]
      · have := ih (k + 1)
        rwa [Nat.succ_mul] at this
  have e : (Builtin.zeroCells zv n).toList = (List.replicate n zv.toList).flatten := by
    have := key n 0
    rw [← this]
    simp [Builtin.zeroCells, List.range_eq_range']
  rw [e]
  clear e key
  induction n with
  | zero => rfl
  | succ n ih => rw [List.replicate_succ, List.flatten_cons]; exact r.append ih

end
end Go.AH
