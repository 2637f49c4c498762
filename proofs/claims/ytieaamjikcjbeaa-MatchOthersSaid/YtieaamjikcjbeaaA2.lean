/- Abstract heaps and what they say of worlds. No condition. -/
import Derived.Test.YtieaamjikcjbeaaA1
import Derived.Laws.AppendOwn
import Derived.Lib.FrozenHead
namespace Go.AH
set_option linter.unusedSimpArgs false
set_option linter.unusedVariables false
open Go

/-- A block, abstractly. -/
inductive Blk where
  | row (cs : List AV) (elem : TypeId) (whole : Bool)
  | mp (es : List (AV × AV × Nat)) (clock : Nat)
  | siter (s : List UInt8) (pos : Nat)
  deriving Inhabited

def RelE (c : Ctx) : List (AV × AV × Nat) → List MapEntry → Prop
  | [], l => l = []
  | (k, v, b) :: es, l => ∃ e r, l = e :: r ∧ Rel c k e.key ∧ Rel c v e.val ∧ e.born = b ∧ RelE c es r

def BlkRel (c : Ctx) : Blk → Obj → Prop
  | .row cs elem whole, o => ∃ vs fz, o = .cells vs elem fz ∧ (∃ ys zs, vs.toList = ys ++ zs ∧ RelL c cs ys ∧ (whole = true → zs = [])) ∧ ∀ i, i < vs.size → ¬ (fz.1 ≤ i ∧ i < fz.2)
  | .mp es clock, o => ∃ l, o = .map l clock ∧ RelE c es l.toList
  | .siter s pos, o => o = .stringIter ⟨s.toArray⟩ pos

theorem RelE.le {c c' : Ctx} (h : c.le c') : ∀ {es : List (AV × AV × Nat)} {l : List MapEntry}, RelE c es l → RelE c' es l
  | [], _, r => r
  | (_, _, _) :: _, _, ⟨e, r, h1, h2, h3, h4, h5⟩ => ⟨e, r, h1, Rel.le h _ _ h2, Rel.le h _ _ h3, h4, RelE.le h h5⟩

theorem BlkRel.le {c c' : Ctx} (h : c.le c') : ∀ {b : Blk} {o : Obj}, BlkRel c b o → BlkRel c' b o
  | .row _ _ _, _, ⟨vs, fz, e, ⟨ys, zs, e2, r, w⟩, f⟩ => ⟨vs, fz, e, ⟨ys, zs, e2, RelL.le h _ _ r, w⟩, f⟩
  | .mp _ _, _, ⟨l, e, r⟩ => ⟨l, e, RelE.le h r⟩
  | .siter _ _, _, r => r

abbrev Heap := List (Option Blk)

/-- Block b is the call's own. -/
def Own (β : Nat → Nat) (h : Heap) (b : Nat) : Prop := ∃ id blk, h[id]? = some (some blk) ∧ β id = b

abbrev ctx (F : Nat → Prop) (β : Nat → Nat) (w : World) (h : Heap) : Ctx := ⟨w, β, h.length, fun b => Own β h b ∨ F b⟩

structure St (F : Nat → Prop) (β : Nat → Nat) (w : World) (h : Heap) : Prop where
  live : ∀ id blk, h[id]? = some (some blk) → ∃ o, w.heap[β id]? = some o ∧ BlkRel (ctx F β w h) blk o
  inj : ∀ i j bi bj, h[i]? = some (some bi) → h[j]? = some (some bj) → β i = β j → i = j
  sep : ∀ b, F b → ¬ Own β h b
  flt : ∀ b, F b → b < w.heap.size
  lt : ∀ id, id < h.length → β id < w.heap.size

structure Step (O : Nat → Prop) (w w' : World) (O' : Nat → Prop) : Prop where
  os : w'.os = w.os
  tape : w'.tape = w.tape
  output : w'.output = w.output
  size : w.heap.size ≤ w'.heap.size
  keep : ∀ b, b < w.heap.size → ¬ O b → w'.heap[b]? = w.heap[b]?
  shape : ∀ b, b < w.heap.size → w'.shape? b = w.shape? b
  own : ∀ b, O' b → O b ∨ w.heap.size ≤ b

theorem Step.refl (O : Nat → Prop) (w : World) : Step O w w O := ⟨rfl, rfl, rfl, Nat.le_refl _, fun _ _ _ => rfl, fun _ _ => rfl, fun _ h => .inl h⟩

theorem Step.trans {O O' O'' : Nat → Prop} {w w' w'' : World} (h : Step O w w' O') (k : Step O' w' w'' O'') : Step O w w'' O'' where
  os := k.os.trans h.os
  tape := k.tape.trans h.tape
  output := k.output.trans h.output
  size := Nat.le_trans h.size k.size
  keep b hb hO := by
    rw [k.keep b (Nat.lt_of_lt_of_le hb h.size) (fun q => (h.own b q).elim hO (fun r => by omega)), h.keep b hb hO]
  shape b hb := by rw [k.shape b (Nat.lt_of_lt_of_le hb h.size), h.shape b hb]
  own b hb := by
    rcases k.own b hb with q | q
    · exact h.own b q
    · exact .inr (Nat.le_trans h.size q)

theorem Step.below {O O' : Nat → Prop} {w w' : World} (h : Step O w w' O') (hO : ∀ b, ¬ O b) : Go.RowKit.Below w.heap.size w w' :=
  ⟨h.os, h.tape, h.output, h.size, fun k hk => h.keep k hk (hO k)⟩

/-- One abstract state goes to another. -/
structure Goes (F : Nat → Prop) (β : Nat → Nat) (w : World) (h : Heap) (β' : Nat → Nat) (w' : World) (h' : Heap) : Prop where
  st : St F β' w' h'
  step : Step (Own β h) w w' (Own β' h')
  len : h.length ≤ h'.length
  β : ∀ id, id < h.length → β' id = β id

theorem St.leOf {F : Nat → Prop} {β β' : Nat → Nat} {w w' : World} {h h' : Heap} (s : St F β w h) (st : Step (Own β h) w w' (Own β' h')) (len : h.length ≤ h'.length)
    (hβ : ∀ id, id < h.length → β' id = β id) : (ctx F β w h).le (ctx F β' w' h') where
  n := len
  β := hβ
  lt := s.lt
  size := st.size
  keep b o y hb hN e := by rw [cell_of_block (st.keep b hb fun q => hN (.inl q))]; exact e
  shape := st.shape
  N b hb := by
    rcases hb with q | q
    · exact (st.own b q).imp .inl id
    · exact .inl (.inr q)

theorem Goes.le {F : Nat → Prop} {β β' : Nat → Nat} {w w' : World} {h h' : Heap} (s : St F β w h) (g : Goes F β w h β' w' h') : (ctx F β w h).le (ctx F β' w' h') :=
  s.leOf g.step g.len g.β

theorem Goes.refl {F : Nat → Prop} {β : Nat → Nat} {w : World} {h : Heap} (s : St F β w h) : Goes F β w h β w h := ⟨s, Step.refl _ _, Nat.le_refl _, fun _ _ => rfl⟩

theorem Goes.trans {F : Nat → Prop} {β β' β'' : Nat → Nat} {w w' w'' : World} {h h' h'' : Heap} (g : Goes F β w h β' w' h') (k : Goes F β' w' h' β'' w'' h'') : Goes F β w h β'' w'' h'' :=
  ⟨k.st, g.step.trans k.step, Nat.le_trans g.len k.len, fun id hid => (k.β id (Nat.lt_of_lt_of_le hid g.len)).trans (g.β id hid)⟩

/-- A draw. -/
theorem St.drew {F : Nat → Prop} {β : Nat → Nat} {w : World} {h : Heap} (s : St F β w h) (w' : World) (hh : w'.heap = w.heap) (h1 : w'.os = w.os) (h2 : w'.tape = w.tape) (h3 : w'.output = w.output) : Goes F β w h β w' h := by
  have st : Step (Own β h) w w' (Own β h) := ⟨h1, h2, h3, by rw [hh]; exact Nat.le_refl _, fun b _ _ => by rw [hh], fun b _ => by simp [World.shape?, hh], fun b q => .inl q⟩
  have le := s.leOf (β' := β) (h' := h) st (Nat.le_refl _) (fun _ _ => rfl)
  refine ⟨⟨fun id blk hb => ?_, s.inj, s.sep, fun b hb => by rw [hh]; exact s.flt b hb, fun id hid => by rw [hh]; exact s.lt id hid⟩, st, Nat.le_refl _, fun _ _ => rfl⟩
  obtain ⟨o, ho, hr⟩ := s.live id blk hb
  exact ⟨o, by rw [hh]; exact ho, BlkRel.le le hr⟩

theorem own_append {β : Nat → Nat} {h : Heap} {x : Option Blk} {n b : Nat} (q : Own (fun id => if id = h.length then n else β id) (h ++ [x]) b) : Own β h b ∨ b = n := by
  obtain ⟨id, blk, hb, e⟩ := q
  by_cases hid : id = h.length
  · simp [hid] at e; exact .inr e.symm
  · simp [hid] at e
    rw [List.getElem?_append] at hb
    split at hb
    · exact .inl ⟨id, blk, hb, e⟩
    · rename_i hge
      have : id - h.length ≠ 0 := by omega
      rw [List.getElem?_eq_none (by simp; omega)] at hb
      simp at hb

/-- A new block. -/
theorem St.alloc {F : Nat → Prop} {β : Nat → Nat} {w : World} {h : Heap} (s : St F β w h) (o : Obj) (blk : Blk) (hr : BlkRel (ctx F β w h) blk o) :
    Goes F β w h (fun id => if id = h.length then w.heap.size else β id) (w.alloc o) (h ++ [some blk]) := by
  have old : ∀ b, b < w.heap.size → (w.alloc o).heap[b]? = w.heap[b]? := fun b hb => heap_alloc_old w o b hb
  have st : Step (Own β h) w (w.alloc o) (Own (fun id => if id = h.length then w.heap.size else β id) (h ++ [some blk])) :=
    ⟨rfl, rfl, rfl, by simp, fun b hb _ => old b hb, fun b hb => by simp [World.shape?, old b hb], fun b q => (own_append q).imp id fun e => by omega⟩
  have le := s.leOf (β' := fun id => if id = h.length then w.heap.size else β id) (h' := h ++ [some blk]) st (by simp) (fun id hid => if_neg (by omega))
  refine ⟨⟨fun id b hb => ?_, fun i j bi bj hi hj e => ?_, fun b hF q => ?_, fun b hF => ?_, fun id hid => ?_⟩, st, by simp, fun id hid => if_neg (by omega)⟩
  · rw [List.getElem?_append] at hb
    split at hb
    · rename_i hlt
      obtain ⟨o', ho', hr'⟩ := s.live id b hb
      refine ⟨o', ?_, BlkRel.le le hr'⟩
      simp only [if_neg (show id ≠ h.length by omega)]
      rw [old _ (s.lt id hlt)]; exact ho'
    · rename_i hge
      have he : id = h.length := by
        rcases Nat.lt_or_ge (id - h.length) 1 with q | q
        · omega
        · rw [List.getElem?_eq_none (by simpa using q)] at hb; simp at hb
      subst he
      simp at hb
      subst hb
      exact ⟨o, by rw [if_pos rfl]; exact heap_alloc_new w o, BlkRel.le le hr⟩
  · have key : ∀ (i : Nat) (bi : Blk), (h ++ [some blk])[i]? = some (some bi) → i = h.length ∨ (i < h.length ∧ h[i]? = some (some bi)) := by
      intro i bi hi
      rw [List.getElem?_append] at hi
      split at hi
      · exact .inr ⟨‹_›, hi⟩
      · left
        rcases Nat.lt_or_ge (i - h.length) 1 with q | q
        · omega
        · rw [List.getElem?_eq_none (by simpa using q)] at hi; simp at hi
    rcases key i bi hi with hi' | ⟨hi', hi''⟩ <;> rcases key j bj hj with hj' | ⟨hj', hj''⟩
    · omega
    · subst hi'; rw [if_pos rfl, if_neg (show j ≠ h.length by omega)] at e; have := s.lt j hj'; omega
    · subst hj'; rw [if_pos rfl, if_neg (show i ≠ h.length by omega)] at e; have := s.lt i hi'; omega
    · rw [if_neg (show j ≠ h.length by omega), if_neg (show i ≠ h.length by omega)] at e; exact s.inj i j bi bj hi'' hj'' e
  · rcases own_append q with q | q
    · exact s.sep b hF q
    · have := s.flt b hF; omega
  · have := s.flt b hF; simp; omega
  · rw [List.length_append] at hid
    simp only [World.size_alloc]
    split
    · omega
    · have := s.lt id (by simp at hid; omega); omega

/-- A block that is given up. -/
theorem St.kill {F : Nat → Prop} {β : Nat → Nat} {w : World} {h : Heap} (s : St F β w h) (i : Nat) : Goes F β w h β w (h.set i none) := by
  have own : ∀ (id : Nat) (blk : Blk), (h.set i none)[id]? = some (some blk) → h[id]? = some (some blk) := by
    intro id blk hb
    rw [List.getElem?_set] at hb
    split at hb
    · split at hb <;> simp at hb
    · exact hb
  have st : Step (Own β h) w w (Own β (h.set i none)) := ⟨rfl, rfl, rfl, Nat.le_refl _, fun _ _ _ => rfl, fun _ _ => rfl, fun b ⟨id, blk, hb, e⟩ => .inl ⟨id, blk, own id blk hb, e⟩⟩
  have le := s.leOf (β' := β) (h' := h.set i none) st (by simp) (fun _ _ => rfl)
  refine ⟨⟨fun id blk hb => ?_, fun a b ba bb ha hb e => s.inj a b ba bb (own _ _ ha) (own _ _ hb) e, fun b hF ⟨id, blk, hb, e⟩ => s.sep b hF ⟨id, blk, own id blk hb, e⟩, s.flt, fun id hid => s.lt id (by simpa using hid)⟩, st, by simp, fun _ _ => rfl⟩
  obtain ⟨o, ho, hr⟩ := s.live id blk (own id blk hb)
  exact ⟨o, ho, BlkRel.le le hr⟩

/-- A block that is written. -/
theorem St.put {F : Nat → Prop} {β : Nat → Nat} {w : World} {h : Heap} (s : St F β w h) (i : Nat) (old blk : Blk) (hi : h[i]? = some (some old)) (w' : World) (o' : Obj)
    (h1 : w'.os = w.os) (h2 : w'.tape = w.tape) (h3 : w'.output = w.output) (hs : w'.heap.size = w.heap.size) (ho : w'.heap[β i]? = some o') (hk : ∀ b, b ≠ β i → w'.heap[b]? = w.heap[b]?)
    (hsh : w'.shape? (β i) = w.shape? (β i)) (hr : BlkRel (ctx F β w h) blk o') : Goes F β w h β w' (h.set i (some blk)) := by
  have hil : i < h.length := by
    rcases Nat.lt_or_ge i h.length with q | q
    · exact q
    · rw [List.getElem?_eq_none q] at hi; simp at hi
  have own : ∀ (id : Nat) (b : Blk), (h.set i (some blk))[id]? = some (some b) → (id = i ∧ b = blk) ∨ (id ≠ i ∧ h[id]? = some (some b)) := by
    intro id b hb
    rw [List.getElem?_set] at hb
    split at hb
    · rename_i e
      subst e
      simp [hil] at hb
      exact .inl ⟨rfl, hb.symm⟩
    · exact .inr ⟨by omega, hb⟩
  have own2 : ∀ b, Own β (h.set i (some blk)) b → Own β h b := by
    rintro b ⟨id, bk, hb, e⟩
    rcases own id bk hb with ⟨rfl, _⟩ | ⟨_, q⟩
    · exact ⟨id, old, hi, e⟩
    · exact ⟨id, bk, q, e⟩
  have st : Step (Own β h) w w' (Own β (h.set i (some blk))) := by
    refine ⟨h1, h2, h3, by omega, fun b _ hO => hk b fun e => hO ⟨i, old, hi, e.symm⟩, fun b _ => ?_, fun b q => .inl (own2 b q)⟩
    by_cases e : b = β i
    · rw [e]; exact hsh
    · simp [World.shape?, hk b e]
  have le := s.leOf (β' := β) (h' := h.set i (some blk)) st (by simp) (fun _ _ => rfl)
  refine ⟨⟨fun id b hb => ?_, fun a c ba bc ha hc e => ?_, fun b hF q => s.sep b hF (own2 b q), fun b hF => by rw [hs]; exact s.flt b hF, fun id hid => by rw [hs]; exact s.lt id (by simpa using hid)⟩, st, by simp, fun _ _ => rfl⟩
  · rcases own id b hb with ⟨rfl, rfl⟩ | ⟨hne, q⟩
    · exact ⟨o', ho, BlkRel.le le hr⟩
    · obtain ⟨o, hob, hrb⟩ := s.live id b q
      exact ⟨o, by rw [hk _ fun e => hne (s.inj _ _ _ _ q hi e)]; exact hob, BlkRel.le le hrb⟩
  · rcases own a ba ha with ⟨rfl, _⟩ | ⟨_, qa⟩ <;> rcases own c bc hc with ⟨rfl, _⟩ | ⟨_, qc⟩
    · rfl
    · exact s.inj _ _ _ _ hi qc e
    · exact s.inj _ _ _ _ qa hi e
    · exact s.inj _ _ _ _ qa qc e

end Go.AH
