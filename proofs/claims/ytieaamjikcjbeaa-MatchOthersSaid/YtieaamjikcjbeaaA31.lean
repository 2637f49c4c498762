/- Walks in a round, and of what is ranged over: states. No condition. -/
import Derived.Test.YtieaamjikcjbeaaA25
import Derived.RangeFuncLeaves
import Derived.RangeFuncRecord
namespace Go.AH
open Go
set_option linter.unusedVariables false
set_option linter.unusedSimpArgs false

/-! ### walks in a round, and walks of what is ranged over -/
/-- The fence of such a walk: none but the round that it is in. -/
def XF : Option Nat → Fence
  | none => Fence.wide
  | some l => Fence.wide.inRound l
theorem XF_fn (ρ : Option Nat) (f : FuncId) : (XF ρ).fn f := by cases ρ <;> trivial
theorem XF_depth (ρ : Option Nat) : (XF ρ).depth.isSome = true → False := by cases ρ <;> (intro h; cases h)
theorem XF_round (ρ : Option Nat) : (XF ρ).round = ρ := by cases ρ <;> rfl
theorem XF_room (ρ : Option Nat) (n : Nat) : (XF ρ).room n := by cases ρ <;> exact fun _ h => by cases h
theorem calls_X {ρ : Option Nat} {n : Nat} {P : Program} {f : FuncId} {args : Array Value} {w : World} {R : Ending → World → Prop} (h : Calls P f args w R) : CallsIn (XF ρ) n P f args w R := by
  cases ρ with
  | none => exact callsIn_wide.2 h
  | some l => exact (callsIn_wide (n := n)).2 h
theorem rows_X {ρ : Option Nat} {n : Nat} {P : Program} {row : String} {args : Array Value} {w : World} {R : Value → World → Prop} (h : Rows P row args w R) : RowsIn (XF ρ) n P row args w R := by
  intro c cs _
  obtain ⟨v, w', r, s⟩ := h c cs
  refine ⟨v, w', r, ?_⟩
  cases ρ with
  | none => exact stepsIn_wide.2 s
  | some l => exact stepsIn_wide.2 s
/-- An operation that is no 'defer' does in a round what it does elsewhere. -/
theorem Oper.wpX {ρ : Option Nat} {P : Program} {o : Oper} {a : Act} {w : World} {N : Act → World → Prop} {Q : Exit → Act → World → Prop} (h : o.wp P a w N Q) (hd : ∀ c, o.op ≠ .defer c) : o.wpIn (XF ρ) 0 P a w N Q := by
  refine ⟨fun f _ => XF_fn ρ f, ?_⟩
  rw [Oper.semAt_eq _ _ _ hd]
  unfold Oper.wp at h
  generalize (execOp a.eval o).run P w = r at h ⊢
  cases r with
  | ok n w' =>
    cases n <;> first | exact h | exact ⟨fun q => (XF_depth ρ q).elim, calls_X h⟩ | exact ⟨fun q => (XF_depth ρ q).elim, rows_X h⟩ | exact h.elim
  | halt s w' => cases s <;> first | exact h | exact h.elim

/-- A loop whose rounds are asked for from within what it ranges over. -/
structure YR (n0 : Nat) where
  l : Nat
  K : Nat
  fn : FuncId
  tm : Array Value
  R : List AV
  p : Tmp
  assign : Code
  body : Code
  ok : ∀ m : Nat → Nat, (∀ id, id < n0 → m id = id) → LeL m R R
/-- How it stands with it: it may be asked for more, or has been left. -/
inductive YS where
  | rd
  | dn (c : Code)
section
variable {n0 : Nat}
def YR.lp (y : YR n0) (st : LoopState) (pe : Option Code) : Loop := { state := st, pending := pe, fn := y.fn, tmps := y.tm, params := #[y.p], assign := y.assign, body := y.body, defers := y.K }
def YR.obj (y : YR n0) : YS → Obj
  | .rd => .loop (y.lp .ready none)
  | .dn c => .loop (y.lp .done (some c))
def isL (e : Option (YR n0)) (b : Nat) : Prop := ∃ y, e = some y ∧ b = y.l
def mark (k : Nat) : Deferred := { target := .collected k, args := #[] }
/-- The deferred calls: marks of loops that were ranged over, ahead of what was there. -/
def MK (B : Nat) (D ds : List Deferred) (w : World) : Prop := ∃ ks : List Nat, ds = ks.map mark ++ D ∧ ks.Nodup ∧ ∀ k ∈ ks, B ≤ k ∧ w.heap[k]? = some (.deferred (some []))
def JOK (e : Option (YR n0)) (F : Nat → Prop) (β : Nat → Nat) (w : World) (h : Heap) (s : YS) : Prop := ∀ y, e = some y → w.heap[y.l]? = some (y.obj s) ∧ RelL (ctx F β w h) y.R y.tm.toList
structure GetsX (e : Option (YR n0)) (F : Nat → Prop) (β : Nat → Nat) (w : World) (h : Heap) (β' : Nat → Nat) (w' : World) (h' : Heap) : Prop where
  st : St F β' w' h'
  step : Step (fun b => Own β h b ∨ isL e b) w w' (fun b => Own β' h' b ∨ isL e b)
  len : n0 ≤ h'.length
  β : ∀ id, id < n0 → β' id = β id
variable {e : Option (YR n0)} {F : Nat → Prop} {β β' β'' : Nat → Nat} {w w' w'' : World} {h h' h'' : Heap} {s s' : YS} {D ds : List Deferred}

theorem mk_nil (B : Nat) (D : List Deferred) (w : World) : MK B D D w := ⟨[], rfl, List.nodup_nil, by simp⟩
theorem jok_none (F : Nat → Prop) (β : Nat → Nat) (w : World) (h : Heap) (s : YS) : JOK (none : Option (YR n0)) F β w h s := fun _ h => by cases h
/-- What is owned is neither. -/
theorem St.ownObj (st : St F β w h) {b : Nat} (hb : Own β h b) : (∀ q, w.heap[b]? ≠ some (.deferred q)) ∧ ∀ r, w.heap[b]? ≠ some (.loop r) := by
  obtain ⟨id, blk, hi, rfl⟩ := hb
  obtain ⟨o, ho, hr⟩ := st.live id blk hi
  rw [ho]
  cases blk with
  | row cs e wh => obtain ⟨vs, fz, rfl, _⟩ := hr; exact ⟨fun q => by simp, fun r => by simp⟩
  | mp es c => obtain ⟨l, rfl, _⟩ := hr; exact ⟨fun q => by simp, fun r => by simp⟩
  | siter s p => cases hr; exact ⟨fun q => by simp, fun r => by simp⟩
theorem lt_heap {b : Nat} {o : Obj} (hb : w.heap[b]? = some o) : b < w.heap.size := by
  rcases Nat.lt_or_ge b w.heap.size with q | q
  · exact q
  · rw [Array.getElem?_eq_none q] at hb; cases hb
theorem YR.obj_loop (y : YR n0) (s : YS) : ∃ r, y.obj s = .loop r := by cases s <;> exact ⟨_, rfl⟩

theorem Step.addL {O O' : Nat → Prop} {L : Nat → Prop} (k : Step O w w' O') : Step (fun b => O b ∨ L b) w w' (fun b => O' b ∨ L b) :=
  ⟨k.os, k.tape, k.output, k.size, fun b hb hO => k.keep b hb fun q => hO (.inl q), k.shape, fun b q => q.elim (fun q => (k.own b q).imp .inl id) (fun q => .inl (.inr q))⟩
theorem Goes.getsX (g : Goes F β w h β' w' h') (hn : n0 ≤ h.length) : GetsX e F β w h β' w' h' := ⟨g.st, g.step.addL, Nat.le_trans hn g.len, fun id hid => g.β id (Nat.lt_of_lt_of_le hid hn)⟩
theorem Gets.getsX (g : Gets n0 F β w h β' w' h') : GetsX e F β w h β' w' h' := ⟨g.st, g.step.addL, g.len, g.β⟩
theorem GetsX.trans (g : GetsX e F β w h β' w' h') (k : GetsX e F β' w' h' β'' w'' h'') : GetsX e F β w h β'' w'' h'' :=
  ⟨k.st, g.step.trans k.step, k.len, fun id hid => (k.β id hid).trans (g.β id hid)⟩
theorem GetsX.refl (st : St F β w h) (hn : n0 ≤ h.length) : GetsX e F β w h β w h := (Goes.refl st).getsX hn
/-- Without an open loop it is as ever. -/
theorem GetsX.gets (g : GetsX (none : Option (YR n0)) F β w h β' w' h') : Gets n0 F β w h β' w' h' := by
  have nl : ∀ b, ¬ isL (none : Option (YR n0)) b := fun b ⟨y, q, _⟩ => by cases q
  exact ⟨g.st, ⟨g.step.os, g.step.tape, g.step.output, g.step.size, fun b hb hO => g.step.keep b hb fun q => q.elim hO (nl b), g.step.shape, fun b q => (g.step.own b (.inl q)).imp (fun q => q.elim id fun q => (nl b q).elim) id⟩, g.len, g.β⟩
theorem GetsX.goes {e : Option (YR h.length)} (he : e = none) (g : GetsX e F β w h β' w' h') : Goes F β w h β' w' h' := by subst he; exact g.gets.goes

theorem MK.goes {B : Nat} (m : MK B D ds w) (st : St F β w h) (g : Goes F β w h β' w' h') : MK B D ds w' := by
  obtain ⟨ks, h1, h2, h3⟩ := m
  refine ⟨ks, h1, h2, fun k hk => ?_⟩
  refine ⟨(h3 k hk).1, ?_⟩
  rw [g.step.keep k (lt_heap (h3 k hk).2) fun q => (st.ownObj q).1 _ (h3 k hk).2]
  exact (h3 k hk).2
theorem JOK.goes (j : JOK e F β w h s) (st : St F β w h) (g : Goes F β w h β' w' h') : JOK e F β' w' h' s := by
  intro y hy
  obtain ⟨h1, h2⟩ := j y hy
  refine ⟨?_, RelL.le (g.le st) _ _ h2⟩
  obtain ⟨r, hr⟩ := y.obj_loop s
  rw [g.step.keep y.l (lt_heap h1) fun q => (st.ownObj q).2 r (by rw [h1, hr])]
  exact h1
/-- What is no block of cells and none's own is written. -/
theorem St.putN (st : St F β w h) {l : Nat} {o o' : Obj} (hl : w.heap[l]? = some o) (ho : (∃ q, o = .deferred q) ∨ ∃ r, o = .loop r) (ho' : (∃ q, o' = .deferred q) ∨ ∃ r, o' = .loop r) :
    St F β (w.putObj l o') h ∧ (ctx F β w h).le (ctx F β (w.putObj l o') h) ∧ Step (fun b => Own β h b ∨ b = l) w (w.putObj l o') (fun b => Own β h b ∨ b = l) ∧ ¬ Own β h l := by
  have hlt := lt_heap hl
  have hno : ¬ Own β h l := by
    intro q
    rcases ho with ⟨x, rfl⟩ | ⟨x, rfl⟩
    · exact (st.ownObj q).1 _ hl
    · exact (st.ownObj q).2 _ hl
  have sh : ∀ (u : World) (x : Obj), u.heap[l]? = some x → ((∃ q, x = .deferred q) ∨ ∃ r, x = .loop r) → u.shape? l = none ∧ ∀ off, u.cell? ⟨l, off, none⟩ = none := by
    rintro u x hu (⟨q, rfl⟩ | ⟨r, rfl⟩) <;> exact ⟨by simp only [World.shape?, hu], fun off => by simp only [World.cell?, hu]⟩
  have hnew : (w.putObj l o').heap[l]? = some o' := World.putObj_heap_same hlt
  have step : Step (fun b => Own β h b ∨ b = l) w (w.putObj l o') (fun b => Own β h b ∨ b = l) := by
    refine ⟨rfl, rfl, rfl, by simp, fun b hb hO => World.putObj_heap_other fun q => hO (.inr q), fun b hb => ?_, fun b q => .inl q⟩
    by_cases q : b = l
    · subst q
      rw [(sh w o hl ho).1, (sh _ o' hnew ho').1]
    · simp only [World.shape?, World.putObj_heap_other q]
  have le : (ctx F β w h).le (ctx F β (w.putObj l o') h) := by
    refine ⟨Nat.le_refl _, fun _ _ => rfl, st.lt, by simp, fun b off y hb hN hc => ?_, step.shape, fun b q => .inl q⟩
    by_cases q : b = l
    · subst q; rw [(sh w o hl ho).2] at hc; cases hc
    · simp only [World.cell?, World.putObj_heap_other q] at hc ⊢; exact hc
  refine ⟨⟨fun id blk hb => ?_, st.inj, st.sep, fun b hb => by simpa using st.flt b hb, fun id hid => by simpa using st.lt id hid⟩, le, step, hno⟩
  obtain ⟨x, hx, hr⟩ := st.live id blk hb
  refine ⟨x, ?_, BlkRel.le le hr⟩
  rw [World.putObj_heap_other]
  · exact hx
  · intro q
    exact hno ⟨id, blk, hb, q⟩
/-- The loop's record is written. -/
theorem St.putL (st : St F β w h) {l : Nat} {r : Loop} (hl : w.heap[l]? = some (.loop r)) (r' : Loop) :
    St F β (w.putObj l (.loop r')) h ∧ (ctx F β w h).le (ctx F β (w.putObj l (.loop r')) h) ∧ Step (fun b => Own β h b ∨ b = l) w (w.putObj l (.loop r')) (fun b => Own β h b ∨ b = l) :=
  let ⟨h1, h2, h3, _⟩ := st.putN hl (.inr ⟨_, rfl⟩) (.inr ⟨r', rfl⟩)
  ⟨h1, h2, h3⟩
/-- A block that none names. -/
theorem St.aside (st : St F β w h) (o : Obj) : Goes F β w h β (w.alloc o) h := by
  have hk : ∀ b, b < w.heap.size → (w.alloc o).heap[b]? = w.heap[b]? := fun b hb => Go.RowKit.Below.heap_alloc w o b hb
  have step : Step (Own β h) w (w.alloc o) (Own β h) := ⟨rfl, rfl, rfl, by simp, fun b hb _ => hk b hb, fun b hb => by simp only [World.shape?, hk b hb], fun b q => .inl q⟩
  have le := st.leOf (β' := β) (h' := h) step (Nat.le_refl _) (fun _ _ => rfl)
  refine ⟨⟨fun id blk hb => ?_, st.inj, st.sep, fun b hb => by have := st.flt b hb; simp; omega, fun id hid => by have := st.lt id hid; simp; omega⟩, step, Nat.le_refl _, fun _ _ => rfl⟩
  obtain ⟨x, hx, hr⟩ := st.live id blk hb
  exact ⟨x, by rw [hk _ (st.lt id (lt_of_some hb))]; exact hx, BlkRel.le le hr⟩
/-- The marks' blocks are shut. -/
def shut : List Nat → World → World
  | [], w => w
  | k :: ks, w => shut ks (w.putObj k (.deferred none))
theorem St.shut {w0 : World} {O : Nat → Prop} : ∀ (ks : List Nat) (w : World), St F β w h → ks.Nodup → (∀ k ∈ ks, w0.heap.size ≤ k ∧ w.heap[k]? = some (.deferred (some []))) → Step O w0 w (Own β h) →
    St F β (Go.AH.shut ks w) h ∧ (ctx F β w h).le (ctx F β (Go.AH.shut ks w) h) ∧ Step O w0 (Go.AH.shut ks w) (Own β h) ∧ (∀ b, b ∉ ks → (Go.AH.shut ks w).heap[b]? = w.heap[b]?) ∧ (Go.AH.shut ks w).heap.size = w.heap.size
  | [], w, st, _, _, k => ⟨st, ⟨Nat.le_refl _, fun _ _ => rfl, st.lt, Nat.le_refl _, fun _ _ _ _ _ h => h, fun _ _ => rfl, fun _ h => .inl h⟩, k, fun _ _ => rfl, rfl⟩
  | x :: ks, w, st, nd, hk, k => by
    rw [List.nodup_cons] at nd
    obtain ⟨h1, h2⟩ := hk x (by simp)
    obtain ⟨st1, le1, step1, hno⟩ := st.putN h2 (.inl ⟨_, rfl⟩) (o' := .deferred none) (.inl ⟨_, rfl⟩)
    have k1 : Step O w0 (w.putObj x (.deferred none)) (Own β h) := by
      refine ⟨k.os, k.tape, k.output, by simpa using k.size, fun b hb hO => ?_, fun b hb => ?_, k.own⟩
      · rw [World.putObj_heap_other (by omega)]; exact k.keep b hb hO
      · rw [← k.shape b hb]; exact step1.shape b (Nat.lt_of_lt_of_le hb k.size)
    obtain ⟨st2, le2, step2, hk2, hs2⟩ := St.shut ks _ st1 nd.2 (fun y hy => ⟨(hk y (by simp [hy])).1, by rw [World.putObj_heap_other (by intro q; subst q; exact nd.1 hy)]; exact (hk y (by simp [hy])).2⟩) k1
    refine ⟨st2, ?_, step2, fun b hb => ?_, by rw [Go.AH.shut, hs2]; simp⟩
    · refine ⟨Nat.le_refl _, fun _ _ => rfl, st.lt, Nat.le_trans le1.size le2.size, fun b o y hb hN hc => le2.keep b o y (Nat.lt_of_lt_of_le hb le1.size) hN (le1.keep b o y hb hN hc), fun b hb => (le2.shape b (Nat.lt_of_lt_of_le hb le1.size)).trans (le1.shape b hb), fun b q => .inl q⟩
    · rw [Go.AH.shut, hk2 b (fun q => hb (by simp [q])), World.putObj_heap_other (fun q => hb (by simp [q]))]
end
end Go.AH
