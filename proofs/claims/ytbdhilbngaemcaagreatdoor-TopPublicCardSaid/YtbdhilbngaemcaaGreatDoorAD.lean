/- Regions that draw their order. No condition. -/
import Derived.Test.YtbdhilbngaemcaaGreatDoorAC
set_option linter.unusedVariables false
set_option linter.unusedSimpArgs false
namespace Go.AH
open Go

theorem ev0_congr {P : Program} {ρ ρ' : Operand → AV} (op : Op) (h : Heap) (hx : ∀ x ∈ op.operands, ρ x = ρ' x) : ev0 P ρ op h = ev0 P ρ' op h := by
  have opt : ∀ (o : Option Operand), (∀ x ∈ o.toArray, ρ x = ρ' x) → o.map ρ = o.map ρ' := by
    intro o ho
    cases o with
    | none => rfl
    | some x => simp only [Option.map_some]; rw [ho x (by simp)]
  cases op <;> simp only [ev0]
  case move x => rw [hx x (by simp [Op.operands])]
  case assign x => rw [hx x (by simp [Op.operands])]
  case pick c a b => rw [hx c (by simp [Op.operands]), hx a (by simp [Op.operands]), hx b (by simp [Op.operands])]
  case box t x => rw [hx x (by simp [Op.operands])]
  case build t parts =>
    congr 2
    apply List.map_congr_left
    intro p hp
    rw [hx p.2 (by simp only [Op.operands, List.mem_toArray, List.mem_map]; exact ⟨p, hp, rfl⟩)]
  case buildSlice t len parts =>
    congr 1
    apply List.map_congr_left
    intro p hp
    rw [hx p.2 (by simp only [Op.operands, List.mem_toArray, List.mem_map]; exact ⟨p, hp, rfl⟩)]
  case load t x => rw [hx x (by simp [Op.operands])]
  case store t a x => rw [hx a (by simp [Op.operands]), hx x (by simp [Op.operands])]
  case nilCheck x => rw [hx x (by simp [Op.operands])]
  case binOp op t x y ty => rw [hx x (by simp [Op.operands]), hx y (by simp [Op.operands])]
  case unOp op t x => rw [hx x (by simp [Op.operands])]
  case convert s d x => rw [hx x (by simp [Op.operands])]
  case makeInterface t x => rw [hx x (by simp [Op.operands])]
  case makeFunc fn first caps =>
    have e : caps.toList.map ρ = caps.toList.map ρ' := List.map_congr_left fun x hm => hx x (by simp only [Op.operands, Array.mem_append]; exact .inr (by simpa using hm))
    rw [e]
  case slice t x lo hi mx =>
    rw [hx x (by simp [Op.operands]), opt lo fun y hy => hx y (by simp only [Op.operands, Array.mem_append]; exact .inl (.inl (.inr hy))), opt hi fun y hy => hx y (by simp only [Op.operands, Array.mem_append]; exact .inl (.inr hy)),
      opt mx fun y hy => hx y (by simp only [Op.operands, Array.mem_append]; exact .inr hy)]
  case fieldAddr t x f => rw [hx x (by simp [Op.operands])]
  case field t x f => rw [hx x (by simp [Op.operands])]
  case indexAddr t x i => rw [hx x (by simp [Op.operands]), hx i (by simp [Op.operands])]
  case index t x i => rw [hx x (by simp [Op.operands]), hx i (by simp [Op.operands])]
  case extract x i => rw [hx x (by simp [Op.operands])]
  case call c =>
    cases hc : c.callee <;> simp only
    have e : c.args.toList.map ρ = c.args.toList.map ρ' := List.map_congr_left fun x hm => hx x (by simp only [Op.operands, Call.operands, Array.mem_append]; exact .inr (by simpa using hm))
    rw [e]

theorem ev2_congr {P : Program} {ρ ρ' : Operand → AV} (op : Op) (h : Heap) (hx : ∀ x ∈ op.operands, ρ x = ρ' x) : ev2 P ρ op h = ev2 P ρ' op h := by
  have opt : ∀ (o : Option Operand), (∀ x ∈ o.toArray, ρ x = ρ' x) → o.map ρ = o.map ρ' := by
    intro o ho
    cases o with
    | none => rfl
    | some x => simp only [Option.map_some]; rw [ho x (by simp)]
  cases op <;> simp only [ev2]
  case load t x => rw [hx x (by simp [Op.operands])]
  case unOp op t x => rw [hx x (by simp [Op.operands])]
  case indexAddr t x i => rw [hx x (by simp [Op.operands]), hx i (by simp [Op.operands])]
  case range t x => rw [hx x (by simp [Op.operands])]
  case next it b => rw [hx it (by simp [Op.operands])]
  case makeMap t r => rw [opt r fun y hy => hx y (by simpa [Op.operands] using hy)]
  case insert t m k x => rw [hx m (by simp [Op.operands]), hx k (by simp [Op.operands]), hx x (by simp [Op.operands])]
  case mapUpdate t m k x => rw [hx m (by simp [Op.operands]), hx k (by simp [Op.operands]), hx x (by simp [Op.operands])]
  case lookup t x i ok => rw [hx x (by simp [Op.operands]), hx i (by simp [Op.operands])]
  case makeSlice t l n => rw [hx l (by simp [Op.operands]), hx n (by simp [Op.operands])]
  case makeFunc fn first caps =>
    have e : first.toList.map ρ = first.toList.map ρ' := List.map_congr_left fun x hm => hx x (by simp only [Op.operands, Array.mem_append]; exact .inl (by simpa using hm))
    rw [e]
  case sliceToArrayPointer t x => rw [hx x (by simp [Op.operands])]
  case convert s d x => rw [hx x (by simp [Op.operands])]
  case binOp op t x y ty => rw [hx x (by simp [Op.operands]), hx y (by simp [Op.operands])]
  case index t x i => rw [hx x (by simp [Op.operands]), hx i (by simp [Op.operands])]
  case slice t x lo hi mx =>
    rw [hx x (by simp [Op.operands]), opt lo fun y hy => hx y (by simp only [Op.operands, Array.mem_append]; exact .inl (.inl (.inr hy))), opt hi fun y hy => hx y (by simp only [Op.operands, Array.mem_append]; exact .inl (.inr hy)),
      opt mx fun y hy => hx y (by simp only [Op.operands, Array.mem_append]; exact .inr hy)]
  case call c =>
    cases hc : c.callee <;> simp only
    have e : c.args.toList.map ρ = c.args.toList.map ρ' := List.map_congr_left fun x hm => hx x (by simp only [Op.operands, Call.operands, Array.mem_append]; exact .inr (by simpa using hm))
    rw [e]

theorem ev_congr {P : Program} {ρ ρ' : Operand → AV} (op : Op) (h : Heap) (hx : ∀ x ∈ op.operands, ρ x = ρ' x) : ev P ρ op h = ev P ρ' op h := by
  unfold ev
  rw [ev0_congr op h hx]
  cases ev0 P ρ' op h with
  | some r => rfl
  | none => exact ev2_congr op h hx

theorem sOp_congr {P : Program} {T T' : List AV} (op : Op) (h : Heap) {next pan : AV → Heap → Prop} (hx : ∀ x ∈ op.operands, aEval T x = aEval T' x) (hs : sOp P op T h next pan) : sOp P op T' h next pan := by
  cases op
  case call c =>
    simp only [sOp] at hs ⊢
    have e : c.args.toList.map (aEval T) = c.args.toList.map (aEval T') := List.map_congr_left fun x hm => hx x (by simp only [Op.operands, Call.operands, Array.mem_append]; exact .inr (by simpa using hm))
    rw [← e]
    cases hc : c.callee with
    | value f =>
      rw [hc] at hs
      simp only at hs ⊢
      rw [← hx f (by simp [Op.operands, Call.operands, hc])]
      exact hs
    | builtin b => rw [hc] at hs; exact hs
    | invoke r m => rw [hc] at hs; exact hs.elim
  all_goals
    simp only [sOp] at hs ⊢
    rw [← ev_congr (P := P) _ h hx]
    exact hs

/-- HOW A REGION THAT DRAWS ITS ORDER IS WALKED: the operations with an effect, in their one order; which others come ahead of each; what every operation waits for; which are asked again. -/
structure Plan where
  eff : List Nat
  ns : List (List Nat)
  fs : List (List Nat)
  anc : List (List Nat)

def tmpsOf (o : Oper) : List Tmp := o.op.operands.toList.filterMap fun | .tmp t => some t | _ => none

def guardTmp (ops : List Oper) (o : Oper) : List Tmp := match o.guard with
  | none => []
  | some (j, _) => ((ops[j]?).bind (·.dst)).toList

def reads (ops : List Oper) (o : Oper) : List Tmp := tmpsOf o ++ guardTmp ops o

def notCall : Op → Bool
  | .call c => match c.callee with | .builtin _ => true | _ => false
  | _ => true

/-- Of the operations that are ancestors: each is one that is waited for, or an ancestor of one. -/
def ancOk (ops : List Oper) (pl : Plan) : Bool := (List.range ops.length).all fun i =>
  (pl.anc.getD i []).all fun j => (ops.getD i default).after.toList.any fun e => Region.binds .any e && decide (e.on < i) && (e.on == j || (pl.anc.getD e.on []).contains j)

def planOk (ops : List Oper) (pl : Plan) : Bool :=
  ancOk ops pl &&
  -- every operation has its place
  ((List.range ops.length).all fun i => pl.eff.contains i || pl.ns.any (·.contains i)) &&
  (pl.eff.all fun i => decide (i < ops.length) && pl.ns.all fun l => !l.contains i) &&
  -- an operation waits for those that its number is greater than
  ((List.range ops.length).all fun i => (ops.getD i default).after.toList.all fun e => !Region.binds .any e || decide (e.on < i)) &&
  decide pl.eff.Nodup &&
  -- the effects are a chain
  ((List.range (pl.eff.length - 1)).all fun k => (pl.anc.getD (pl.eff.getD (k + 1) 0) []).contains (pl.eff.getD k 0)) &&
  decide (pl.ns.length = pl.eff.length + 1) && decide (pl.fs.length = pl.eff.length + 1) &&
  -- what stands behind an effect waits for it
  ((List.range (pl.eff.length + 1)).all fun k => (pl.ns.getD k []).all fun i => decide (i < ops.length) && (k == 0 || (pl.anc.getD i []).contains (pl.eff.getD (k - 1) 0)) && notCall (ops.getD i default).op && (ops.getD i default).dst.isSome) &&
  -- what an operation reads, it has waited for
  ((List.range ops.length).all fun i => (reads ops (ops.getD i default)).all fun t => (List.range ops.length).all fun j =>
    pl.eff.contains j || (ops.getD j default).dst != some t || (pl.anc.getD i []).contains j) &&
  -- a slot is written once, but by effects
  ((List.range ops.length).all fun i => pl.eff.contains i || (List.range ops.length).all fun j => i == j || (ops.getD i default).dst != (ops.getD j default).dst) &&
  -- who may yet come is asked again
  ((List.range (pl.eff.length + 1)).all fun k => (List.range (k + 1)).all fun k' => (pl.ns.getD k' []).all fun i =>
    (pl.fs.getD k []).contains i || (List.range k).any fun j => (pl.anc.getD (pl.eff.getD j 0) []).contains i)

def nsRun (P : Program) (ops : List SOp) : List Nat → List AV → Heap → Option (List AV)
  | [], T, _ => some T
  | i :: is, T, h => match ops[i]? with
    | none => none
    | some o => match sGuard T o.g with
      | some true => match ev P (aEval T) o.op h with
        | some (v, _) => nsRun P ops is (aPut T o.dst v) h
        | none => none
      | some false => nsRun P ops is (aPut T o.dst (.tup [])) h
      | none => none

/-- Asked again, an operation gives what it gave. -/
def again1 (P : Program) (ops : List SOp) (T : List AV) (h : Heap) (i : Nat) : Prop := match ops[i]? with
  | none => False
  | some o => match o.dst with
    | none => False
    | some d => match T[d]? with
      | none => False
      | some v => match sGuard T o.g with
        | some true => ev P (aEval T) o.op h = some (v, h)
        | some false => v = .tup []
        | none => False

def again (P : Program) (ops : List SOp) (T : List AV) (h : Heap) : List Nat → Prop
  | [] => True
  | i :: is => again1 P ops T h i ∧ again P ops T h is

theorem again_mem {P : Program} {ops : List SOp} {T : List AV} {h : Heap} : ∀ {l : List Nat}, again P ops T h l → ∀ i ∈ l, again1 P ops T h i
  | [], _, i, hi => by simp at hi
  | j :: l, ⟨h1, h2⟩, i, hi => by
    rw [List.mem_cons] at hi
    rcases hi with rfl | hi
    · exact h1
    · exact again_mem h2 i hi

/-- The walk, in the plan's order. -/
def sDraw (P : Program) (ops : List SOp) (K : AExit → List AV → Heap → Prop) : List Nat → List (List Nat) → List (List Nat) → List AV → Heap → Prop
  | [], n :: _, f :: _, T, h => match nsRun P ops n T h with
    | none => False
    | some T1 => again P ops T1 h f ∧ K .normal T1 h
  | e :: es, n :: ns, f :: fs, T, h => match nsRun P ops n T h with
    | none => False
    | some T1 => again P ops T1 h f ∧ match ops[e]? with
      | none => False
      | some o => match sGuard T1 o.g with
        | some true => sOp P o.op T1 h (fun v h' => sDraw P ops K es ns fs (aPut T1 o.dst v) h') (fun v h' => K (.pan v) (List.replicate T1.length .unk) h')
        | some false => sDraw P ops K es ns fs (aPut T1 o.dst (.tup [])) h
        | none => False
  | _, _, _, _, _ => False

/-- What is to come when the operations ahead of the next effect are done. -/
def Cont (P : Program) (ops : List SOp) (K : AExit → List AV → Heap → Prop) (es : List Nat) (ns fs : List (List Nat)) (T : List AV) (h : Heap) : Prop := match es with
  | [] => K .normal T h
  | e :: es => match ops[e]? with
    | none => False
    | some o => match sGuard T o.g with
      | some true => sOp P o.op T h (fun v h' => sDraw P ops K es ns fs (aPut T o.dst v) h') (fun v h' => K (.pan v) (List.replicate T.length .unk) h')
      | some false => sDraw P ops K es ns fs (aPut T o.dst (.tup [])) h
      | none => False

theorem sDraw_cont {P : Program} {ops : List SOp} {K : AExit → List AV → Heap → Prop} {es : List Nat} {ns fs : List (List Nat)} {T : List AV} {h : Heap} (hs : sDraw P ops K es ns fs T h) :
    ∃ n ns' f fs' T1, ns = n :: ns' ∧ fs = f :: fs' ∧ nsRun P ops n T h = some T1 ∧ again P ops T1 h f ∧ Cont P ops K es ns' fs' T1 h := by
  cases ns with
  | nil => cases es <;> simp [sDraw] at hs
  | cons n ns => cases fs with
    | nil => cases es <;> simp [sDraw] at hs
    | cons f fs => cases es with
      | nil =>
        simp only [sDraw] at hs
        split at hs
        · exact hs.elim
        · exact ⟨_, _, _, _, _, rfl, rfl, by assumption, hs.1, hs.2⟩
      | cons e es =>
        simp only [sDraw] at hs
        split at hs
        · exact hs.elim
        · exact ⟨_, _, _, _, _, rfl, rfl, by assumption, hs.1, hs.2⟩

theorem nsRun_length {P : Program} {ops : List SOp} : ∀ {is : List Nat} {T T1 : List AV} {h : Heap}, nsRun P ops is T h = some T1 → T1.length = T.length
  | [], _, _, _, h => by simp [nsRun] at h; rw [h]
  | i :: is, T, T1, hh, h => by
    have hp : ∀ d v, (aPut T d v).length = T.length := by intro d v; cases d <;> simp [aPut]
    unfold nsRun at h
    split at h <;> try (cases h; done)
    split at h <;> try (cases h; done)
    · split at h <;> try (cases h; done)
      rw [nsRun_length h, hp]
    · rw [nsRun_length h, hp]

/-- Slots that none of the operations writes are as they were. -/
theorem nsRun_other {P : Program} {ops : List SOp} {t : Nat} : ∀ {is : List Nat} {T T1 : List AV} {h : Heap}, nsRun P ops is T h = some T1 → (∀ i ∈ is, ∀ o, ops[i]? = some o → o.dst ≠ some t) → T1[t]? = T[t]?
  | [], _, _, _, h, _ => by simp [nsRun] at h; rw [h]
  | i :: is, T, T1, hh, h, hn => by
    unfold nsRun at h
    split at h <;> try (cases h; done)
    rename_i o ho
    have hp : ∀ v, (aPut T o.dst v)[t]? = T[t]? := by
      intro v
      have := hn i (by simp) o ho
      cases hd : o.dst with
      | none => rfl
      | some d => rw [hd] at this; simp only [aPut]; rw [List.getElem?_set_ne (by intro e; exact this (by rw [e]))]
    split at h <;> try (cases h; done)
    · split at h <;> try (cases h; done)
      rw [nsRun_other h (fun j hj => hn j (by simp [hj])), hp]
    · rw [nsRun_other h (fun j hj => hn j (by simp [hj])), hp]

/-- A frame of which some slots aren't known. -/
noncomputable def mask (p : Nat → Prop) (T : List AV) : List AV := open Classical in T.mapIdx fun t x => if p t then .unk else x

theorem mask_get (p : Nat → Prop) (T : List AV) (t : Nat) (hp : ¬ p t) : (mask p T)[t]? = T[t]? := by
  unfold mask
  rw [List.getElem?_mapIdx]
  cases T[t]? with
  | none => rfl
  | some x => simp [hp]

theorem mask_rel {c : Ctx} {p : Nat → Prop} {T : List AV} {vs : List Value} (hl : T.length = vs.length) (h : ∀ (t : Nat) (x : AV), T[t]? = some x → ¬ p t → ∃ y, vs[t]? = some y ∧ Rel c x y) : RelL c (mask p T) vs := by
  refine relL_of_get (by unfold mask; simpa using hl) fun i x y hx hy => ?_
  unfold mask at hx
  rw [List.getElem?_mapIdx] at hx
  rw [Option.map_eq_some_iff] at hx
  obtain ⟨x0, h0, rfl⟩ := hx
  by_cases hp : p i
  · simp only [hp, if_true]; exact trivial
  · simp only [hp, if_false]
    obtain ⟨y', hy', r⟩ := h i x0 h0 hp
    rw [hy] at hy'
    cases hy'
    exact r

end Go.AH
namespace Go.AH
open Go

theorem all_range {n : Nat} {p : Nat → Bool} (h : (List.range n).all p = true) {i : Nat} (hi : i < n) : p i = true := List.all_eq_true.1 h i (List.mem_range.2 hi)

structure PlanP (ops : List Oper) (pl : Plan) : Prop where
  anc : ancOk ops pl = true
  place : ∀ i, i < ops.length → i ∈ pl.eff ∨ ∃ (k : Nat) (l : List Nat), pl.ns[k]? = some l ∧ i ∈ l
  eff : ∀ i ∈ pl.eff, i < ops.length ∧ ∀ (k : Nat) (l : List Nat), pl.ns[k]? = some l → i ∉ l
  ahead : ∀ i, i < ops.length → ∀ e ∈ (ops.getD i default).after, Region.binds .any e = true → e.on < i
  nodup : pl.eff.Nodup
  chain : ∀ k, k + 1 < pl.eff.length → pl.eff.getD k 0 ∈ pl.anc.getD (pl.eff.getD (k + 1) 0) []
  nsl : pl.ns.length = pl.eff.length + 1
  fsl : pl.fs.length = pl.eff.length + 1
  ns : ∀ k, k ≤ pl.eff.length → ∀ i ∈ pl.ns.getD k [], i < ops.length ∧ (k = 0 ∨ pl.eff.getD (k - 1) 0 ∈ pl.anc.getD i []) ∧ notCall (ops.getD i default).op = true ∧ (ops.getD i default).dst.isSome = true
  reads : ∀ i, i < ops.length → ∀ t ∈ reads ops (ops.getD i default), ∀ j, j < ops.length → j ∈ pl.eff ∨ (ops.getD j default).dst ≠ some t ∨ j ∈ pl.anc.getD i []
  once : ∀ i, i < ops.length → i ∉ pl.eff → ∀ j, j < ops.length → i = j ∨ (ops.getD i default).dst ≠ (ops.getD j default).dst
  asked : ∀ k, k ≤ pl.eff.length → ∀ k', k' ≤ k → ∀ i ∈ pl.ns.getD k' [], i ∈ pl.fs.getD k [] ∨ ∃ j, j < k ∧ i ∈ pl.anc.getD (pl.eff.getD j 0) []

theorem planP {ops : List Oper} {pl : Plan} (h : planOk ops pl = true) : PlanP ops pl := by
  unfold planOk at h
  simp only [Bool.and_eq_true] at h
  obtain ⟨⟨⟨⟨⟨⟨⟨⟨⟨⟨⟨h1, h2⟩, h3⟩, h4⟩, h5⟩, h6⟩, h7⟩, h8⟩, h9⟩, h10⟩, h11⟩, h12⟩ := h
  refine ⟨h1, fun i hi => ?_, fun i hi => ?_, fun i hi e he hb => ?_, by simpa using h5, fun k hk => ?_, by simpa using h7, by simpa using h8, fun k hk i hi => ?_, fun i hi t ht j hj => ?_, fun i hi hne j hj => ?_, fun k hk k' hk' i hi => ?_⟩
  · have := all_range h2 hi
    simp only [Bool.or_eq_true, List.contains_iff_mem, List.any_eq_true] at this
    rcases this with q | ⟨l, hl, q⟩
    · exact .inl q
    · obtain ⟨k, hk⟩ := List.getElem?_of_mem hl
      exact .inr ⟨k, l, hk, by simpa using q⟩
  · have := List.all_eq_true.1 h3 i hi
    simp only [Bool.and_eq_true, decide_eq_true_eq, List.all_eq_true] at this
    refine ⟨this.1, fun k l hl q => ?_⟩
    have := this.2 l (List.mem_of_getElem? hl)
    simp at this
    exact this q
  · have := List.all_eq_true.1 (all_range h4 hi) e (by simpa using he)
    simpa [hb] using this
  · have := all_range h6 (i := k) (by omega)
    simpa using this
  · have := List.all_eq_true.1 (all_range h9 (i := k) (by omega)) i hi
    simp only [Bool.and_eq_true, decide_eq_true_eq, Bool.or_eq_true, beq_iff_eq, List.contains_iff_mem] at this
    exact ⟨this.1.1.1, this.1.1.2, this.1.2, this.2⟩
  · have := all_range (List.all_eq_true.1 (all_range h10 hi) t ht) hj
    simp only [Bool.or_eq_true, List.contains_iff_mem, bne_iff_ne] at this
    rcases this with (q | q) | q
    · exact .inl q
    · exact .inr (.inl q)
    · exact .inr (.inr q)
  · have := all_range h11 hi
    simp only [Bool.or_eq_true, List.contains_iff_mem] at this
    have := all_range (this.resolve_left hne) hj
    simpa using this
  · have := List.all_eq_true.1 (all_range (all_range h12 (i := k) (by omega)) (i := k') (by omega)) i hi
    simp only [Bool.or_eq_true, List.contains_iff_mem, List.any_eq_true, List.mem_range] at this
    exact this

section
variable {P : Program} {ops : Array Oper} {pl : Plan}

/-- What is done waits for what it waits for. -/
def Closed (ops : Array Oper) (L : Array Bool) : Prop := ∀ i, i < ops.size → L.getD i false = true → ∀ e ∈ (ops.toList.getD i default).after, Region.binds .any e = true → L.getD e.on false = true

theorem anc_done (hp : PlanP ops.toList pl) {L : Array Bool} (hc : Closed ops L) : ∀ (i : Nat), i < ops.size → (∀ e ∈ (ops.toList.getD i default).after, Region.binds .any e = true → L.getD e.on false = true) → ∀ j ∈ pl.anc.getD i [], L.getD j false = true := by
  intro i
  induction i using Nat.strongRecOn with
  | _ i ih =>
    intro hi hpre j hj
    have h1 := hp.anc
    unfold ancOk at h1
    have h2 := List.all_eq_true.1 (all_range h1 (i := i) (by simpa using hi)) j hj
    rw [List.any_eq_true] at h2
    obtain ⟨e, he, h3⟩ := h2
    simp only [Bool.and_eq_true, decide_eq_true_eq, Bool.or_eq_true, beq_iff_eq, List.contains_iff_mem] at h3
    obtain ⟨⟨hb, hlt⟩, h4⟩ := h3
    have hon := hpre e (by simpa using he) hb
    rcases h4 with rfl | h4
    · exact hon
    · exact ih e.on hlt (by omega) (hc e.on (by omega) hon) j h4

theorem slim_get {i : Nat} {o : Oper} (ho : ops[i]? = some o) : (slim ops.toList)[i]? = some (slim1 (ops.toList.map (·.dst)) o) := by
  unfold slim
  rw [List.getElem?_map, Array.getElem?_toList, ho]
  rfl

theorem getD_of {i : Nat} {o : Oper} (ho : ops[i]? = some o) : ops.toList.getD i default = o := by
  rw [List.getD, Array.getElem?_toList, ho]
  rfl

theorem sGuard_congr {T T' : List AV} {o : Oper} (h : ∀ t ∈ guardTmp ops.toList o, T[t]? = T'[t]?) : sGuard T (slim1 (ops.toList.map (·.dst)) o).g = sGuard T' (slim1 (ops.toList.map (·.dst)) o).g := by
  rw [← sGuard_eq, ← sGuard_eq]
  unfold aGuard
  cases hg : o.guard with
  | none => rfl
  | some jw =>
    obtain ⟨j, w⟩ := jw
    simp only
    cases hd : (ops[j]?).bind (·.dst) with
    | none => rfl
    | some d =>
      simp only
      rw [h d]
      unfold guardTmp
      rw [hg]
      simp only
      rw [Array.getElem?_toList, hd]
      simp

/-- Which slots aren't written yet, of operations that the plan has done. -/
def Pend (ops : Array Oper) (pl : Plan) (k : Nat) (L : Array Bool) (t : Nat) : Prop := ∃ (i k' : Nat), k' ≤ k ∧ i ∈ pl.ns.getD k' [] ∧ L.getD i true = false ∧ (ops.toList.getD i default).dst = some t

structure DInv (P : Program) (ops : Array Oper) (pl : Plan) (K : AExit → List AV → Heap → Prop) (n0 : Nat) (D : List Deferred) (F : Fr) (β0 : Nat → Nat) (w0 : World) (h0 : Heap)
    (k : Nat) (L : Array Bool) (T : List AV) (β : Nat → Nat) (w : World) (h : Heap) (a : Act) : Prop where
  size : L.size = ops.size
  le : k ≤ pl.eff.length
  closed : Closed ops L
  effs : ∀ j, j < pl.eff.length → (L.getD (pl.eff.getD j 0) false = true ↔ j < k)
  ask : ∀ k', k' ≤ k → ∀ i ∈ pl.ns.getD k' [], L.getD i true = false → again1 P (slim ops.toList) T h i
  rel : ∀ (t : Nat) (x : AV), T[t]? = some x → ¬ Pend ops pl k L t → ∃ y, a.tmps.toList[t]? = some y ∧ Rel (ctx F β w h) x y
  len : T.length = a.tmps.toList.length
  gets : Gets n0 F β0 w0 h0 β w h
  defers : a.defers = D
  cont : Cont P (slim ops.toList) K (pl.eff.drop k) (pl.ns.drop (k + 1)) (pl.fs.drop (k + 1)) T h

theorem getD_false_true {L : Array Bool} {i : Nat} (hi : i < L.size) : L.getD i true = L.getD i false := by
  simp [Array.getD, hi]

theorem set_getD {L : Array Bool} {i j : Nat} (d : Bool) (hi : i < L.size) : (L.setIfInBounds i true).getD j d = if j = i then true else L.getD j d := by
  by_cases e : j = i
  · subst e; simp [hi]
  · rw [getD_set_ne d (fun q => e q.symm), if_neg e]

theorem closed_set {L : Array Bool} (hL : L.size = ops.size) (hc : Closed ops L) {i : Nat} (hi : i < ops.size) (hpre : ∀ e ∈ (ops.toList.getD i default).after, Region.binds .any e = true → L.getD e.on false = true) : Closed ops (L.setIfInBounds i true) := by
  intro j hj hjl e he hb
  rw [set_getD _ (by omega)] at hjl ⊢
  split
  · rfl
  · split at hjl
    · rename_i e1; subst e1; exact hpre e he hb
    · exact hc j hj hjl e he hb

theorem put_get (a : Act) (dst : Option Tmp) (v : Value) (t : Nat) : (a.put dst v).tmps.toList[t]? = if dst = some t ∧ t < a.tmps.toList.length then some v else a.tmps.toList[t]? := by
  cases dst with
  | none => simp [Act.put]
  | some d =>
    simp only [Act.put, Array.toList_setIfInBounds, Option.some.injEq]
    rw [List.getElem?_set]
    by_cases e : d = t
    · subst e
      by_cases hl : d < a.tmps.toList.length
      · simp only [hl, and_self, if_true]
      · simp only [hl, and_false, if_true, if_false]
        exact (List.getElem?_eq_none (Nat.le_of_not_lt hl)).symm
    · simp [e]

theorem aPut_get (T : List AV) (dst : Option Tmp) (v : AV) (t : Nat) : (aPut T dst v)[t]? = if dst = some t ∧ t < T.length then some v else T[t]? := by
  cases dst with
  | none => simp [aPut]
  | some d =>
    simp only [aPut, Option.some.injEq]
    rw [List.getElem?_set]
    by_cases e : d = t
    · subst e
      by_cases hl : d < T.length
      · simp only [hl, and_self, if_true]
      · simp only [hl, and_false, if_true, if_false]
        exact (List.getElem?_eq_none (Nat.le_of_not_lt hl)).symm
    · simp [e]

theorem aPut_length (T : List AV) (dst : Option Tmp) (v : AV) : (aPut T dst v).length = T.length := by cases dst <;> simp [aPut]
theorem put_length (a : Act) (dst : Option Tmp) (v : Value) : (a.put dst v).tmps.toList.length = a.tmps.toList.length := by cases dst <;> simp [Act.put]

/-- What an operation that is ready reads is known. -/
theorem reads_known (hp : PlanP ops.toList pl) {k : Nat} {L : Array Bool} (hk : k ≤ pl.eff.length) (hL : L.size = ops.size) (hc : Closed ops L) {i : Nat} (hi : i < ops.size)
    (hpre : ∀ e ∈ (ops.toList.getD i default).after, Region.binds .any e = true → L.getD e.on false = true) : ∀ t ∈ reads ops.toList (ops.toList.getD i default), ¬ Pend ops pl k L t := by
  rintro t ht ⟨j, k', hk', hj, hjl, hjd⟩
  obtain ⟨hjn, _, _, _⟩ := hp.ns k' (by omega) j hj
  rw [Array.length_toList] at hjn
  rcases hp.reads i (by simpa using hi) t ht j (by simpa using hjn) with q | q | q
  · have hjns : ∃ l, pl.ns[k']? = some l ∧ j ∈ l := by
      have := hp.nsl
      refine ⟨pl.ns.getD k' [], ?_, hj⟩
      rw [List.getD, List.getElem?_eq_getElem (by omega)]
      rfl
    obtain ⟨l, hl, hjl2⟩ := hjns
    exact (hp.eff j q).2 k' l hl hjl2
  · exact q hjd
  · have := anc_done hp hc i hi hpre j q
    rw [getD_false_true (by omega)] at hjl
    rw [hjl] at this
    cases this

theorem eval_known {T : List AV} {p : Nat → Prop} {o : Oper} (h : ∀ t ∈ tmpsOf o, ¬ p t) : ∀ x ∈ o.op.operands, aEval T x = aEval (mask p T) x := by
  intro x hx
  cases x with
  | tmp t =>
    have ht : t ∈ tmpsOf o := by
      unfold tmpsOf
      rw [List.mem_filterMap]
      exact ⟨.tmp t, by simpa using hx, rfl⟩
    simp only [aEval, List.getD]
    rw [mask_get p T t (h t ht)]
  | const v => rfl
  | global g => rfl
  | func f => rfl

end
end Go.AH
namespace Go.AH
open Go

theorem countP_lt {p q : Nat → Bool} {i : Nat} (hqp : ∀ j, q j = true → p j = true) (hpi : p i = true) (hqi : q i = false) : ∀ (l : List Nat), i ∈ l → l.countP q < l.countP p
  | [], hi => by simp at hi
  | x :: l, hi => by
    have hle : l.countP q ≤ l.countP p := List.countP_mono_left fun j _ h => hqp j h
    rw [List.countP_cons, List.countP_cons]
    by_cases hx : x = i
    · subst hx
      simp only [hpi, hqi, if_true, Bool.false_eq_true, if_false]
      omega
    · have hi' : i ∈ l := by
        rw [List.mem_cons] at hi
        exact hi.resolve_left fun e => hx e.symm
      have := countP_lt hqp hpi hqi l hi'
      by_cases hq : q x = true
      · simp only [hq, hqp x hq, if_true]; omega
      · simp only [hq, if_false, Bool.false_eq_true]; split <;> omega

def cnt (n : Nat) (L : Array Bool) : Nat := (List.range n).countP fun j => !L.getD j true

section
variable {P : Program} {ops : Array Oper} {pl : Plan} {K : AExit → List AV → Heap → Prop} {n0 : Nat} {D : List Deferred} {F : Fr} {β0 : Nat → Nat} {w0 : World} {h0 : Heap}

theorem place_of (hp : PlanP ops.toList pl) {i : Nat} (hi : i < ops.size) (hne : i ∉ pl.eff) : ∃ k', k' ≤ pl.eff.length ∧ i ∈ pl.ns.getD k' [] := by
  rcases hp.place i (by simpa using hi) with q | ⟨k, l, hl, q⟩
  · exact absurd q hne
  · have := hp.nsl
    have hk := (List.getElem?_eq_some_iff.1 hl).1
    exact ⟨k, by omega, by rw [List.getD, hl]; exact q⟩

theorem eff_of {i : Nat} (h : i ∈ pl.eff) : ∃ j, j < pl.eff.length ∧ pl.eff.getD j 0 = i := by
  obtain ⟨j, hj⟩ := List.getElem?_of_mem h
  exact ⟨j, (List.getElem?_eq_some_iff.1 hj).1, by rw [List.getD, hj]; rfl⟩

theorem getD_mem_eff {j : Nat} (h : j < pl.eff.length) : pl.eff.getD j 0 ∈ pl.eff := by
  rw [List.getD, List.getElem?_eq_getElem h]
  exact List.getElem_mem _

/-- The first stage: what is done without any effect. -/
theorem stage0 (hp : PlanP ops.toList pl) {T : List AV} {β : Nat → Nat} {w : World} {h : Heap} {a : Act} (s : sDraw P (slim ops.toList) K pl.eff pl.ns pl.fs T h) (g : Gets n0 F β0 w0 h0 β w h) (r : RelL (ctx F β w h) T a.tmps.toList) (hd : a.defers = D) :
    ∃ T1, DInv P ops pl K n0 D F β0 w0 h0 0 (Array.replicate ops.size false) T1 β w h a := by
  obtain ⟨n, ns', f, fs', T1, e1, e2, hrun, hag, hc⟩ := sDraw_cont s
  have hn0 : pl.ns.getD 0 [] = n := by rw [e1]; rfl
  have hf0 : pl.fs.getD 0 [] = f := by rw [e2]; rfl
  have hrep : ∀ i d, (Array.replicate ops.size false).getD i d = if i < ops.size then false else d := by
    intro i d
    by_cases hi : i < ops.size <;> simp [Array.getD, hi]
  refine ⟨T1, by simp, Nat.zero_le _, fun i hi hl => ?_, fun j hj => ?_, fun k' hk' i hi hl => ?_, fun t x hx hpd => ?_, ?_, g, hd, ?_⟩
  · rw [hrep, if_pos hi] at hl; cases hl
  · have := (hp.eff _ (getD_mem_eff hj)).1
    rw [hrep, if_pos (by simpa using this)]
    simp
  · obtain rfl : k' = 0 := by omega
    rcases hp.asked 0 (Nat.zero_le _) 0 (Nat.le_refl _) i hi with q | ⟨j, hj, _⟩
    · rw [hf0] at q; exact again_mem hag i q
    · omega
  · have hT : T1[t]? = T[t]? := by
      refine nsRun_other hrun fun i hi o ho e => hpd ?_
      have hi' : i ∈ pl.ns.getD 0 [] := by rw [hn0]; exact hi
      obtain ⟨hin, _⟩ := hp.ns 0 (Nat.zero_le _) i hi'
      rw [Array.length_toList] at hin
      refine ⟨i, 0, Nat.le_refl _, hi', by rw [hrep, if_pos hin], ?_⟩
      have hoi : ops[i]? = some ops[i] := by simp [hin]
      have := slim_get hoi
      rw [this] at ho
      simp only [Option.some.injEq] at ho
      rw [getD_of hoi, ← e, ← ho]
      rfl
    rw [hT] at hx
    exact r.get hx
  · rw [nsRun_length hrun]; exact r.length
  · rw [e1, e2]; simpa using hc

/-- The next stage: behind an effect. -/
theorem stageS (hp : PlanP ops.toList pl) {k i : Nat} {L : Array Bool} {T : List AV} {β β' : Nat → Nat} {w w' : World} {h h' : Heap} {a : Act} (I : DInv P ops pl K n0 D F β0 w0 h0 k L T β w h a) {o : Oper} (ho : ops[i]? = some o)
    (hk : k < pl.eff.length) (hik : pl.eff.getD k 0 = i) (hpre : ∀ e ∈ (ops.toList.getD i default).after, Region.binds .any e = true → L.getD e.on false = true)
    {v : AV} {v' : Value} (s : sDraw P (slim ops.toList) K (pl.eff.drop (k + 1)) (pl.ns.drop (k + 1)) (pl.fs.drop (k + 1)) (aPut T o.dst v) h') (g : Goes F β w h β' w' h') (rv : Rel (ctx F β' w' h') v v') :
    ∃ T1, DInv P ops pl K n0 D F β0 w0 h0 (k + 1) (L.setIfInBounds i true) T1 β' w' h' (a.put o.dst v') := by
  obtain ⟨n, ns', f, fs', T1, e1, e2, hrun, hag, hc⟩ := sDraw_cont s
  have hnl := hp.nsl
  have hfl := hp.fsl
  have hin : i < ops.size := (Array.getElem?_eq_some_iff.1 ho).1
  have hn0 : pl.ns.getD (k + 1) [] = n := by
    have := congrArg (·[0]?) e1
    simp only [List.getElem?_drop] at this
    rw [List.getD, show k + 1 = k + 1 + 0 from rfl, this]
    rfl
  have hf0 : pl.fs.getD (k + 1) [] = f := by
    have := congrArg (·[0]?) e2
    simp only [List.getElem?_drop] at this
    rw [List.getD, show k + 1 = k + 1 + 0 from rfl, this]
    rfl
  have hLi : L.getD i true = false := by
    rw [getD_false_true (by rw [I.size]; exact hin)]
    cases hv : L.getD i false with
    | false => rfl
    | true =>
      have := (I.effs k hk).1 (by rw [hik]; exact hv)
      omega
  have hset : ∀ j d, (L.setIfInBounds i true).getD j d = if j = i then true else L.getD j d := fun j d => set_getD d (by rw [I.size]; exact hin)
  have hcl := closed_set I.size I.closed hin hpre
  have hieff : i ∈ pl.eff := by rw [← hik]; exact getD_mem_eff hk
  have nsNe : ∀ k', k' ≤ pl.eff.length → ∀ j ∈ pl.ns.getD k' [], j ≠ i := by
    rintro k' hk' j hj rfl
    refine (hp.eff j hieff).2 k' (pl.ns.getD k' []) ?_ hj
    rw [List.getD, List.getElem?_eq_getElem (by omega)]
    rfl
  have le := g.le I.gets.st
  -- none of the next stage is done yet
  have fresh : ∀ j ∈ pl.ns.getD (k + 1) [], (L.setIfInBounds i true).getD j true = false := by
    intro j hj
    obtain ⟨hjn, hanc, _⟩ := hp.ns (k + 1) (by omega) j hj
    rw [Array.length_toList] at hjn
    rw [hset, if_neg (nsNe _ (by omega) j hj)]
    rw [getD_false_true (by rw [I.size]; exact hjn)]
    cases hv : L.getD j false with
    | false => rfl
    | true =>
      have hanc' : pl.eff.getD k 0 ∈ pl.anc.getD j [] := by
        rcases hanc with q | q
        · omega
        · simpa using q
      have := anc_done hp I.closed j hjn (I.closed j hjn hv) _ hanc'
      have := (I.effs k hk).1 this
      omega
  refine ⟨T1, by simpa using I.size, hk, hcl, fun j hj => ?_, fun k' hk' j hj hl => ?_, fun t x hx hpd => ?_, ?_, I.gets.trans (g.gets I.gets.len), by rw [Act.put_defers']; exact I.defers, ?_⟩
  · rw [hset]
    by_cases e : pl.eff.getD j 0 = i
    · rw [if_pos e]
      have : j = k := by
        rw [← hik] at e
        rw [List.getD, List.getD, List.getElem?_eq_getElem hj, List.getElem?_eq_getElem hk] at e
        exact (List.getElem_inj hp.nodup).1 e
      subst this
      simp
    · rw [if_neg e, I.effs j hj]
      have : j ≠ k := fun q => e (by rw [q, hik])
      omega
  · rcases hp.asked (k + 1) (by omega) k' hk' j hj with q | ⟨j2, hj2, q⟩
    · rw [hf0] at q; exact again_mem hag j q
    · exfalso
      have hj2e : pl.eff.getD j2 0 ∈ pl.eff := getD_mem_eff (by omega)
      have hj2n := (hp.eff _ hj2e).1
      rw [Array.length_toList] at hj2n
      have hdone : (L.setIfInBounds i true).getD (pl.eff.getD j2 0) false = true := by
        rw [hset]
        split
        · rfl
        · rename_i e
          refine (I.effs j2 (by omega)).2 ?_
          have : j2 ≠ k := fun q => e (by rw [q, hik])
          omega
      have := anc_done hp hcl _ hj2n (hcl _ hj2n hdone) j q
      obtain ⟨hjn, _⟩ := hp.ns k' (by omega) j hj
      rw [Array.length_toList] at hjn
      rw [getD_false_true (by simpa using (show j < L.size by rw [I.size]; exact hjn))] at hl
      rw [hl] at this
      cases this
  · have hT : T1[t]? = (aPut T o.dst v)[t]? := by
      refine nsRun_other hrun fun j hj o' ho' e => hpd ?_
      have hj' : j ∈ pl.ns.getD (k + 1) [] := by rw [hn0]; exact hj
      obtain ⟨hjn, _⟩ := hp.ns (k + 1) (by omega) j hj'
      rw [Array.length_toList] at hjn
      refine ⟨j, k + 1, Nat.le_refl _, hj', fresh j hj', ?_⟩
      have hoj : ops[j]? = some ops[j] := by simp [hjn]
      have := slim_get hoj
      rw [this] at ho'
      simp only [Option.some.injEq] at ho'
      rw [getD_of hoj, ← e, ← ho']
      rfl
    rw [hT, aPut_get] at hx
    rw [put_get, ← I.len]
    split at hx
    · rename_i hc2
      rw [if_pos hc2]
      simp only [Option.some.injEq] at hx
      subst hx
      exact ⟨v', rfl, rv⟩
    · rename_i hc2
      rw [if_neg hc2]
      have hpd' : ¬ Pend ops pl k L t := by
        rintro ⟨j, k', hk', hj, hjl, hjd⟩
        refine hpd ⟨j, k', by omega, hj, ?_, hjd⟩
        rw [hset, if_neg (nsNe k' (by omega) j hj)]
        exact hjl
      obtain ⟨y, hy, ry⟩ := I.rel t x hx hpd'
      exact ⟨y, hy, Rel.le le _ _ ry⟩
  · rw [nsRun_length hrun, aPut_length, put_length]; exact I.len
  · have a1 : pl.ns.drop (k + 1 + 1) = ns' := by rw [← List.drop_drop, e1]; rfl
    have a2 : pl.fs.drop (k + 1 + 1) = fs' := by rw [← List.drop_drop, e2]; rfl
    rw [a1, a2]
    exact hc

/-- An operation without an effect is done late: it gives what it gave. -/
theorem late (hp : PlanP ops.toList pl) {k i k' : Nat} {L : Array Bool} {T : List AV} {β : Nat → Nat} {w w' : World} {h : Heap} {a : Act} (I : DInv P ops pl K n0 D F β0 w0 h0 k L T β w h a) {o : Oper} (ho : ops[i]? = some o)
    (hk' : k' ≤ k) (hi : i ∈ pl.ns.getD k' []) (hpre : ∀ e ∈ (ops.toList.getD i default).after, Region.binds .any e = true → L.getD e.on false = true)
    {d : Tmp} (hd : o.dst = some d) {x : AV} (hx : T[d]? = some x) {v' : Value} {β' : Nat → Nat} (g : Goes F β w h β' w' h) (rv : Rel (ctx F β' w' h) x v') :
    DInv P ops pl K n0 D F β0 w0 h0 k (L.setIfInBounds i true) T β' w' h (a.put o.dst v') := by
  have hin : i < ops.size := (Array.getElem?_eq_some_iff.1 ho).1
  have hset : ∀ j d, (L.setIfInBounds i true).getD j d = if j = i then true else L.getD j d := fun j d => set_getD d (by rw [I.size]; exact hin)
  have hne : i ∉ pl.eff := by
    intro q
    have hnl := hp.nsl
    have := I.le
    refine (hp.eff i q).2 k' (pl.ns.getD k' []) ?_ hi
    rw [List.getD, List.getElem?_eq_getElem (by omega)]
    rfl
  have le := g.le I.gets.st
  refine ⟨by simpa using I.size, I.le, closed_set I.size I.closed hin hpre, fun j hj => ?_, fun k2 hk2 j hj hl => ?_, fun t y hy hpd => ?_, by rw [put_length]; exact I.len, I.gets.trans (g.gets I.gets.len), by rw [Act.put_defers']; exact I.defers, I.cont⟩
  · rw [hset, if_neg (fun e => hne (by rw [← e]; exact getD_mem_eff hj))]
    exact I.effs j hj
  · rw [hset] at hl
    split at hl
    · cases hl
    · exact I.ask k2 hk2 j hj hl
  · rw [put_get, ← I.len]
    by_cases e : d = t
    · subst e
      rw [if_pos ⟨hd, (List.getElem?_eq_some_iff.1 hx).1⟩]
      rw [hx] at hy
      cases hy
      exact ⟨v', rfl, rv⟩
    · rw [if_neg (by rw [hd]; simp [e])]
      have hpd' : ¬ Pend ops pl k L t := by
        rintro ⟨j, k2, hk2, hj, hjl, hjd⟩
        refine hpd ⟨j, k2, hk2, hj, ?_, hjd⟩
        rw [hset]
        split
        · rename_i e2
          subst e2
          rw [getD_of ho, hd] at hjd
          simp only [Option.some.injEq] at hjd
          exact absurd hjd e
        · exact hjl
      obtain ⟨z, hz, rz⟩ := I.rel t y hy hpd'
      exact ⟨z, hz, Rel.le le _ _ rz⟩

theorem draw_any (hp : PlanP ops.toList pl) : ∀ (fuel k : Nat) (L : Array Bool) (T : List AV) (β : Nat → Nat) (w : World) (h : Heap) (a : Act), cnt ops.size L ≤ fuel → DInv P ops pl K n0 D F β0 w0 h0 k L T β w h a →
    wpAny P .any ops (Post n0 F β0 w0 h0 D K) fuel L a w := by
  intro fuel
  -- all done
  have fin : ∀ (k : Nat) (L : Array Bool) (T : List AV) (β : Nat → Nat) (w : World) (h : Heap) (a : Act), (∀ i, i < ops.size → L.getD i true = true) → DInv P ops pl K n0 D F β0 w0 h0 k L T β w h a → Post n0 F β0 w0 h0 D K .normal a w := by
    intro k L T β w h a hall I
    have hk : k = pl.eff.length := by
      rcases Nat.lt_or_ge k pl.eff.length with q | q
      · have hn := (hp.eff _ (getD_mem_eff q)).1
        rw [Array.length_toList] at hn
        have h1 := hall _ hn
        rw [getD_false_true (by rw [I.size]; exact hn)] at h1
        have := (I.effs k q).1 h1
        omega
      · have := I.le; omega
    have hc := I.cont
    rw [hk, List.drop_length] at hc
    have hnp : ∀ t, ¬ Pend ops pl k L t := by
      rintro t ⟨j, k', hk', hj, hjl, _⟩
      obtain ⟨hjn, _⟩ := hp.ns k' (by omega) j hj
      rw [Array.length_toList] at hjn
      rw [hall j hjn] at hjl
      cases hjl
    exact ⟨.normal, β, T, h, hc, I.gets, rfl, relL_of_get I.len fun i x y hx hy => by
      obtain ⟨y', hy', r⟩ := I.rel i x hx (hnp i)
      rw [hy] at hy'
      cases hy'
      exact r, I.defers⟩
  have readyAll : ∀ (L : Array Bool), L.size = ops.size → Region.ready .any ops L = [] → ∀ i, i < ops.size → L.getD i true = true := by
    intro L hL hr i
    induction i using Nat.strongRecOn with
    | _ i ih =>
      intro hi
      cases hv : L.getD i true with
      | true => rfl
      | false =>
        exfalso
        have hoi : ops[i]? = some ops[i] := by simp [hi]
        have : i ∈ Region.ready .any ops L := by
          rw [mem_ready]
          refine ⟨hv, _, hoi, fun e he hb => ?_⟩
          have hlt := hp.ahead i (by simpa using hi) e (by rw [getD_of hoi]; exact he) hb
          rw [← getD_false_true (by omega)]
          exact ih e.on hlt (by omega)
        rw [hr] at this
        simp at this
  have done0 : ∀ (L : Array Bool), cnt ops.size L = 0 → ∀ i, i < ops.size → L.getD i true = true := by
    intro L hc i hi
    unfold cnt at hc
    rw [List.countP_eq_zero] at hc
    have := hc i (List.mem_range.2 hi)
    simpa using this
  induction fuel with
  | zero =>
    intro k L T β w h a hc I
    have hall := done0 L (by omega)
    refine ⟨?_, fin k L T β w h a hall I⟩
    rw [List.eq_nil_iff_forall_not_mem]
    intro i hi
    rw [mem_ready] at hi
    obtain ⟨h1, o, ho, _⟩ := hi
    rw [hall i (Array.getElem?_eq_some_iff.1 ho).1] at h1
    cases h1
  | succ fuel ih =>
    intro k L T β w h a hc I
    refine ⟨fun hr => fin k L T β w h a (readyAll L I.size hr) I, fun i hi => ?_⟩
    rw [mem_ready] at hi
    obtain ⟨hL, o, ho, hpre0⟩ := hi
    have hin : i < ops.size := (Array.getElem?_eq_some_iff.1 ho).1
    have hpre : ∀ e ∈ (ops.toList.getD i default).after, Region.binds .any e = true → L.getD e.on false = true := by rw [getD_of ho]; exact hpre0
    have hcnt : cnt ops.size (L.setIfInBounds i true) ≤ fuel := by
      have : cnt ops.size (L.setIfInBounds i true) < cnt ops.size L := by
        refine countP_lt (i := i) ?_ (by simp [hL]) ?_ _ (List.mem_range.2 hin)
        · intro j hj
          rw [set_getD _ (by rw [I.size]; exact hin)] at hj
          split at hj
          · simp at hj
          · exact hj
        · rw [set_getD _ (by rw [I.size]; exact hin), if_pos rfl]; rfl
      omega
    have known := reads_known hp I.le I.size I.closed hin hpre
    rw [getD_of ho] at known
    have rm : RelL (ctx F β w h) (mask (Pend ops pl k L) T) a.tmps.toList := mask_rel I.len I.rel
    have hg : ∀ g, sGuard T (slim1 (ops.toList.map (·.dst)) o).g = some g → Region.wanted o (yielded ops a.tmps) = g := by
      intro g hg
      refine aGuard_rel rm ?_
      rw [sGuard_eq, ← hg]
      refine sGuard_congr fun t ht => mask_get _ _ _ (known t ?_)
      unfold reads
      exact List.mem_append_right _ ht
    have hev : ∀ x ∈ o.op.operands, aEval T x = aEval (mask (Pend ops pl k L) T) x := eval_known fun t ht => known t (List.mem_append_left _ ht)
    unfold wpOp
    simp only [ho]
    by_cases hie : i ∈ pl.eff
    · -- the next effect
      obtain ⟨j, hj, hji⟩ := eff_of hie
      have hjk : j = k := by
        have hjge : k ≤ j := by
          rcases Nat.lt_or_ge j k with q | q
          · have := (I.effs j hj).2 q
            rw [hji, ← getD_false_true (by rw [I.size]; exact hin), hL] at this
            cases this
          · exact q
        rcases Nat.lt_or_ge k j with q | q
        · exfalso
          obtain ⟨j', rfl⟩ : ∃ j', j = j' + 1 := ⟨j - 1, by omega⟩
          have hch := hp.chain j' hj
          rw [hji] at hch
          have := anc_done hp I.closed i hin hpre _ hch
          have := (I.effs j' (by omega)).1 this
          omega
        · omega
      subst hjk
      have hcont := I.cont
      have hdrop : pl.eff.drop j = i :: pl.eff.drop (j + 1) := by
        rw [List.drop_eq_getElem_cons hj, ← hji]
        congr 1
        rw [List.getD, List.getElem?_eq_getElem hj]
        rfl
      rw [hdrop] at hcont
      simp only [Cont, slim_get ho] at hcont
      split at hcont
      · rename_i hgt
        rw [hg true hgt]
        simp only [if_true]
        left
        have hs := sOp_congr (P := P) _ h hev hcont
        have ha : aOp P o (mask (Pend ops pl j L) T) h _ _ := sOp_aOp hs
        refine aOp_sound ha I.gets.st rm ?_ ?_
        · intro v v' w' β' h' hn hgo rv
          obtain ⟨T1, I1⟩ := stageS hp I ho hj hji hpre hn hgo rv
          exact ih _ _ _ _ _ _ _ hcnt I1
        · intro v v' w' β' h' hn hgo rv
          refine ⟨.pan v, β', _, h', hn, I.gets.trans (hgo.gets I.gets.len), ⟨v', rfl, rv⟩, ?_, I.defers⟩
          rw [I.len]
          exact relL_unk _
      · rename_i hgt
        rw [hg false hgt]
        simp only [Bool.false_eq_true, if_false]
        obtain ⟨T1, I1⟩ := stageS hp I ho hj hji hpre hcont (Goes.refl I.gets.st) (show Rel _ (.tup []) undef from ⟨#[], rfl, rfl⟩)
        exact ih _ _ _ _ _ _ _ hcnt I1
      · exact hcont.elim
    · -- one without an effect
      obtain ⟨k', hk', hi'⟩ := place_of hp hin hie
      have hkk : k' ≤ k := by
        rcases Nat.lt_or_ge k k' with q | q
        · exfalso
          obtain ⟨_, hanc, _⟩ := hp.ns k' hk' i hi'
          rcases hanc with q2 | q2
          · omega
          · have := anc_done hp I.closed i hin hpre _ q2
            have := (I.effs (k' - 1) (by omega)).1 this
            omega
        · exact q
      have hask := I.ask k' hkk i hi' hL
      unfold again1 at hask
      rw [slim_get ho] at hask
      simp only at hask
      split at hask
      · exact hask.elim
      · rename_i d hd
        have hd' : o.dst = some d := hd
        split at hask
        · exact hask.elim
        · rename_i x hx
          split at hask
          · rename_i hgt
            rw [hg true hgt]
            simp only [if_true]
            left
            have he : ev P (aEval (mask (Pend ops pl k L) T)) o.op h = some (x, h) := by
              rw [← ev_congr (P := P) o.op h hev]; exact hask
            obtain ⟨n, v', w', β', h1, h2, h3, h4⟩ := ev_sound (ρ' := a.eval) I.gets.st (aEval_rel rm) he
            unfold Oper.wp
            rw [h1]
            have := ih _ _ _ _ _ _ _ hcnt (late hp I ho hkk hi' hpre hd' hx h3 h4)
            rcases h2 with rfl | ⟨rfl, rfl⟩
            · exact this
            · exact this
          · rename_i hgt
            rw [hg false hgt]
            simp only [Bool.false_eq_true, if_false]
            exact ih _ _ _ _ _ _ _ hcnt (late hp I ho hkk hi' hpre hd' hx (Goes.refl I.gets.st) (by rw [hask]; exact ⟨#[], rfl, rfl⟩))
          · exact hask.elim

end

section
variable {P : Program} {n0 : Nat} {T : List AV} {h : Heap}
/-- A REGION THAT DRAWS ITS ORDER. -/
theorem aW_draw {id : Nat} {ops : Array Oper} {K : AExit → List AV → Heap → Prop} (hm : P.follows .mixedOrders = true) (pl : Plan) (hp : planOk ops.toList pl = true) (s : sDraw P (slim ops.toList) K pl.eff pl.ns pl.fs T h) : aW P n0 (.region id ops true) T h K := by
  intro F β w a D hn st r hd
  refine wp_region_any hm ?_
  let g0 := st.drew { w with drawn := w.drawn + 1 } rfl rfl rfl rfl
  obtain ⟨T1, I⟩ := stage0 (P := P) (K := K) (n0 := n0) (D := D) (F := F) (β0 := β) (w0 := w) (h0 := h) (planP hp) s (g0.gets hn) (RelL.le (g0.le st) _ _ r) hd
  refine draw_any (planP hp) ops.size 0 _ T1 β _ h a ?_ I
  unfold cnt
  exact Nat.le_trans List.countP_le_length (by simp)

/-- A region that draws its order, and what stands behind it. -/
theorem aW_dreg {id : Nat} {ops : Array Oper} {y : Code} {K : AExit → List AV → Heap → Prop} (hm : P.follows .mixedOrders = true) (pl : Plan) (hp : planOk ops.toList pl = true) (a : ∀ N : List AV → Heap → Prop, (∀ T' h', aW P n0 y T' h' K → N T' h') → sDraw P (slim ops.toList) (Nx N K) pl.eff pl.ns pl.fs T h) : aW P n0 (.seq (.region id ops true) y) T h K :=
  aW_seq_k fun N hN => aW_draw hm pl hp (a N hN)
theorem aW_dreg1 {id : Nat} {ops : Array Oper} {K : AExit → List AV → Heap → Prop} (hm : P.follows .mixedOrders = true) (pl : Plan) (hp : planOk ops.toList pl = true) (a : ∀ N : List AV → Heap → Prop, (∀ T' h', K .normal T' h' → N T' h') → sDraw P (slim ops.toList) (Nx N K) pl.eff pl.ns pl.fs T h) : aW P n0 (.region id ops true) T h K := by
  refine aW_mono (aW_draw hm pl hp (a (fun T' h' => K .normal T' h') fun _ _ q => q)) ?_
  intro e T h _ q
  cases e <;> exact q
end
attribute [go_sem] sDraw nsRun again again1
attribute [go_sem ↓] sDraw nsRun
end Go.AH
namespace Go.AH
open Go
section
variable {P : Program} {n0 : Nat} {T : List AV} {h : Heap}
theorem own_none {β : Nat → Nat} {h : Heap} {x b : Nat} (q : Own (fun id => if id = h.length then x else β id) (h ++ [none]) b) : Own β h b := by
  obtain ⟨id, blk, hb, e⟩ := q
  have hid : id < h.length := by
    rcases Nat.lt_or_ge id h.length with q | q
    · exact q
    · rw [List.getElem?_append_right q] at hb
      rcases Nat.lt_or_ge (id - h.length) 1 with q' | q'
      · have : id - h.length = 0 := by omega
        rw [this] at hb; simp at hb
      · rw [List.getElem?_eq_none (by simpa using q')] at hb; simp at hb
  rw [List.getElem?_append_left hid] at hb
  simp only [if_neg (show ¬ id = h.length by omega)] at e
  exact ⟨id, blk, hb, e⟩

/-- One more id, of a block that is not named. -/
theorem St.grow {F : Fr} {β : Nat → Nat} {w : World} (s : St F β w h) (hh : 0 < h.length) : Goes F β w h (fun id => if id = h.length then β 0 else β id) w (h ++ [none]) := by
  have st : Step (Own β h) w w (Own (fun id => if id = h.length then β 0 else β id) (h ++ [none])) :=
    ⟨rfl, rfl, rfl, Nat.le_refl _, fun _ _ _ => rfl, fun _ _ => rfl, fun b q => .inl (own_none q)⟩
  have le := s.leOf (β' := fun id => if id = h.length then β 0 else β id) (h' := h ++ [none]) st (by simp) (fun id hid => if_neg (by omega))
  have inh : ∀ (i : Nat) (b : Blk), (h ++ [none])[i]? = some (some b) → i < h.length ∧ h[i]? = some (some b) := by
    intro i b hb
    have hid : i < h.length := by
      rcases Nat.lt_or_ge i h.length with q | q
      · exact q
      · rw [List.getElem?_append_right q] at hb
        rcases Nat.lt_or_ge (i - h.length) 1 with q' | q'
        · have : i - h.length = 0 := by omega
          rw [this] at hb; simp at hb
        · rw [List.getElem?_eq_none (by simpa using q')] at hb; simp at hb
    rw [List.getElem?_append_left hid] at hb
    exact ⟨hid, hb⟩
  refine ⟨⟨fun id blk hb => ?_, fun i j bi bj hi hj e => ?_, fun b hb q => s.sep b hb (own_none q), s.flt, fun id hid => ?_, s.gl.step st⟩, st, by simp, fun id hid => if_neg (by omega)⟩
  · obtain ⟨h1, h2⟩ := inh id blk hb
    obtain ⟨o, ho, hr⟩ := s.live id blk h2
    exact ⟨o, by simp only [if_neg (show ¬ id = h.length by omega)]; exact ho, BlkRel.le le hr⟩
  · obtain ⟨h1, h2⟩ := inh i bi hi
    obtain ⟨h3, h4⟩ := inh j bj hj
    simp only [if_neg (show ¬ i = h.length by omega), if_neg (show ¬ j = h.length by omega)] at e
    exact s.inj i j bi bj h2 h4 e
  · by_cases q : id = h.length
    · simp only [if_pos q]; exact s.lt 0 hh
    · simp only [if_neg q]; exact s.lt id (by simp at hid; omega)

theorem aW_grow {c : Code} {K : AExit → List AV → Heap → Prop} (hh : 0 < h.length) (a : aW P n0 c T (h ++ [none]) K) : aW P n0 c T h K := by
  intro F β w act D hn s r hd
  have g := s.grow hh
  refine wp_mono (a F _ w act D (by rw [List.length_append]; omega) g.st (RelL.le (g.le s) _ _ r) hd) ?_
  rintro e a' w' ⟨x, β', T', h', hk, hg, he, hr, hd'⟩
  exact ⟨x, β', T', h', hk, (g.gets hn).trans hg, he, hr, hd'⟩

def ρ0 : Nat → Int := fun i => if i = 4 ∨ i = 9 ∨ i = 14 ∨ i = 19 then 100 else 0
def oct0 : Nat → Nat → Nat := fun j k => if k = 0 then (if j % 3 = 0 then 127 else if j % 3 = 1 then 10 else 1) else 0
def val0 : Val where
  ρ := ρ0
  lo i := by unfold ρ0; split <;> omega
  hi i := by
    unfold ρ0
    split
    · rename_i h; rcases h with rfl | rfl | rfl | rfl <;> decide
    · exact Int.natCast_nonneg _
  thr j hj := by
    have : j = 0 ∨ j = 1 ∨ j = 2 ∨ j = 3 := by omega
    rcases this with rfl | rfl | rfl | rfl <;> rfl
  oct := oct0
  ob j k := by unfold oct0; split <;> (try split) <;> (try split) <;> omega
  spc j hj := by
    have : j = 0 ∨ j = 1 ∨ j = 2 ∨ j = 3 ∨ j = 4 ∨ j = 5 := by omega
    rcases this with rfl | rfl | rfl | rfl | rfl | rfl <;> rfl
abbrev noF : Fr := ⟨fun _ => False, val0⟩
/-- A law that is true, from a world that it owns nothing of. -/
theorem ACalls.law {f : FuncId} {args : List AV} (hc : Callable P f) (c : ACalls P f args [] (fun r _ => r = .ret (.bool true))) (w : World) (vs : Array Value) (hg : GSt (fun _ => False) w)
    (hr : RelL (ctx noF (fun _ => 0) w []) args vs.toList) : Calls P f vs w fun e w' => e = .returned (.bool true) ∧ Go.RowKit.Below w.heap.size w w' := by
  have s : St noF (fun _ => 0) w [] := ⟨by simp, by simp, by simp, by simp, by simp, hg.mono (by rintro b ⟨id, blk, hb, _⟩; simp at hb)⟩
  have hd' : Calls P f vs w _ := Or.resolve_right ((c _ _ w vs s hr).imp And.right id) (by rintro ⟨v, w', h1, _⟩; rw [run_callFunc hc] at h1; cases h1)
  refine hd'.mono ?_
  rintro e w' ⟨β', h', r, rfl, g, v', rfl, rv⟩
  have rv' : v' = .bool true := rv
  subst rv'
  exact ⟨rfl, g.step.below (by rintro b ⟨id, blk, hb, _⟩; simp at hb)⟩
/-- What is to come behind a call is not looked at before the call is done. -/
theorem ACalls.scongr {f : FuncId} {args args' : List AV} {h' : Heap} {K : AEnd → Heap → Prop} (ha : args = args') (hh : h = h') : ACalls P f args h K = ACalls P f args' h' K := by rw [ha, hh]
attribute [congr] ACalls.scongr
end
end Go.AH
