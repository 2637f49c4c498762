/- Regions that draw their order: plans. No condition. -/
import Derived.Test.YtieaamjikcjbeaaA18
namespace Go.AH
set_option linter.unusedSimpArgs false
set_option linter.unusedVariables false
open Go

theorem ev_congr {P : Program} {ρ ρ' : Operand → AV} (op : Op) (h : Heap) (hx : ∀ x ∈ op.operands, ρ x = ρ' x) : ev P ρ op h = ev P ρ' op h := by
  have opt : ∀ (o : Option Operand), (∀ x ∈ o.toArray, ρ x = ρ' x) → o.map ρ = o.map ρ' := by
    intro o ho
    cases o with
    | none => rfl
    | some x => simp only [Option.map_some]; rw [ho x (by simp)]
  cases op <;> simp only [ev]
  case move x => rw [hx x (by simp [Op.operands])]
  case assign x => rw [hx x (by simp [Op.operands])]
  case pick c a b => rw [hx c (by simp [Op.operands]), hx a (by simp [Op.operands]), hx b (by simp [Op.operands])]
  case box t x => rw [hx x (by simp [Op.operands])]
  case build t parts =>
    congr 2
    apply List.map_congr_left
    intro p hp
    rw [hx p.2 (by simp only [Op.operands, List.mem_toArray, List.mem_map]; exact ⟨p, hp, rfl⟩)]
  case buildSlice t len parts =>
    congr 1
    apply List.map_congr_left
    intro p hp
    rw [hx p.2 (by simp only [Op.operands, List.mem_toArray, List.mem_map]; exact ⟨p, hp, rfl⟩)]
  case load t x => rw [hx x (by simp [Op.operands])]
  case store t a x => rw [hx a (by simp [Op.operands]), hx x (by simp [Op.operands])]
  case nilCheck x => rw [hx x (by simp [Op.operands])]
  case binOp op t x y ty => rw [hx x (by simp [Op.operands]), hx y (by simp [Op.operands])]
  case unOp op t x => rw [hx x (by simp [Op.operands])]
  case convert s d x => rw [hx x (by simp [Op.operands])]
  case makeInterface t x => rw [hx x (by simp [Op.operands])]
  case makeFunc fn first caps =>
    have e : caps.toList.map ρ = caps.toList.map ρ' := List.map_congr_left fun x hm => hx x (by simp only [Op.operands, Array.mem_append]; exact .inr (by simpa using hm))
    rw [e]
  case slice t x lo hi mx =>
    rw [hx x (by simp [Op.operands]), opt lo fun y hy => hx y (by simp only [Op.operands, Array.mem_append]; exact .inl (.inl (.inr hy))), opt hi fun y hy => hx y (by simp only [Op.operands, Array.mem_append]; exact .inl (.inr hy)),
      opt mx fun y hy => hx y (by simp only [Op.operands, Array.mem_append]; exact .inr hy)]
  case fieldAddr t x f => rw [hx x (by simp [Op.operands])]
  case field t x f => rw [hx x (by simp [Op.operands])]
  case indexAddr t x i => rw [hx x (by simp [Op.operands]), hx i (by simp [Op.operands])]
  case index t x i => rw [hx x (by simp [Op.operands]), hx i (by simp [Op.operands])]
  case extract x i => rw [hx x (by simp [Op.operands])]
  case call c =>
    cases hc : c.callee <;> simp only
    have e : c.args.toList.map ρ = c.args.toList.map ρ' := List.map_congr_left fun x hm => hx x (by simp only [Op.operands, Call.operands, Array.mem_append]; exact .inr (by simpa using hm))
    rw [e]

theorem sOp_congr {P : Program} {T T' : List AV} (op : Op) (h : Heap) {next pan : AV → Heap → Prop} (hx : ∀ x ∈ op.operands, aEval T x = aEval T' x) (hs : sOp P op T h next pan) : sOp P op T' h next pan := by
  cases op
  case call c =>
    simp only [sOp] at hs ⊢
    have e : c.args.toList.map (aEval T) = c.args.toList.map (aEval T') := List.map_congr_left fun x hm => hx x (by simp only [Op.operands, Call.operands, Array.mem_append]; exact .inr (by simpa using hm))
    rw [← e]
    cases hc : c.callee with
    | value f =>
      rw [hc] at hs
      simp only at hs ⊢
      rw [← hx f (by simp [Op.operands, Call.operands, hc])]
      exact hs
    | builtin b => rw [hc] at hs; exact hs
    | invoke r m => rw [hc] at hs; exact hs.elim
  all_goals
    simp only [sOp] at hs ⊢
    rw [← ev_congr (P := P) _ h hx]
    exact hs

/-- HOW A REGION THAT DRAWS ITS ORDER IS WALKED: the operations with an effect, in their one order; which others come ahead of each; what every operation waits for; which are asked again. -/
structure Plan where
  eff : List Nat
  ns : List (List Nat)
  fs : List (List Nat)
  anc : List (List Nat)

def tmpsOf (o : Oper) : List Tmp := o.op.operands.toList.filterMap fun | .tmp t => some t | _ => none

def guardTmp (ops : List Oper) (o : Oper) : List Tmp := match o.guard with
  | none => []
  | some (j, _) => ((ops[j]?).bind (·.dst)).toList

def reads (ops : List Oper) (o : Oper) : List Tmp := tmpsOf o ++ guardTmp ops o

def notCall : Op → Bool
  | .call c => match c.callee with | .builtin _ => true | _ => false
  | _ => true

/-- Of the operations that are ancestors: each is one that is waited for, or an ancestor of one. -/
def ancOk (ops : List Oper) (pl : Plan) : Bool := (List.range ops.length).all fun i =>
  (pl.anc.getD i []).all fun j => (ops.getD i default).after.toList.any fun e => Region.binds .any e && decide (e.on < i) && (e.on == j || (pl.anc.getD e.on []).contains j)

def planOk (ops : List Oper) (pl : Plan) : Bool :=
  ancOk ops pl &&
  -- every operation has its place
  ((List.range ops.length).all fun i => pl.eff.contains i || pl.ns.any (·.contains i)) &&
  (pl.eff.all fun i => decide (i < ops.length) && pl.ns.all fun l => !l.contains i) &&
  -- an operation waits for those that its number is greater than
  ((List.range ops.length).all fun i => (ops.getD i default).after.toList.all fun e => !Region.binds .any e || decide (e.on < i)) &&
  decide pl.eff.Nodup &&
  -- the effects are a chain
  ((List.range (pl.eff.length - 1)).all fun k => (pl.anc.getD (pl.eff.getD (k + 1) 0) []).contains (pl.eff.getD k 0)) &&
  decide (pl.ns.length = pl.eff.length + 1) && decide (pl.fs.length = pl.eff.length + 1) &&
  -- what stands behind an effect waits for it
  ((List.range (pl.eff.length + 1)).all fun k => (pl.ns.getD k []).all fun i => decide (i < ops.length) && (k == 0 || (pl.anc.getD i []).contains (pl.eff.getD (k - 1) 0)) && notCall (ops.getD i default).op && (ops.getD i default).dst.isSome) &&
  -- what an operation reads, it has waited for
  ((List.range ops.length).all fun i => (reads ops (ops.getD i default)).all fun t => (List.range ops.length).all fun j =>
    pl.eff.contains j || (ops.getD j default).dst != some t || (pl.anc.getD i []).contains j) &&
  -- a slot is written once, but by effects
  ((List.range ops.length).all fun i => pl.eff.contains i || (List.range ops.length).all fun j => i == j || (ops.getD i default).dst != (ops.getD j default).dst) &&
  -- who may yet come is asked again
  ((List.range (pl.eff.length + 1)).all fun k => (List.range (k + 1)).all fun k' => (pl.ns.getD k' []).all fun i =>
    (pl.fs.getD k []).contains i || (List.range k).any fun j => (pl.anc.getD (pl.eff.getD j 0) []).contains i)

def nsRun (P : Program) (ops : List SOp) : List Nat → List AV → Heap → Option (List AV)
  | [], T, _ => some T
  | i :: is, T, h => match ops[i]? with
    | none => none
    | some o => match sGuard T o.g with
      | some true => match ev P (aEval T) o.op h with
        | some (v, _) => nsRun P ops is (aPut T o.dst v) h
        | none => none
      | some false => nsRun P ops is (aPut T o.dst (.tup [])) h
      | none => none

/-- Asked again, an operation gives what it gave. -/
def again1 (P : Program) (ops : List SOp) (T : List AV) (h : Heap) (i : Nat) : Prop := match ops[i]? with
  | none => False
  | some o => match o.dst with
    | none => False
    | some d => match T[d]? with
      | none => False
      | some v => match sGuard T o.g with
        | some true => ev P (aEval T) o.op h = some (v, h)
        | some false => v = .tup []
        | none => False

def again (P : Program) (ops : List SOp) (T : List AV) (h : Heap) : List Nat → Prop
  | [] => True
  | i :: is => again1 P ops T h i ∧ again P ops T h is

theorem again_mem {P : Program} {ops : List SOp} {T : List AV} {h : Heap} : ∀ {l : List Nat}, again P ops T h l → ∀ i ∈ l, again1 P ops T h i
  | [], _, i, hi => by simp at hi
  | j :: l, ⟨h1, h2⟩, i, hi => by
    rw [List.mem_cons] at hi
    rcases hi with rfl | hi
    · exact h1
    · exact again_mem h2 i hi

/-- The walk, in the plan's order. -/
def sDraw (P : Program) (ops : List SOp) (K : AExit → List AV → Heap → Prop) : List Nat → List (List Nat) → List (List Nat) → List AV → Heap → Prop
  | [], n :: _, f :: _, T, h => match nsRun P ops n T h with
    | none => False
    | some T1 => again P ops T1 h f ∧ K .normal T1 h
  | e :: es, n :: ns, f :: fs, T, h => match nsRun P ops n T h with
    | none => False
    | some T1 => again P ops T1 h f ∧ match ops[e]? with
      | none => False
      | some o => match sGuard T1 o.g with
        | some true => sOp P o.op T1 h (fun v h' => sDraw P ops K es ns fs (aPut T1 o.dst v) h') (fun v h' => K (.pan v) (List.replicate T1.length .unk) h')
        | some false => sDraw P ops K es ns fs (aPut T1 o.dst (.tup [])) h
        | none => False
  | _, _, _, _, _ => False

/-- What is to come when the operations ahead of the next effect are done. -/
def Cont (P : Program) (ops : List SOp) (K : AExit → List AV → Heap → Prop) (es : List Nat) (ns fs : List (List Nat)) (T : List AV) (h : Heap) : Prop := match es with
  | [] => K .normal T h
  | e :: es => match ops[e]? with
    | none => False
    | some o => match sGuard T o.g with
      | some true => sOp P o.op T h (fun v h' => sDraw P ops K es ns fs (aPut T o.dst v) h') (fun v h' => K (.pan v) (List.replicate T.length .unk) h')
      | some false => sDraw P ops K es ns fs (aPut T o.dst (.tup [])) h
      | none => False

theorem sDraw_cont {P : Program} {ops : List SOp} {K : AExit → List AV → Heap → Prop} {es : List Nat} {ns fs : List (List Nat)} {T : List AV} {h : Heap} (hs : sDraw P ops K es ns fs T h) :
    ∃ n ns' f fs' T1, ns = n :: ns' ∧ fs = f :: fs' ∧ nsRun P ops n T h = some T1 ∧ again P ops T1 h f ∧ Cont P ops K es ns' fs' T1 h := by
  cases ns with
  | nil => cases es <;> simp [sDraw] at hs
  | cons n ns => cases fs with
    | nil => cases es <;> simp [sDraw] at hs
    | cons f fs => cases es with
      | nil =>
        simp only [sDraw] at hs
        split at hs
        · exact hs.elim
        · exact ⟨_, _, _, _, _, rfl, rfl, by assumption, hs.1, hs.2⟩
      | cons e es =>
        simp only [sDraw] at hs
        split at hs
        · exact hs.elim
        · exact ⟨_, _, _, _, _, rfl, rfl, by assumption, hs.1, hs.2⟩

theorem nsRun_length {P : Program} {ops : List SOp} : ∀ {is : List Nat} {T T1 : List AV} {h : Heap}, nsRun P ops is T h = some T1 → T1.length = T.length
  | [], _, _, _, h => by simp [nsRun] at h; rw [h]
  | i :: is, T, T1, hh, h => by
    have hp : ∀ d v, (aPut T d v).length = T.length := by intro d v; cases d <;> simp [aPut]
    unfold nsRun at h
    split at h <;> try (cases h; done)
    split at h <;> try (cases h; done)
    · split at h <;> try (cases h; done)
      rw [nsRun_length h, hp]
    · rw [nsRun_length h, hp]

/-- Slots that none of the operations writes are as they were. -/
theorem nsRun_other {P : Program} {ops : List SOp} {t : Nat} : ∀ {is : List Nat} {T T1 : List AV} {h : Heap}, nsRun P ops is T h = some T1 → (∀ i ∈ is, ∀ o, ops[i]? = some o → o.dst ≠ some t) → T1[t]? = T[t]?
  | [], _, _, _, h, _ => by simp [nsRun] at h; rw [h]
  | i :: is, T, T1, hh, h, hn => by
    unfold nsRun at h
    split at h <;> try (cases h; done)
    rename_i o ho
    have hp : ∀ v, (aPut T o.dst v)[t]? = T[t]? := by
      intro v
      have := hn i (by simp) o ho
      cases hd : o.dst with
      | none => rfl
      | some d => rw [hd] at this; simp only [aPut]; rw [List.getElem?_set_ne (by intro e; exact this (by rw [e]))]
    split at h <;> try (cases h; done)
    · split at h <;> try (cases h; done)
      rw [nsRun_other h (fun j hj => hn j (by simp [hj])), hp]
    · rw [nsRun_other h (fun j hj => hn j (by simp [hj])), hp]

/-- A frame of which some slots aren't known. -/
noncomputable def mask (p : Nat → Prop) (T : List AV) : List AV := open Classical in T.mapIdx fun t x => if p t then .unk else x

theorem mask_get (p : Nat → Prop) (T : List AV) (t : Nat) (hp : ¬ p t) : (mask p T)[t]? = T[t]? := by
  unfold mask
  rw [List.getElem?_mapIdx]
  cases T[t]? with
  | none => rfl
  | some x => simp [hp]

theorem mask_rel {c : Ctx} {p : Nat → Prop} {T : List AV} {vs : List Value} (hl : T.length = vs.length) (h : ∀ (t : Nat) (x : AV), T[t]? = some x → ¬ p t → ∃ y, vs[t]? = some y ∧ Rel c x y) : RelL c (mask p T) vs := by
  refine relL_of_get (by unfold mask; simpa using hl) fun i x y hx hy => ?_
  unfold mask at hx
  rw [List.getElem?_mapIdx] at hx
  rw [Option.map_eq_some_iff] at hx
  obtain ⟨x0, h0, rfl⟩ := hx
  by_cases hp : p i
  · simp only [hp, if_true]; exact trivial
  · simp only [hp, if_false]
    obtain ⟨y', hy', r⟩ := h i x0 h0 hp
    rw [hy] at hy'
    cases hy'
    exact r

end Go.AH
