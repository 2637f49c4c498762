/- Trees of orders of a drawn region, and their check. No condition. -/
import Derived.Test.YtieaamjikcjbeaaA25
namespace Go.AH
set_option linter.unusedSimpArgs false
open Go
set_option linter.unusedVariables false
/-- A region that draws its order, of whose effects more than one may come next: the tree of orders. -/
inductive DT where
  | fin (ns fs : List Nat)
  | one (ns fs : List Nat) (e : Nat) (t : DT)
  | two (ns fs : List Nat) (e1 : Nat) (t1 : DT) (e2 : Nat) (t2 : DT)
/-- An effect, and what stands behind it. -/
def kidOp (P : Program) (K : AExit → List AV → Heap → Prop) (d : Option Tmp) (op : Op) (N : List AV → Heap → Prop) (T : List AV) (h : Heap) : Prop :=
  sOp P op T h (fun v h' => N (aPut T d v) h') (fun v h' => K (.pan v) (List.replicate T.length .unk) h')
def AftK (K : AExit → List AV → Heap → Prop) (d : Option Tmp) (N : List AV → Heap → Prop) (T : List AV) (r : AEnd) (h' : Heap) : Prop := match r with
  | .ret v => N (aPut T d v) h'
  | .pan v => K (.pan v) (List.replicate T.length .unk) h'
def kEv (d : Option Tmp) (N : List AV → Heap → Prop) (T : List AV) (r : Option (AV × Heap)) : Prop := match r with
  | some (v, h') => N (aPut T d v) h'
  | none => False
section
variable {P : Program} {K : AExit → List AV → Heap → Prop} {d : Option Tmp} {N : List AV → Heap → Prop} {T : List AV} {h : Heap}
theorem AftK_ret (v : AV) : AftK K d N T (.ret v) h = N (aPut T d v) h := (Eq.refl _).trans (Eq.refl _)
theorem AftK_pan (v : AV) : AftK K d N T (.pan v) h = K (.pan v) (List.replicate T.length .unk) h := (Eq.refl _).trans (Eq.refl _)
theorem kEv_some (v : AV) : kEv d N T (some (v, h)) = N (aPut T d v) h := (Eq.refl _).trans (Eq.refl _)
theorem kidOp_callF (n : FuncId) (as ts) : kidOp P K d (.call ⟨.value (.func n), as, ts⟩) N T h = ACalls P n (as.toList.map (aEval T)) h (AftK K d N T) := by
  rw [← List.append_nil (List.map (aEval T) as.toList)]
  rfl
theorem kidOp_callT (t : Tmp) (as ts) : kidOp P K d (.call ⟨.value (.tmp t), as, ts⟩) N T h = sCallV P (aEval T (.tmp t)) (as.toList.map (aEval T)) h (AftK K d N T) := by
  simp only [kidOp, sOp, sCallV]
  cases aEval T (.tmp t) with
  | fn f caps => cases f <;> rfl
  | _ => rfl
theorem kidOp_callB (b) (as ts) : kidOp P K d (.call ⟨.builtin b, as, ts⟩) N T h = kEv d N T (aBuiltin P h b ts (as.toList.map (aEval T))) := (Eq.refl _).trans (Eq.refl _)
theorem kidOp_alloc (x) : kidOp P K d (.alloc x) N T h = kEv d N T (ev P (aEval T) (.alloc x) h) := (Eq.refl _).trans (Eq.refl _)
theorem kidOp_box (x y) : kidOp P K d (.box x y) N T h = kEv d N T (ev P (aEval T) (.box x y) h) := (Eq.refl _).trans (Eq.refl _)
theorem kidOp_buildSlice (x y z) : kidOp P K d (.buildSlice x y z) N T h = kEv d N T (ev P (aEval T) (.buildSlice x y z) h) := (Eq.refl _).trans (Eq.refl _)
theorem kidOp_store (x y z) : kidOp P K d (.store x y z) N T h = kEv d N T (ev P (aEval T) (.store x y z) h) := (Eq.refl _).trans (Eq.refl _)
theorem kidOp_assign (x) : kidOp P K d (.assign x) N T h = kEv d N T (ev P (aEval T) (.assign x) h) := (Eq.refl _).trans (Eq.refl _)
theorem kidOp_move (x) : kidOp P K d (.move x) N T h = kEv d N T (ev P (aEval T) (.move x) h) := (Eq.refl _).trans (Eq.refl _)
theorem kidOp_convert (x y z) : kidOp P K d (.convert x y z) N T h = kEv d N T (ev P (aEval T) (.convert x y z) h) := (Eq.refl _).trans (Eq.refl _)
theorem kidOp_load (x y) : kidOp P K d (.load x y) N T h = kEv d N T (ev P (aEval T) (.load x y) h) := (Eq.refl _).trans (Eq.refl _)
theorem kidOp_extract (x y) : kidOp P K d (.extract x y) N T h = kEv d N T (ev P (aEval T) (.extract x y) h) := (Eq.refl _).trans (Eq.refl _)
theorem kidOp_pick (x y z) : kidOp P K d (.pick x y z) N T h = kEv d N T (ev P (aEval T) (.pick x y z) h) := (Eq.refl _).trans (Eq.refl _)
theorem kidOp_binOp (a b c x e) : kidOp P K d (.binOp a b c x e) N T h = kEv d N T (ev P (aEval T) (.binOp a b c x e) h) := (Eq.refl _).trans (Eq.refl _)
theorem kidOp_unOp (a b c) : kidOp P K d (.unOp a b c) N T h = kEv d N T (ev P (aEval T) (.unOp a b c) h) := (Eq.refl _).trans (Eq.refl _)
end
attribute [go_sem] kEv_some AftK_ret AftK_pan
attribute [go_sem ↓] AftK_ret AftK_pan kidOp_callF kidOp_callT kidOp_callB kidOp_alloc kidOp_box kidOp_buildSlice kidOp_store kidOp_assign kidOp_move kidOp_convert kidOp_load kidOp_extract kidOp_pick kidOp_binOp kidOp_unOp
def kidRun (P : Program) (ops : List SOp) (K : AExit → List AV → Heap → Prop) (e : Nat) (N : List AV → Heap → Prop) (T1 : List AV) (h : Heap) : Prop := match ops[e]? with
  | none => False
  | some o => match sGuard T1 o.g with
    | some true => kidOp P K o.dst o.op N T1 h
    | some false => N (aPut T1 o.dst (.tup [])) h
    | none => False
def DT.run (P : Program) (ops : List SOp) (K : AExit → List AV → Heap → Prop) : DT → List AV → Heap → Prop
  | .fin ns fs, T, h => match nsRun P ops ns T h with
    | none => False
    | some T1 => again P ops T1 h fs ∧ K .normal T1 h
  | .one ns fs e t, T, h => match nsRun P ops ns T h with
    | none => False
    | some T1 => again P ops T1 h fs ∧ kidRun P ops K e (t.run P ops K) T1 h
  | .two ns fs e1 t1 e2 t2, T, h => match nsRun P ops ns T h with
    | none => False
    | some T1 => again P ops T1 h fs ∧ kidRun P ops K e1 (t1.run P ops K) T1 h ∧ kidRun P ops K e2 (t2.run P ops K) T1 h
def DT.ns : DT → List Nat
  | .fin ns _ => ns
  | .one ns _ _ _ => ns
  | .two ns _ _ _ _ _ => ns
def DT.fs : DT → List Nat
  | .fin _ fs => fs
  | .one _ fs _ _ => fs
  | .two _ fs _ _ _ _ => fs
def DT.kids : DT → List (Nat × DT)
  | .fin _ _ => []
  | .one _ _ e t => [(e, t)]
  | .two _ _ e1 t1 e2 t2 => [(e1, t1), (e2, t2)]
def DT.cont (P : Program) (ops : List SOp) (K : AExit → List AV → Heap → Prop) (t : DT) (T : List AV) (h : Heap) : Prop :=
  (t.kids = [] → K .normal T h) ∧ ∀ e t', (e, t') ∈ t.kids → kidRun P ops K e (t'.run P ops K) T h
theorem DT.run_cont {P : Program} {ops : List SOp} {K : AExit → List AV → Heap → Prop} {t : DT} {T : List AV} {h : Heap} (r : t.run P ops K T h) : ∃ T1, nsRun P ops t.ns T h = some T1 ∧ again P ops T1 h t.fs ∧ t.cont P ops K T1 h := by
  cases t <;> simp only [DT.run] at r <;> split at r
  · exact r.elim
  · exact ⟨_, by assumption, r.1, fun _ => r.2, fun e t' q => by simp [DT.kids] at q⟩
  · exact r.elim
  · refine ⟨_, by assumption, r.1, fun q => by simp [DT.kids] at q, fun e t' q => ?_⟩
    simp only [DT.kids, List.mem_singleton, Prod.mk.injEq] at q
    obtain ⟨rfl, rfl⟩ := q
    exact r.2
  · exact r.elim
  · refine ⟨_, by assumption, r.1, fun q => by simp [DT.kids] at q, fun e t' q => ?_⟩
    simp only [DT.kids, List.mem_cons, Prod.mk.injEq, List.not_mem_nil, or_false] at q
    rcases q with ⟨rfl, rfl⟩ | ⟨rfl, rfl⟩
    · exact r.2.1
    · exact r.2.2

/-! ### what is asked of a tree -/
def lastAnc (anc : List (List Nat)) (pe : List Nat) (i : Nat) : Bool := match pe.getLast? with
  | none => true
  | some e => (anc.getD i []).contains e
def nodeOk (ops : List Oper) (anc : List (List Nat)) (E pe pns ns fs : List Nat) : Bool :=
  (ns.all fun i => decide (i < ops.length) && lastAnc anc pe i && notCall (ops.getD i default).op && (ops.getD i default).dst.isSome && !E.contains i) &&
  ((pns ++ ns).all fun i => fs.contains i || pe.any fun j => (anc.getD j []).contains i)
def coverOk (anc : List (List Nat)) (E pe es : List Nat) : Bool := E.all fun i => pe.contains i || es.contains i || E.any fun j => !pe.contains j && (anc.getD i []).contains j
def kidOk (E pe : List Nat) (e : Nat) : Bool := E.contains e && !pe.contains e
def DT.ok (ops : List Oper) (anc : List (List Nat)) (E : List Nat) : DT → List Nat → List Nat → Bool
  | .fin ns fs, pe, pns => nodeOk ops anc E pe pns ns fs && (E.all pe.contains && (List.range ops.length).all fun i => E.contains i || (pns ++ ns).contains i)
  | .one ns fs e t, pe, pns => nodeOk ops anc E pe pns ns fs && (kidOk E pe e && coverOk anc E pe [e] && t.ok ops anc E (pe ++ [e]) (pns ++ ns))
  | .two ns fs e1 t1 e2 t2, pe, pns => nodeOk ops anc E pe pns ns fs && (kidOk E pe e1 && kidOk E pe e2 && coverOk anc E pe [e1, e2] && t1.ok ops anc E (pe ++ [e1]) (pns ++ ns) && t2.ok ops anc E (pe ++ [e2]) (pns ++ ns))
def treeOk (ops : List Oper) (anc : List (List Nat)) (E : List Nat) (t : DT) : Bool :=
  ancOk ops ⟨E, [], [], anc⟩ && (E.all fun i => decide (i < ops.length)) &&
  ((List.range ops.length).all fun i => (ops.getD i default).after.toList.all fun e => !Region.binds .any e || decide (e.on < i)) &&
  ((List.range ops.length).all fun i => (reads ops (ops.getD i default)).all fun t => (List.range ops.length).all fun j =>
    E.contains j || (ops.getD j default).dst != some t || (anc.getD i []).contains j) &&
  t.ok ops anc E [] []
end Go.AH
