/- A weakest precondition over abstract states. No condition. -/
import Derived.Test.YtieaamjikcjbeaaA12
namespace Go.AH
set_option linter.unusedSimpArgs false
set_option linter.unusedVariables false
open Go

inductive AEnd where
  | ret (v : AV)
  | pan (v : AV)

def EndRel (c : Ctx) : AEnd → Ending → Prop
  | .ret v, e => ∃ v', e = .returned v' ∧ Rel c v v'
  | .pan v, e => ∃ v', e = .panicked [{ v := v', recovered := false }] ∧ Rel c v v'

/-- A function with a Go body. -/
def Callable (P : Program) (f : FuncId) : Prop := ∃ fn, P.funcs[f]? = some fn ∧ fn.body.isSome = true ∧ (fn.name == "runtime.NumGoroutine") = false

/-- From one state to another: what was known of the first n0 ids is known still. -/
structure Gets (n0 : Nat) (F : Nat → Prop) (β : Nat → Nat) (w : World) (h : Heap) (β' : Nat → Nat) (w' : World) (h' : Heap) : Prop where
  st : St F β' w' h'
  step : Step (Own β h) w w' (Own β' h')
  len : n0 ≤ h'.length
  β : ∀ id, id < n0 → β' id = β id

theorem Goes.gets {n0 : Nat} {F : Nat → Prop} {β β' : Nat → Nat} {w w' : World} {h h' : Heap} (g : Goes F β w h β' w' h') (hn : n0 ≤ h.length) : Gets n0 F β w h β' w' h' :=
  ⟨g.st, g.step, Nat.le_trans hn g.len, fun id hid => g.β id (Nat.lt_of_lt_of_le hid hn)⟩
theorem Gets.goes {F : Nat → Prop} {β β' : Nat → Nat} {w w' : World} {h h' : Heap} (g : Gets h.length F β w h β' w' h') : Goes F β w h β' w' h' := ⟨g.st, g.step, g.len, g.β⟩
theorem Gets.refl {n0 : Nat} {F : Nat → Prop} {β : Nat → Nat} {w : World} {h : Heap} (s : St F β w h) (hn : n0 ≤ h.length) : Gets n0 F β w h β w h := (Goes.refl s).gets hn
theorem Gets.trans {n0 : Nat} {F : Nat → Prop} {β β' β'' : Nat → Nat} {w w' w'' : World} {h h' h'' : Heap} (g : Gets n0 F β w h β' w' h') (k : Gets n0 F β' w' h' β'' w'' h'') : Gets n0 F β w h β'' w'' h'' :=
  ⟨k.st, g.step.trans k.step, k.len, fun id hid => (k.β id hid).trans (g.β id hid)⟩

/-- The contract of a call, abstractly. -/
def ACalls (P : Program) (f : FuncId) (args : List AV) (h : Heap) (K : AEnd → Heap → Prop) : Prop :=
  Callable P f ∧ ∀ (F : Nat → Prop) (β : Nat → Nat) (w : World) (vs : Array Value), St F β w h → RelL (ctx F β w h) args vs.toList →
    Calls P f vs w fun e w' => ∃ β' h' r, K r h' ∧ Goes F β w h β' w' h' ∧ EndRel (ctx F β' w' h') r e

theorem ACalls.mono {P : Program} {f : FuncId} {args : List AV} {h : Heap} {K K' : AEnd → Heap → Prop} (c : ACalls P f args h K) (hk : ∀ r h', K r h' → K' r h') : ACalls P f args h K' :=
  ⟨c.1, fun F β w vs s r => (c.2 F β w vs s r).mono fun _ _ ⟨β', h', q, k, g, e⟩ => ⟨β', h', q, hk _ _ k, g, e⟩⟩

inductive AExit where
  | normal
  | exit (id : Nat)
  | ret
  | pan (v : AV)

def ERel (c : Ctx) : AExit → Exit → Prop
  | .normal, e => e = .normal
  | .exit i, e => e = .exit i
  | .ret, e => e = .ret
  | .pan v, e => ∃ v', e = .panic [{ v := v', recovered := false }] ∧ Rel c v v'

/-- What stands behind a piece of code. -/
def Post (n0 : Nat) (F : Nat → Prop) (β : Nat → Nat) (w : World) (h : Heap) (D : List Deferred) (K : AExit → List AV → Heap → Prop) (e : Exit) (a : Act) (w' : World) : Prop :=
  ∃ x β' T' h', K x T' h' ∧ Gets n0 F β w h β' w' h' ∧ ERel (ctx F β' w' h') x e ∧ RelL (ctx F β' w' h') T' a.tmps.toList ∧ a.defers = D

def aW (P : Program) (n0 : Nat) (c : Code) (T : List AV) (h : Heap) (K : AExit → List AV → Heap → Prop) : Prop :=
  ∀ (F : Nat → Prop) (β : Nat → Nat) (w : World) (a : Act) (D : List Deferred), n0 ≤ h.length → St F β w h → RelL (ctx F β w h) T a.tmps.toList → a.defers = D → c.wp P (Post n0 F β w h D K) a w

def aEval (T : List AV) : Operand → AV
  | .tmp t => T.getD t .unk
  | .const v => ofConst v
  | .global _ => .unk
  | .func f => .fn (.func f) []

def aPut (T : List AV) (dst : Option Tmp) (v : AV) : List AV := match dst with
  | some d => T.set d v
  | none => T

/-- Is a guarded operation wanted? -/
def aGuard (ops : Array Oper) (T : List AV) (o : Oper) : Option Bool := match o.guard with
  | none => some true
  | some (j, want) => match (ops[j]?).bind (·.dst) with
    | none => some false
    | some d => match T[d]? with
      | none => some false
      | some (.bool b) => some (b == want)
      | some (.tup _) => some false
      | some _ => none

def aOp (P : Program) (o : Oper) (T : List AV) (h : Heap) (next : AV → Heap → Prop) (pan : AV → Heap → Prop) : Prop := match o.op with
  | .call c => match c.callee with
    | .value f => match aEval T f with
      | .fn (.func n) caps => ACalls P n (c.args.toList.map (aEval T) ++ caps) h fun r h' => match r with
        | .ret v => next v h'
        | .pan v => pan v h'
      | _ => False
    | .builtin b => match aBuiltin P h b c.argTypes (c.args.toList.map (aEval T)) with
      | some (v, h') => next v h'
      | none => False
    | .invoke _ _ => False
  | op => match ev P (aEval T) op h with
    | some (v, h') => next v h'
    | none => False

def aOps (P : Program) (ops : Array Oper) (K : AExit → List AV → Heap → Prop) : List Oper → List AV → Heap → Prop
  | [], T, h => K .normal T h
  | o :: os, T, h => match aGuard ops T o with
    | some g => if g = true then aOp P o T h (fun v h' => aOps P ops K os (aPut T o.dst v) h') (fun v h' => K (.pan v) T h') else aOps P ops K os (aPut T o.dst (.tup [])) h
    | none => False

theorem Act.put_defers' (a : Act) (x : Option Tmp) (v : Value) : (a.put x v).defers = a.defers := by cases x <;> rfl

section
variable {P : Program} {F : Nat → Prop} {β : Nat → Nat} {w : World} {h : Heap}

theorem aEval_rel {T : List AV} {a : Act} (r : RelL (ctx F β w h) T a.tmps.toList) (x : Operand) : Rel (ctx F β w h) (aEval T x) (a.eval x) := by
  cases x with
  | tmp t =>
    simp only [aEval, Act.eval]
    cases hT : T[t]? with
    | none => rw [List.getD, hT]; exact trivial
    | some x =>
      obtain ⟨y, hy, ry⟩ := r.get hT
      rw [List.getD, hT]
      rw [Array.getElem?_toList] at hy
      simp only [Option.getD_some]
      rw [Array.getD_eq_getD_getElem?, hy]
      exact ry
  | const v => exact rel_ofConst _ v
  | global g => exact trivial
  | func f => exact ⟨#[], rfl, rfl⟩

theorem aPut_rel {c : Ctx} {T : List AV} {a : Act} (r : RelL c T a.tmps.toList) {v : AV} {u : Value} (rv : Rel c v u) (dst : Option Tmp) : RelL c (aPut T dst v) (a.put dst u).tmps.toList := by
  cases dst with
  | none => exact r
  | some d => simpa [aPut, Act.put] using r.set rv d

theorem aGuard_rel {c : Ctx} {ops : Array Oper} {T : List AV} {a : Act} (r : RelL c T a.tmps.toList) {o : Oper} {g : Bool} (hg : aGuard ops T o = some g) : Region.wanted o (yielded ops a.tmps) = g := by
  unfold aGuard at hg
  unfold Region.wanted
  split at hg
  · rename_i hn; simp at hg; subst hg; rw [hn]
  · rename_i j want hn
    rw [hn]
    simp only
    unfold yielded
    split at hg
    · rename_i hd; simp at hg; subst hg; rw [hd]; rfl
    · rename_i d hd
      rw [hd, Option.bind_some]
      split at hg
      · rename_i hT
        simp at hg; subst hg
        have : a.tmps[d]? = none := by
          cases hv : a.tmps[d]? with
          | none => rfl
          | some y =>
            rw [← Array.getElem?_toList] at hv
            obtain ⟨x, hx, _⟩ := r.getR hv
            rw [hT] at hx; cases hx
        rw [this]; rfl
      · rename_i b hT
        simp at hg; subst hg
        obtain ⟨y, hy, ry⟩ := r.get hT
        rw [Array.getElem?_toList] at hy
        simp only [Rel] at ry
        subst ry
        rw [hy]
        cases b <;> cases want <;> rfl
      · rename_i vs hT
        simp at hg; subst hg
        obtain ⟨y, hy, us, rfl, _⟩ := r.get hT
        rw [Array.getElem?_toList] at hy
        rw [hy]; rfl
      · cases hg

theorem run_callFunc {f : FuncId} (hc : Callable P f) (args : Array Value) (w : World) : (callFunc f args).run P w = .ok (.enter f args) w := by
  obtain ⟨fn, h1, h2, h3⟩ := hc
  have h4 : fn.body.isNone = false := by cases hb : fn.body <;> simp [hb] at h2 ⊢
  simp only [callFunc, Sem.run_bind, run_program, Result.andThen_ok, h1, h3, h4, Bool.false_eq_true, if_false, Sem.run_pure]

/-- One operation. -/
theorem aOp_sound {o : Oper} {T : List AV} {next pan : AV → Heap → Prop} (ha : aOp P o T h next pan) (s : St F β w h) {a : Act} (r : RelL (ctx F β w h) T a.tmps.toList)
    {N : Act → World → Prop} {Q : Exit → Act → World → Prop}
    (hN : ∀ v v' w' β' h', next v h' → Goes F β w h β' w' h' → Rel (ctx F β' w' h') v v' → N (a.put o.dst v') w')
    (hQ : ∀ v v' w' β' h', pan v h' → Goes F β w h β' w' h' → Rel (ctx F β' w' h') v v' → Q (.panic [{ v := v', recovered := false }]) a w') : o.wp P a w N Q := by
  have plain : ∀ v h', ev P (aEval T) o.op h = some (v, h') → next v h' → o.wp P a w N Q := by
    intro v h' he hn
    obtain ⟨n, v', w', β', h1, h2, h3, h4⟩ := ev_sound (ρ' := a.eval) s (aEval_rel r) he
    unfold Oper.wp
    rw [h1]
    rcases h2 with rfl | ⟨rfl, rfl⟩
    · exact hN v v' w' β' h' hn h3 h4
    · exact hN v undef w' β' h' hn h3 h4
  unfold aOp at ha
  split at ha
  · rename_i c hop
    split at ha
    · rename_i f hf
      split at ha
      · rename_i n caps hv
        have rf := aEval_rel r f
        rw [hv] at rf
        obtain ⟨cs, ef, rcs⟩ := rf
        have hargs : RelL (ctx F β w h) (c.args.toList.map (aEval T) ++ caps) (c.args.map a.eval ++ cs).toList := by
          rw [Array.toList_append, Array.toList_map]
          exact (relL_map (aEval_rel r) _).append rcs
        have hc := ha.2 F β w _ s hargs
        have hrun : (execOp a.eval o).run P w = .ok (.enter n (c.args.map a.eval ++ cs)) w := by
          simp only [execOp, hop, resolve, hf, ef, Deferred.ofValue, Sem.run_bind, Sem.run_pure, Result.andThen_ok, invoke, Array.empty_append]
          exact run_callFunc ha.1 _ w
        unfold Oper.wp
        rw [hrun, Oper.upon_enter]
        refine hc.mono ?_
        rintro e w' ⟨β', h', q, hk, hg, he⟩
        cases q with
        | ret v => obtain ⟨v', rfl, rv⟩ := he; exact hN v v' w' β' h' hk hg rv
        | pan v => obtain ⟨v', rfl, rv⟩ := he; exact hQ v v' w' β' h' hk hg rv
      · exact ha.elim
    · rename_i b hb
      split at ha
      · rename_i v h' he
        exact plain v h' (by rw [hop]; simp only [ev, hb]; exact he) ha
      · exact ha.elim
    · exact ha.elim
  · split at ha
    · exact plain _ _ ‹_› ha
    · exact ha.elim

theorem aOps_sound {ops : Array Oper} {K : AExit → List AV → Heap → Prop} {n0 : Nat} {D : List Deferred} {β0 : Nat → Nat} {w0 : World} {h0 : Heap} : ∀ (os : List Oper) (l : List Nat) (β : Nat → Nat) (w : World) (h : Heap) (T : List AV) (a : Act),
    l.map (fun i => ops[i]?) = os.map some → aOps P ops K os T h → Gets n0 F β0 w0 h0 β w h → RelL (ctx F β w h) T a.tmps.toList → a.defers = D → wpOps P ops (Post n0 F β0 w0 h0 D K) l a w
  | [], l, β, w, h, T, a, hl, ha, g, r, hd => by
    cases l with
    | cons _ _ => simp at hl
    | nil => exact ⟨.normal, β, T, h, ha, g, rfl, r, hd⟩
  | o :: os, l, β, w, h, T, a, hl, ha, g, r, hd => by
    cases l with
    | nil => simp at hl
    | cons i l =>
      simp only [List.map_cons, List.cons.injEq] at hl
      obtain ⟨ho, hl⟩ := hl
      unfold aOps at ha
      split at ha
      · rename_i gd hgd
        have hw := aGuard_rel r hgd
        simp only [wpOps, ho, hw]
        split at ha
        · rename_i ht
          rw [if_pos ht]
          left
          refine aOp_sound ha g.st r ?_ ?_
          · intro v v' w' β' h' hn hg rv
            refine aOps_sound os l β' w' h' (aPut T o.dst v) _ hl hn (g.trans (hg.gets g.len)) (aPut_rel (RelL.le (hg.le g.st) _ _ r) rv _) ?_
            rw [Act.put_defers']
            exact hd
          · intro v v' w' β' h' hn hg rv
            exact ⟨.pan v, β', T, h', hn, g.trans (hg.gets g.len), ⟨v', rfl, rv⟩, RelL.le (hg.le g.st) _ _ r, hd⟩
        · rename_i ht
          rw [if_neg ht]
          refine aOps_sound os l β w h (aPut T o.dst (.tup [])) _ hl ha g (aPut_rel r (show Rel _ (.tup []) undef from ⟨#[], rfl, rfl⟩) _) ?_
          rw [Act.put_defers']
          exact hd
      · exact ha.elim

end
end Go.AH
