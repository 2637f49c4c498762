/- A weakest precondition over abstract states: rules, renaming, frames. No condition. -/
import Derived.Test.YtbdhilbngaemcaaGreatDoorAH
set_option linter.unusedVariables false
set_option linter.unusedSimpArgs false
namespace Go.AH
open Go

inductive AEnd where
  | ret (v : AV)
  | pan (v : AV)

def EndRel (c : Ctx) : AEnd → Ending → Prop
  | .ret v, e => ∃ v', e = .returned v' ∧ Rel c v v'
  | .pan v, e => ∃ v', e = .panicked [{ v := v', recovered := false }] ∧ Rel c v v'

/-- A function with a Go body. -/
def Callable (P : Program) (f : FuncId) : Prop := ∃ fn, P.funcs[f]? = some fn ∧ fn.body.isSome = true ∧ (fn.name == "runtime.NumGoroutine") = false

/-- From one state to another: what was known of the first n0 ids is known still. -/
structure Gets (n0 : Nat) (F : Fr) (β : Nat → Nat) (w : World) (h : Heap) (β' : Nat → Nat) (w' : World) (h' : Heap) : Prop where
  st : St F β' w' h'
  step : Step (Own β h) w w' (Own β' h')
  len : n0 ≤ h'.length
  β : ∀ id, id < n0 → β' id = β id

theorem Goes.gets {n0 : Nat} {F : Fr} {β β' : Nat → Nat} {w w' : World} {h h' : Heap} (g : Goes F β w h β' w' h') (hn : n0 ≤ h.length) : Gets n0 F β w h β' w' h' :=
  ⟨g.st, g.step, Nat.le_trans hn g.len, fun id hid => g.β id (Nat.lt_of_lt_of_le hid hn)⟩
theorem Gets.goes {F : Fr} {β β' : Nat → Nat} {w w' : World} {h h' : Heap} (g : Gets h.length F β w h β' w' h') : Goes F β w h β' w' h' := ⟨g.st, g.step, g.len, g.β⟩
theorem Gets.refl {n0 : Nat} {F : Fr} {β : Nat → Nat} {w : World} {h : Heap} (s : St F β w h) (hn : n0 ≤ h.length) : Gets n0 F β w h β w h := (Goes.refl s).gets hn
theorem Gets.trans {n0 : Nat} {F : Fr} {β β' β'' : Nat → Nat} {w w' w'' : World} {h h' h'' : Heap} (g : Gets n0 F β w h β' w' h') (k : Gets n0 F β' w' h' β'' w'' h'') : Gets n0 F β w h β'' w'' h'' :=
  ⟨k.st, g.step.trans k.step, k.len, fun id hid => (k.β id hid).trans (g.β id hid)⟩

/-- What a call does: its body runs, or an entry answers at once. -/
def Does (P : Program) (f : FuncId) (vs : Array Value) (w : World) (R : Ending → World → Prop) : Prop :=
  (Callable P f ∧ Calls P f vs w R) ∨ ∃ v w', (callFunc f vs).run P w = .ok (.value v) w' ∧ R (.returned v) w'
theorem Does.mono {P : Program} {f : FuncId} {vs : Array Value} {w : World} {R R' : Ending → World → Prop} (d : Does P f vs w R) (hr : ∀ e w', R e w' → R' e w') : Does P f vs w R' := by
  rcases d with ⟨h1, h2⟩ | ⟨v, w', h1, h2⟩
  · exact .inl ⟨h1, h2.mono hr⟩
  · exact .inr ⟨v, w', h1, hr _ _ h2⟩
/-- The contract of a call, abstractly. -/
def ACalls (P : Program) (f : FuncId) (args : List AV) (h : Heap) (K : AEnd → Heap → Prop) : Prop :=
  ∀ (F : Fr) (β : Nat → Nat) (w : World) (vs : Array Value), St F β w h → RelL (ctx F β w h) args vs.toList →
    Does P f vs w fun e w' => ∃ β' h' r, K r h' ∧ Goes F β w h β' w' h' ∧ EndRel (ctx F β' w' h') r e

theorem ACalls.mono {P : Program} {f : FuncId} {args : List AV} {h : Heap} {K K' : AEnd → Heap → Prop} (c : ACalls P f args h K) (hk : ∀ r h', K r h' → K' r h') : ACalls P f args h K' :=
  fun F β w vs s r => (c F β w vs s r).mono fun _ _ ⟨β', h', q, k, g, e⟩ => ⟨β', h', q, hk _ _ k, g, e⟩

inductive AExit where
  | normal
  | exit (id : Nat)
  | ret
  | pan (v : AV)

def ERel (c : Ctx) : AExit → Exit → Prop
  | .normal, e => e = .normal
  | .exit i, e => e = .exit i
  | .ret, e => e = .ret
  | .pan v, e => ∃ v', e = .panic [{ v := v', recovered := false }] ∧ Rel c v v'

/-- What stands behind a piece of code. -/
def Post (n0 : Nat) (F : Fr) (β : Nat → Nat) (w : World) (h : Heap) (D : List Deferred) (K : AExit → List AV → Heap → Prop) (e : Exit) (a : Act) (w' : World) : Prop :=
  ∃ x β' T' h', K x T' h' ∧ Gets n0 F β w h β' w' h' ∧ ERel (ctx F β' w' h') x e ∧ RelL (ctx F β' w' h') T' a.tmps.toList ∧ a.defers = D

def aW (P : Program) (n0 : Nat) (c : Code) (T : List AV) (h : Heap) (K : AExit → List AV → Heap → Prop) : Prop :=
  ∀ (F : Fr) (β : Nat → Nat) (w : World) (a : Act) (D : List Deferred), n0 ≤ h.length → St F β w h → RelL (ctx F β w h) T a.tmps.toList → a.defers = D → c.wp P (Post n0 F β w h D K) a w

def aEval (T : List AV) : Operand → AV
  | .tmp t => T.getD t .unk
  | .const v => ofConst v
  | .global g => .gptr g 0
  | .func f => .fn (.func f) []

def aPut (T : List AV) (dst : Option Tmp) (v : AV) : List AV := match dst with
  | some d => T.set d v
  | none => T

/-- Is a guarded operation wanted? -/
def aGuard (ops : Array Oper) (T : List AV) (o : Oper) : Option Bool := match o.guard with
  | none => some true
  | some (j, want) => match (ops[j]?).bind (·.dst) with
    | none => some false
    | some d => match T[d]? with
      | none => some false
      | some (.bool b) => some (b == want)
      | some (.tup _) => some false
      | some _ => none

/-- Which function a function value calls, and with what. -/
def fnArgs : AV → List AV → Option (FuncId × List AV)
  | .fn (.func n) caps, as => some (n, as ++ caps)
  | .bfn (.func n) first, as => some (n, first ++ as)
  | _, _ => none
def aOp (P : Program) (o : Oper) (T : List AV) (h : Heap) (next : AV → Heap → Prop) (pan : AV → Heap → Prop) : Prop := match o.op with
  | .call c => match c.callee with
    | .value f => match fnArgs (aEval T f) (c.args.toList.map (aEval T)) with
      | some (n, as) => ACalls P n as h fun r h' => match r with
        | .ret v => next v h'
        | .pan v => pan v h'
      | none => False
    | .builtin b => match bEv P h b c.argTypes (c.args.toList.map (aEval T)) with
      | some (v, h') => next v h'
      | none => False
    | .invoke _ _ => False
  | op => match ev P (aEval T) op h with
    | some (v, h') => next v h'
    | none => False

def aOps (P : Program) (ops : Array Oper) (K : AExit → List AV → Heap → Prop) : List Oper → List AV → Heap → Prop
  | [], T, h => K .normal T h
  | o :: os, T, h => match aGuard ops T o with
    | some g => if g = true then aOp P o T h (fun v h' => aOps P ops K os (aPut T o.dst v) h') (fun v h' => K (.pan v) T h') else aOps P ops K os (aPut T o.dst (.tup [])) h
    | none => False

theorem Act.put_defers' (a : Act) (x : Option Tmp) (v : Value) : (a.put x v).defers = a.defers := by cases x <;> rfl

section
variable {P : Program} {F : Fr} {β : Nat → Nat} {w : World} {h : Heap}

theorem aEval_rel {T : List AV} {a : Act} (r : RelL (ctx F β w h) T a.tmps.toList) (x : Operand) : Rel (ctx F β w h) (aEval T x) (a.eval x) := by
  cases x with
  | tmp t =>
    simp only [aEval, Act.eval]
    cases hT : T[t]? with
    | none => rw [List.getD, hT]; exact trivial
    | some x =>
      obtain ⟨y, hy, ry⟩ := r.get hT
      rw [List.getD, hT]
      rw [Array.getElem?_toList] at hy
      simp only [Option.getD_some]
      rw [Array.getD_eq_getD_getElem?, hy]
      exact ry
  | const v => exact rel_ofConst _ v
  | global g => rfl
  | func f => exact ⟨#[], rfl, rfl⟩

theorem aPut_rel {c : Ctx} {T : List AV} {a : Act} (r : RelL c T a.tmps.toList) {v : AV} {u : Value} (rv : Rel c v u) (dst : Option Tmp) : RelL c (aPut T dst v) (a.put dst u).tmps.toList := by
  cases dst with
  | none => exact r
  | some d => simpa [aPut, Act.put] using r.set rv d

theorem aGuard_rel {c : Ctx} {ops : Array Oper} {T : List AV} {a : Act} (r : RelL c T a.tmps.toList) {o : Oper} {g : Bool} (hg : aGuard ops T o = some g) : Region.wanted o (yielded ops a.tmps) = g := by
  unfold aGuard at hg
  unfold Region.wanted
  split at hg
  · rename_i hn; simp at hg; subst hg; rw [hn]
  · rename_i j want hn
    rw [hn]
    simp only
    unfold yielded
    split at hg
    · rename_i hd; simp at hg; subst hg; rw [hd]; rfl
    · rename_i d hd
      rw [hd, Option.bind_some]
      split at hg
      · rename_i hT
        simp at hg; subst hg
        have : a.tmps[d]? = none := by
          cases hv : a.tmps[d]? with
          | none => rfl
          | some y =>
            rw [← Array.getElem?_toList] at hv
            obtain ⟨x, hx, _⟩ := r.getR hv
            rw [hT] at hx; cases hx
        rw [this]; rfl
      · rename_i b hT
        simp at hg; subst hg
        obtain ⟨y, hy, ry⟩ := r.get hT
        rw [Array.getElem?_toList] at hy
        simp only [Rel] at ry
        subst ry
        rw [hy]
        cases b <;> cases want <;> rfl
      · rename_i vs hT
        simp at hg; subst hg
        obtain ⟨y, hy, us, rfl, _⟩ := r.get hT
        rw [Array.getElem?_toList] at hy
        rw [hy]; rfl
      · cases hg

theorem run_callFunc {f : FuncId} (hc : Callable P f) (args : Array Value) (w : World) : (callFunc f args).run P w = .ok (.enter f args) w := by
  obtain ⟨fn, h1, h2, h3⟩ := hc
  have h4 : fn.body.isNone = false := by cases hb : fn.body <;> simp [hb] at h2 ⊢
  simp only [callFunc, Sem.run_bind, run_program, Result.andThen_ok, h1, h3, h4, Bool.false_eq_true, if_false, Sem.run_pure]

/-- One operation. -/
theorem aOp_sound {o : Oper} {T : List AV} {next pan : AV → Heap → Prop} (ha : aOp P o T h next pan) (s : St F β w h) {a : Act} (r : RelL (ctx F β w h) T a.tmps.toList)
    {N : Act → World → Prop} {Q : Exit → Act → World → Prop}
    (hN : ∀ v v' w' β' h', next v h' → Goes F β w h β' w' h' → Rel (ctx F β' w' h') v v' → N (a.put o.dst v') w')
    (hQ : ∀ v v' w' β' h', pan v h' → Goes F β w h β' w' h' → Rel (ctx F β' w' h') v v' → Q (.panic [{ v := v', recovered := false }]) a w') : o.wp P a w N Q := by
  have plain : ∀ v h', ev P (aEval T) o.op h = some (v, h') → next v h' → o.wp P a w N Q := by
    intro v h' he hn
    obtain ⟨n, v', w', β', h1, h2, h3, h4⟩ := ev_sound (ρ' := a.eval) s (aEval_rel r) he
    unfold Oper.wp
    rw [h1]
    rcases h2 with rfl | ⟨rfl, rfl⟩
    · exact hN v v' w' β' h' hn h3 h4
    · exact hN v undef w' β' h' hn h3 h4
  unfold aOp at ha
  split at ha
  · rename_i c hop
    split at ha
    · rename_i f hf
      split at ha
      · rename_i n as hv
        have rf := aEval_rel r f
        have key : ∃ args : Array Value, (execOp a.eval o).run P w = (callFunc n args).run P w ∧ RelL (ctx F β w h) as args.toList := by
          have margs := relL_map (aEval_rel r) c.args.toList
          unfold fnArgs at hv
          split at hv <;> simp only [Option.some.injEq, Prod.mk.injEq, reduceCtorEq] at hv
          · rename_i n' caps hfv
            obtain ⟨rfl, rfl⟩ := hv
            rw [hfv] at rf
            obtain ⟨cs, ef, rcs⟩ := rf
            refine ⟨c.args.map a.eval ++ cs, ?_, ?_⟩
            · simp only [execOp, hop, resolve, hf, ef, Deferred.ofValue, Sem.run_bind, Sem.run_pure, Result.andThen_ok, invoke, Array.empty_append]
            · rw [Array.toList_append, Array.toList_map]
              exact margs.append rcs
          · rename_i n' first hfv
            obtain ⟨rfl, rfl⟩ := hv
            rw [hfv] at rf
            obtain ⟨cs, ef, rcs⟩ := rf
            refine ⟨cs ++ c.args.map a.eval, ?_, ?_⟩
            · simp only [execOp, hop, resolve, hf, ef, Deferred.ofValue, Sem.run_bind, Sem.run_pure, Result.andThen_ok, invoke, Array.append_empty]
            · rw [Array.toList_append, Array.toList_map]
              exact rcs.append margs
        obtain ⟨args, hrun, hargs⟩ := key
        unfold Oper.wp
        rw [hrun]
        rcases ha F β w _ s hargs with ⟨hcl, hc⟩ | ⟨v, w', h1, β', h', q, hk, hg, he⟩
        · rw [run_callFunc hcl, Oper.upon_enter]
          refine hc.mono ?_
          rintro e w' ⟨β', h', q, hk, hg, he⟩
          cases q with
          | ret v => obtain ⟨v', rfl, rv⟩ := he; exact hN v v' w' β' h' hk hg rv
          | pan v => obtain ⟨v', rfl, rv⟩ := he; exact hQ v v' w' β' h' hk hg rv
        · rw [h1]
          cases q with
          | ret v => obtain ⟨v', e1, rv⟩ := he; cases e1; exact hN v _ w' β' h' hk hg rv
          | pan v => obtain ⟨v', e1, rv⟩ := he; cases e1
      · exact ha.elim
    · rename_i b hb
      split at ha
      · rename_i v h' he
        exact plain v h' (by rw [hop, ev_builtin hb]; exact he) ha
      · exact ha.elim
    · exact ha.elim
  · split at ha
    · exact plain _ _ ‹_› ha
    · exact ha.elim

theorem aOps_sound {ops : Array Oper} {K : AExit → List AV → Heap → Prop} {n0 : Nat} {D : List Deferred} {β0 : Nat → Nat} {w0 : World} {h0 : Heap} : ∀ (os : List Oper) (l : List Nat) (β : Nat → Nat) (w : World) (h : Heap) (T : List AV) (a : Act),
    l.map (fun i => ops[i]?) = os.map some → aOps P ops K os T h → Gets n0 F β0 w0 h0 β w h → RelL (ctx F β w h) T a.tmps.toList → a.defers = D → wpOps P ops (Post n0 F β0 w0 h0 D K) l a w
  | [], l, β, w, h, T, a, hl, ha, g, r, hd => by
    cases l with
    | cons _ _ => simp at hl
    | nil => exact ⟨.normal, β, T, h, ha, g, rfl, r, hd⟩
  | o :: os, l, β, w, h, T, a, hl, ha, g, r, hd => by
    cases l with
    | nil => simp at hl
    | cons i l =>
      simp only [List.map_cons, List.cons.injEq] at hl
      obtain ⟨ho, hl⟩ := hl
      unfold aOps at ha
      split at ha
      · rename_i gd hgd
        have hw := aGuard_rel r hgd
        simp only [wpOps, ho, hw]
        split at ha
        · rename_i ht
          rw [if_pos ht]
          left
          refine aOp_sound ha g.st r ?_ ?_
          · intro v v' w' β' h' hn hg rv
            refine aOps_sound os l β' w' h' (aPut T o.dst v) _ hl hn (g.trans (hg.gets g.len)) (aPut_rel (RelL.le (hg.le g.st) _ _ r) rv _) ?_
            rw [Act.put_defers']
            exact hd
          · intro v v' w' β' h' hn hg rv
            exact ⟨.pan v, β', T, h', hn, g.trans (hg.gets g.len), ⟨v', rfl, rv⟩, RelL.le (hg.le g.st) _ _ r, hd⟩
        · rename_i ht
          rw [if_neg ht]
          refine aOps_sound os l β w h (aPut T o.dst (.tup [])) _ hl ha g (aPut_rel r (show Rel _ (.tup []) undef from ⟨#[], rfl, rfl⟩) _) ?_
          rw [Act.put_defers']
          exact hd
      · exact ha.elim

end
end Go.AH
namespace Go.AH
open Go

mutual
def ren (m : Nat → Nat) : AV → AV
  | .ptr id off => .ptr (m id) off
  | .iptr cs => .iptr (renL m cs)
  | .sl id off len cap => .sl (m id) off len cap
  | .gsl id len esz => .gsl (m id) len esz
  | .isl cs len => .isl (renL m cs) len
  | .map id => .map (m id)
  | .fn f caps => .fn f (renL m caps)
  | .gptr g off => .gptr g off
  | .anyb => .anyb
  | .atl k n => .atl k n
  | .txt p j => .txt p j
  | .oct p j => .oct p j
  | .bstr a b => .bstr a b
  | .osl id hi => .osl (m id) hi
  | .lnb id => .lnb (m id)
  | .bfn f caps => .bfn f (renL m caps)
  | .ifc t v => .ifc t (ren m v)
  | .agg cs => .agg (renL m cs)
  | .tup vs => .tup (renL m vs)
  | .any k => .any k
  | .lin k e => .lin k e
  | .sym l => .sym l
  | .unk => .unk
  | .bool b => .bool b
  | .int k n => .int k n
  | .str s => .str s
  | .nilp => .nilp
  | .nilsl => .nilsl
  | .esl => .esl
  | .nilm => .nilm
  | .nilf => .nilf
  | .nili => .nili
def renL (m : Nat → Nat) : List AV → List AV
  | [] => []
  | x :: xs => ren m x :: renL m xs
end

theorem renL_eq (m : Nat → Nat) : ∀ (xs : List AV), renL m xs = xs.map (ren m)
  | [] => rfl
  | x :: xs => by rw [renL, renL_eq m xs]; rfl

/-- No slice, and no pointer, that leans on cells which stay. -/
def noIsl : AV → Bool
  | .iptr _ => false
  | .isl _ _ => false
  | .bfn _ _ => false
  | .fn _ [] => true
  | .fn _ _ => false
  | .ifc _ _ => false
  | .agg cs => cs.all fun
    | .iptr _ | .isl _ _ | .bfn _ _ | .fn _ _ | .ifc _ _ | .agg _ | .tup _ => false
    | _ => true
  | .tup cs => cs.all fun
    | .iptr _ | .isl _ _ | .bfn _ _ | .fn _ _ | .ifc _ _ | .agg _ | .tup _ => false
    | _ => true
  | _ => true

def renB (m : Nat → Nat) : Blk → Blk
  | .row cs e wh => .row (renL m cs) e wh
  | .mp es clock => .mp (es.map fun x => (ren m x.1, ren m x.2.1, x.2.2)) clock
  | .siter s pos => .siter s pos
  | .yiter s pos => .yiter s pos
  | .ubytes e => .ubytes e

def noIslB : Blk → Bool
  | .row cs _ _ => cs.all noIsl
  | .mp es _ => es.all fun x => noIsl x.1 && noIsl x.2.1
  | .siter _ _ => true
  | .yiter _ _ => true
  | .ubytes _ => true

/-- c0's ids are read by way of m in c: same world; what c0 may write c may. -/
structure Via (m : Nat → Nat) (c0 c : Ctx) : Prop where
  w : c0.w = c.w
  β : ∀ id, id < c0.n → c0.β id = c.β (m id)
  n : ∀ id, m id < c.n → id < c0.n
  N : ∀ b, c0.N b → c.N b
  V : c0.V = c.V

mutual
theorem Rel.via {m : Nat → Nat} {c0 c : Ctx} (h : Via m c0 c) : ∀ (x : AV) (v : Value), Rel c (ren m x) v → Rel c0 x v
  | .unk, _, _ => trivial
  | .bool _, _, r => r
  | .any _, _, r => r
  | .lin _ _, _, r => by simp only [ren, Rel] at r ⊢; rw [h.V]; exact r
  | .sym _, _, r => by simp only [ren, Rel] at r ⊢; rw [h.V]; exact r
  | .int _ _, _, r => r
  | .str _, _, r => r
  | .nilp, _, r => r
  | .ptr id off, _, r => ⟨h.n id r.1, by rw [h.β id (h.n id r.1)]; exact r.2⟩
  | .iptr cs, _, ⟨b, o, e, hb, hN, hr⟩ => ⟨b, o, e, by rw [h.w]; exact hb, fun k => hN (h.N b k), Row.via h cs b o hr⟩
  | .nilsl, _, r => r
  | .esl, _, r => r
  | .sl id off len cap, _, r => ⟨h.n id r.1, by rw [h.β id (h.n id r.1)]; exact r.2⟩
  | .gsl id len esz, _, ⟨r, cap', e, h1, h2, h3⟩ => ⟨h.n id r, cap', e, by rw [h.β id (h.n id r), h.w]; exact ⟨h1, h2, h3⟩⟩
  | .isl cs len, _, ⟨a, cap', e, hl, hr⟩ => ⟨a, cap', e, hl, hr.imp id fun ⟨b, o, ha, hb, hN, hr⟩ => ⟨b, o, ha, by rw [h.w]; exact hb, fun k => hN (h.N b k), Row.via h cs b o hr⟩⟩
  | .nilm, _, r => r
  | .map id, _, r => ⟨h.n id r.1, by rw [h.β id (h.n id r.1)]; exact r.2⟩
  | .nilf, _, r => r
  | .fn _ caps, _, ⟨vs, e, r⟩ => ⟨vs, e, RelL.via h caps _ r⟩
  | .gptr _ _, _, r => r
  | .anyb, _, r => r
  | .atl _ _, _, r => r
  | .txt _ _, _, r => by unfold ren Rel at r; unfold Rel; rw [h.V]; exact r
  | .oct _ _, _, r => by unfold ren Rel at r; unfold Rel; rw [h.V]; exact r
  | .bstr _ _, _, r => r
  | .osl id hi, _, ⟨r, len, cap', e, h1, h2, h3, h4, h5⟩ => ⟨h.n id r, len, cap', e, by rw [h.β id (h.n id r), h.w]; exact ⟨h1, h2, h3, h4, h5⟩⟩
  | .lnb id, _, ⟨r, n, cap', e, h1, h2, h3, h5, h4⟩ => ⟨h.n id r, n, cap', e, h1, h2, h3, h5, by rw [h.β id (h.n id r), h.w]; exact h4⟩
  | .bfn _ caps, _, ⟨vs, e, r⟩ => ⟨vs, e, RelL.via h caps _ r⟩
  | .nili, _, r => r
  | .ifc _ x, _, ⟨y, e, r⟩ => ⟨y, e, Rel.via h x y r⟩
  | .agg cs, _, ⟨vs, e, r⟩ => ⟨vs, e, RelL.via h cs _ r⟩
  | .tup cs, _, ⟨vs, e, r⟩ => ⟨vs, e, RelL.via h cs _ r⟩
theorem RelL.via {m : Nat → Nat} {c0 c : Ctx} (h : Via m c0 c) : ∀ (xs : List AV) (vs : List Value), RelL c (renL m xs) vs → RelL c0 xs vs
  | [], _, r => r
  | x :: xs, _, ⟨y, ys, e, r, rs⟩ => ⟨y, ys, e, Rel.via h x y r, RelL.via h xs ys rs⟩
theorem Row.via {m : Nat → Nat} {c0 c : Ctx} (h : Via m c0 c) : ∀ (xs : List AV) (b o : Nat), Row c (renL m xs) b o → Row c0 xs b o
  | [], _, _, _ => trivial
  | x :: xs, b, o, ⟨⟨y, e, r⟩, rs⟩ => ⟨⟨y, by rw [h.w]; exact e, Rel.via h x y r⟩, Row.via h xs b (o + 1) rs⟩
end

theorem RelE.via {m : Nat → Nat} {c0 c : Ctx} (h : Via m c0 c) : ∀ {es : List (AV × AV × Nat)} {l : List MapEntry}, RelE c (es.map fun x => (ren m x.1, ren m x.2.1, x.2.2)) l → RelE c0 es l
  | [], _, r => r
  | (_, _, _) :: _, _, ⟨e, r, h1, h2, h3, h4, h5⟩ => ⟨e, r, h1, Rel.via h _ _ h2, Rel.via h _ _ h3, h4, RelE.via h h5⟩

theorem BlkRel.via {m : Nat → Nat} {c0 c : Ctx} (h : Via m c0 c) : ∀ {b : Blk} {o : Obj}, BlkRel c (renB m b) o → BlkRel c0 b o
  | .row _ _ _, _, ⟨vs, fz, e, ⟨ys, zs, e2, r, w⟩, f⟩ => ⟨vs, fz, e, ⟨ys, zs, e2, RelL.via h _ _ r, w⟩, f⟩
  | .mp _ _, _, ⟨l, e, r⟩ => ⟨l, e, RelE.via h r⟩
  | .siter _ _, _, r => r
  | .yiter _ _, _, r => by simp only [renB, BlkRel] at r ⊢; rw [h.V]; exact r
  | .ubytes _, _, r => r

/-- The other way about: what is known of c0 is known of c. -/
structure Out (m : Nat → Nat) (c0 c : Ctx) : Prop where
  w : c0.w = c.w
  β : ∀ id, id < c0.n → c.β (m id) = c0.β id
  n : ∀ id, id < c0.n → m id < c.n
  N : ∀ b, c.N b → c0.N b
  V : c0.V = c.V

mutual
theorem Rel.out {m : Nat → Nat} {c0 c : Ctx} (h : Out m c0 c) : ∀ (x : AV) (v : Value), Rel c0 x v → Rel c (ren m x) v
  | .unk, _, _ => trivial
  | .bool _, _, r => r
  | .any _, _, r => r
  | .lin _ _, _, r => by simp only [ren, Rel] at r ⊢; rw [← h.V]; exact r
  | .sym _, _, r => by simp only [ren, Rel] at r ⊢; rw [← h.V]; exact r
  | .int _ _, _, r => r
  | .str _, _, r => r
  | .nilp, _, r => r
  | .ptr id off, _, r => ⟨h.n id r.1, by rw [h.β id r.1]; exact r.2⟩
  | .iptr cs, _, ⟨b, o, e, hb, hN, hr⟩ => ⟨b, o, e, by rw [← h.w]; exact hb, fun k => hN (h.N b k), Row.out h cs b o hr⟩
  | .nilsl, _, r => r
  | .esl, _, r => r
  | .sl id off len cap, _, r => ⟨h.n id r.1, by rw [h.β id r.1]; exact r.2⟩
  | .gsl id len esz, _, ⟨r, cap', e, h1, h2, h3⟩ => ⟨h.n id r, cap', e, by rw [h.β id r, ← h.w]; exact ⟨h1, h2, h3⟩⟩
  | .isl cs len, _, ⟨a, cap', e, hl, hr⟩ => ⟨a, cap', e, hl, hr.imp id fun ⟨b, o, ha, hb, hN, hr⟩ => ⟨b, o, ha, by rw [← h.w]; exact hb, fun k => hN (h.N b k), Row.out h cs b o hr⟩⟩
  | .nilm, _, r => r
  | .map id, _, r => ⟨h.n id r.1, by rw [h.β id r.1]; exact r.2⟩
  | .nilf, _, r => r
  | .fn _ caps, _, ⟨vs, e, r⟩ => ⟨vs, e, RelL.out h caps _ r⟩
  | .gptr _ _, _, r => r
  | .anyb, _, r => r
  | .atl _ _, _, r => r
  | .txt _ _, _, r => by unfold Rel at r; unfold ren Rel; rw [← h.V]; exact r
  | .oct _ _, _, r => by unfold Rel at r; unfold ren Rel; rw [← h.V]; exact r
  | .bstr _ _, _, r => r
  | .osl id hi, _, ⟨r, len, cap', e, h1, h2, h3, h4, h5⟩ => ⟨h.n id r, len, cap', e, by rw [h.β id r, ← h.w]; exact ⟨h1, h2, h3, h4, h5⟩⟩
  | .lnb id, _, ⟨r, n, cap', e, h1, h2, h3, h5, h4⟩ => ⟨h.n id r, n, cap', e, h1, h2, h3, h5, by rw [h.β id r, ← h.w]; exact h4⟩
  | .bfn _ caps, _, ⟨vs, e, r⟩ => ⟨vs, e, RelL.out h caps _ r⟩
  | .nili, _, r => r
  | .ifc _ x, _, ⟨y, e, r⟩ => ⟨y, e, Rel.out h x y r⟩
  | .agg cs, _, ⟨vs, e, r⟩ => ⟨vs, e, RelL.out h cs _ r⟩
  | .tup cs, _, ⟨vs, e, r⟩ => ⟨vs, e, RelL.out h cs _ r⟩
theorem RelL.out {m : Nat → Nat} {c0 c : Ctx} (h : Out m c0 c) : ∀ (xs : List AV) (vs : List Value), RelL c0 xs vs → RelL c (renL m xs) vs
  | [], _, r => r
  | x :: xs, _, ⟨y, ys, e, r, rs⟩ => ⟨y, ys, e, Rel.out h x y r, RelL.out h xs ys rs⟩
theorem Row.out {m : Nat → Nat} {c0 c : Ctx} (h : Out m c0 c) : ∀ (xs : List AV) (b o : Nat), Row c0 xs b o → Row c (renL m xs) b o
  | [], _, _, _ => trivial
  | x :: xs, b, o, ⟨⟨y, e, r⟩, rs⟩ => ⟨⟨y, by rw [← h.w]; exact e, Rel.out h x y r⟩, Row.out h xs b (o + 1) rs⟩
end

theorem RelE.out {m : Nat → Nat} {c0 c : Ctx} (h : Out m c0 c) : ∀ {es : List (AV × AV × Nat)} {l : List MapEntry}, RelE c0 es l → RelE c (es.map fun x => (ren m x.1, ren m x.2.1, x.2.2)) l
  | [], _, r => r
  | (_, _, _) :: _, _, ⟨e, r, h1, h2, h3, h4, h5⟩ => ⟨e, r, h1, Rel.out h _ _ h2, Rel.out h _ _ h3, h4, RelE.out h h5⟩

theorem BlkRel.out {m : Nat → Nat} {c0 c : Ctx} (h : Out m c0 c) : ∀ {b : Blk} {o : Obj}, BlkRel c0 b o → BlkRel c (renB m b) o
  | .row _ _ _, _, ⟨vs, fz, e, ⟨ys, zs, e2, r, w⟩, f⟩ => ⟨vs, fz, e, ⟨ys, zs, e2, RelL.out h _ _ r, w⟩, f⟩
  | .mp _ _, _, ⟨l, e, r⟩ => ⟨l, e, RelE.out h r⟩
  | .siter _ _, _, r => r
  | .yiter _ _, _, r => by simp only [renB, BlkRel] at r ⊢; rw [← h.V]; exact r
  | .ubytes _, _, r => r

/-- Values that lean on no such cells don't ask which blocks may be written. -/
theorem Rel.noIsl1 {c c' : Ctx} (hw : c.w = c'.w) (hβ : c.β = c'.β) (hn : c.n = c'.n) (hV : c.V = c'.V) {x : AV} {v : Value} (h : (match x with | .iptr _ | .isl _ _ | .bfn _ _ | .fn _ _ | .ifc _ _ | .agg _ | .tup _ => false | _ => true) = true) (r : Rel c x v) : Rel c' x v := by
  cases x <;> simp at h <;> simp only [Rel] at r ⊢ <;> first | exact r | (rw [← hV]; exact r) | (rw [← hβ, ← hn]; exact r) | (rw [← hβ, ← hn, ← hw]; exact r) | skip

theorem RelL.noIsl1 {c c' : Ctx} (hw : c.w = c'.w) (hβ : c.β = c'.β) (hn : c.n = c'.n) (hV : c.V = c'.V) : ∀ {xs : List AV} {vs : List Value}, (xs.all fun | .iptr _ | .isl _ _ | .bfn _ _ | .fn _ _ | .ifc _ _ | .agg _ | .tup _ => false | _ => true) = true → RelL c xs vs → RelL c' xs vs
  | [], _, _, r => r
  | x :: xs, _, h, ⟨y, ys, e, r, rs⟩ => by
    rw [List.all_cons, Bool.and_eq_true] at h
    exact ⟨y, ys, e, Rel.noIsl1 hw hβ hn hV h.1 r, RelL.noIsl1 hw hβ hn hV h.2 rs⟩

theorem Rel.noIsl {c c' : Ctx} (hw : c.w = c'.w) (hβ : c.β = c'.β) (hn : c.n = c'.n) (hV : c.V = c'.V) {x : AV} {v : Value} (h : AH.noIsl x = true) (r : Rel c x v) : Rel c' x v := by
  cases x
  case agg cs => obtain ⟨vs, e, r⟩ := r; exact ⟨vs, e, RelL.noIsl1 hw hβ hn hV h r⟩
  case tup cs => obtain ⟨vs, e, r⟩ := r; exact ⟨vs, e, RelL.noIsl1 hw hβ hn hV h r⟩
  case fn f caps =>
    cases caps with
    | nil => obtain ⟨vs, e, r⟩ := r; exact ⟨vs, e, r⟩
    | cons _ _ => simp [AH.noIsl] at h
  case iptr => simp [AH.noIsl] at h
  case bfn => simp [AH.noIsl] at h
  case isl => simp [AH.noIsl] at h
  case ifc => simp [AH.noIsl] at h
  all_goals exact Rel.noIsl1 hw hβ hn hV rfl r

theorem RelL.noIsl {c c' : Ctx} (hw : c.w = c'.w) (hβ : c.β = c'.β) (hn : c.n = c'.n) (hV : c.V = c'.V) : ∀ {xs : List AV} {vs : List Value}, xs.all AH.noIsl = true → RelL c xs vs → RelL c' xs vs
  | [], _, _, r => r
  | x :: xs, _, h, ⟨y, ys, e, r, rs⟩ => by
    rw [List.all_cons, Bool.and_eq_true] at h
    exact ⟨y, ys, e, Rel.noIsl hw hβ hn hV h.1 r, RelL.noIsl hw hβ hn hV h.2 rs⟩

theorem RelE.noIsl {c c' : Ctx} (hw : c.w = c'.w) (hβ : c.β = c'.β) (hn : c.n = c'.n) (hV : c.V = c'.V) : ∀ {es : List (AV × AV × Nat)} {l : List MapEntry}, (es.all fun x => AH.noIsl x.1 && AH.noIsl x.2.1) = true → RelE c es l → RelE c' es l
  | [], _, _, r => r
  | (_, _, _) :: _, _, h, ⟨e, r, h1, h2, h3, h4, h5⟩ => by
    rw [List.all_cons, Bool.and_eq_true, Bool.and_eq_true] at h
    exact ⟨e, r, h1, Rel.noIsl hw hβ hn hV h.1.1 h2, Rel.noIsl hw hβ hn hV h.1.2 h3, h4, RelE.noIsl hw hβ hn hV h.2 h5⟩

theorem BlkRel.noIsl {c c' : Ctx} (hw : c.w = c'.w) (hβ : c.β = c'.β) (hn : c.n = c'.n) (hV : c.V = c'.V) : ∀ {b : Blk} {o : Obj}, noIslB b = true → BlkRel c b o → BlkRel c' b o
  | .row _ _ _, _, h, ⟨vs, fz, e, ⟨ys, zs, e2, r, w⟩, f⟩ => ⟨vs, fz, e, ⟨ys, zs, e2, RelL.noIsl hw hβ hn hV h r, w⟩, f⟩
  | .mp _ _, _, h, ⟨l, e, r⟩ => ⟨l, e, RelE.noIsl hw hβ hn hV h r⟩
  | .siter _ _, _, _, r => r
  | .yiter _ _, _, _, r => by simp only [BlkRel] at r ⊢; rw [← hV]; exact r
  | .ubytes _, _, _, r => r

end Go.AH
namespace Go.AH
open Go

/-- x0 says no more than x: it says nothing, or is x, its ids being read by way of m. -/
def LeV (m : Nat → Nat) (x0 x : AV) : Prop := match x0 with
  | .unk => True
  | x0 => ren m x0 = x

def LeL (m : Nat → Nat) : List AV → List AV → Prop
  | [], [] => True
  | x0 :: l0, x :: l => LeV m x0 x ∧ LeL m l0 l
  | _, _ => False

structure Weak (n0 : Nat) (m : Nat → Nat) (T0 : List AV) (h0 : Heap) (T : List AV) (h : Heap) : Prop where
  vals : LeL m T0 T
  blk : ∀ id b0, h0[id]? = some (some b0) → h[m id]? = some (some (renB m b0))
  inj : ∀ (i j : Nat) (bi bj : Blk), h0[i]? = some (some bi) → h0[j]? = some (some bj) → m i = m j → i = j
  fix : ∀ id, id < n0 → m id = id
  len : n0 ≤ h0.length
  lt : ∀ id, id < h0.length → m id < h.length
  out : ∀ id, m id < h.length → id < h0.length

theorem LeV.rel {m : Nat → Nat} {c0 c : Ctx} (hv : Via m c0 c) {x0 x : AV} {v : Value} (h : LeV m x0 x) (r : Rel c x v) : Rel c0 x0 v := by
  unfold LeV at h
  split at h
  · exact trivial
  · subst h; exact Rel.via hv _ _ r

theorem LeL.rel {m : Nat → Nat} {c0 c : Ctx} (hv : Via m c0 c) : ∀ {l0 l : List AV} {vs : List Value}, LeL m l0 l → RelL c l vs → RelL c0 l0 vs
  | [], [], _, _, r => r
  | [], _ :: _, _, h, _ => h.elim
  | _ :: _, [], _, h, _ => h.elim
  | _ :: _, _ :: _, _, h, ⟨y, ys, e, r, rs⟩ => ⟨y, ys, e, h.1.rel hv r, LeL.rel hv h.2 rs⟩

section
variable {P : Program} {F : Fr} {n0 : Nat} {m : Nat → Nat} {T0 T : List AV} {h0 h : Heap} {β : Nat → Nat} {w : World}

theorem Weak.via (k : Weak n0 m T0 h0 T h) : Via m (ctx F (fun id => β (m id)) w h0) (ctx F β w h) where
  w := rfl
  β _ _ := rfl
  n := k.out
  N b hb := by
    rcases hb with ⟨id, blk, hb, e⟩ | hb
    · exact .inl ⟨m id, _, k.blk id blk hb, e⟩
    · exact .inr hb
  V := rfl

theorem Weak.own (k : Weak n0 m T0 h0 T h) {b : Nat} (hb : Own (fun id => β (m id)) h0 b) : Own β h b := by
  obtain ⟨id, blk, hb, e⟩ := hb
  exact ⟨m id, _, k.blk id blk hb, e⟩

theorem lt_of_some {α : Type} {l : List α} {i : Nat} {x : α} (h : l[i]? = some x) : i < l.length := (List.getElem?_eq_some_iff.1 h).1

theorem Weak.st (k : Weak n0 m T0 h0 T h) (s : St F β w h) : St F (fun id => β (m id)) w h0 where
  live id blk hb := by
    obtain ⟨o, ho, hr⟩ := s.live (m id) _ (k.blk id blk hb)
    exact ⟨o, ho, BlkRel.via (k.via) hr⟩
  inj i j bi bj hi hj e := k.inj i j bi bj hi hj (s.inj _ _ _ _ (k.blk i bi hi) (k.blk j bj hj) e)
  sep b hF q := s.sep b hF (k.own q)
  flt := s.flt
  lt id hid := s.lt _ (k.lt id hid)
  gl := s.gl.mono fun _ q => k.own q

theorem Step.weaken {O O2 O' : Nat → Prop} {w w' : World} (h : Step O w w' O') (ho : ∀ b, O b → O2 b) : Step O2 w w' O' :=
  ⟨h.os, h.tape, h.output, h.size, fun b hb hO => h.keep b hb fun q => hO (ho b q), h.shape, fun b q => (h.own b q).imp (ho b) id⟩
theorem Step.shrink {O O' O2 : Nat → Prop} {w w' : World} (h : Step O w w' O') (ho : ∀ b, O2 b → O' b) : Step O w w' O2 :=
  ⟨h.os, h.tape, h.output, h.size, h.keep, h.shape, fun b q => h.own b (ho b q)⟩

theorem aW_weak {c : Code} {K : AExit → List AV → Heap → Prop} (k : Weak n0 m T0 h0 T h) (a : aW P n0 c T0 h0 K) : aW P n0 c T h K := by
  intro F β w act D hn s r hd
  refine wp_mono (a F (fun id => β (m id)) w act D k.len (k.st s) (k.vals.rel k.via r) hd) ?_
  rintro e a' w' ⟨x, β', T', h', hk, g, he, hr, hd'⟩
  exact ⟨x, β', T', h', hk, ⟨g.st, g.step.weaken fun b => k.own, g.len, fun id hid => (g.β id hid).trans (by rw [k.fix id hid])⟩, he, hr, hd'⟩

theorem Weak.gets {βs : Nat → Nat} {ws : World} {hs : Heap} (k : Weak n0 m T0 h0 T h) (g : Gets n0 F βs ws hs β w h) : Gets n0 F βs ws hs (fun id => β (m id)) w h0 :=
  ⟨k.st g.st, g.step.shrink fun b => k.own, k.len, fun id hid => by simp only [k.fix id hid]; exact g.β id hid⟩

/-! ### rules -/
theorem aW_mono {c : Code} {K K' : AExit → List AV → Heap → Prop} (a : aW P n0 c T h K) (hk : ∀ e T h, n0 ≤ h.length → K e T h → K' e T h) : aW P n0 c T h K' := by
  intro F β w act D hn s r hd
  refine wp_mono (a F β w act D hn s r hd) ?_
  rintro e a' w' ⟨x, β', T', h', q, g, he, hr, hd'⟩
  exact ⟨x, β', T', h', hk _ _ _ g.len q, g, he, hr, hd'⟩

theorem aW_skip {K : AExit → List AV → Heap → Prop} (k : K .normal T h) : aW P n0 .skip T h K :=
  fun _ _ _ _ _ hn s r hd => wp_skip ⟨.normal, _, T, h, k, Gets.refl s hn, rfl, r, hd⟩
theorem aW_ret {K : AExit → List AV → Heap → Prop} (k : K .ret T h) : aW P n0 .ret T h K :=
  fun _ _ _ _ _ hn s r hd => wp_ret ⟨.ret, _, T, h, k, Gets.refl s hn, rfl, r, hd⟩
theorem aW_exit {id : Nat} {K : AExit → List AV → Heap → Prop} (k : K (.exit id) T h) : aW P n0 (.exit id) T h K :=
  fun _ _ _ _ _ hn s r hd => wp_exit ⟨.exit id, _, T, h, k, Gets.refl s hn, rfl, r, hd⟩
theorem aW_label {l : Nat} {K : AExit → List AV → Heap → Prop} (k : K .normal T h) : aW P n0 (.label l) T h K :=
  fun _ _ _ _ _ hn s r hd => wp_label ⟨.normal, _, T, h, k, Gets.refl s hn, rfl, r, hd⟩

theorem aW_region {id : Nat} {ops : Array Oper} {K : AExit → List AV → Heap → Prop} (k : aOps P ops K ops.toList T h) : aW P n0 (.region id ops false) T h K := by
  intro F β w a D hn s r hd
  refine wp_region (aOps_sound ops.toList _ β w h T a ?_ k (Gets.refl s hn) r hd)
  apply List.ext_getElem?
  intro i
  by_cases hi : i < ops.size
  · simp [hi]
  · rw [List.getElem?_eq_none (by simpa using hi), List.getElem?_eq_none (by simpa using hi)]

/-- What stands behind the first of two. -/
def Then (P : Program) (n0 : Nat) (y : Code) (K : AExit → List AV → Heap → Prop) : AExit → List AV → Heap → Prop
  | .normal, T, h => aW P n0 y T h K
  | e, T, h => K e T h

theorem aW_seq {x y : Code} {K : AExit → List AV → Heap → Prop} (a : aW P n0 x T h (Then P n0 y K)) : aW P n0 (.seq x y) T h K := by
  intro F β w act D hn s r hd
  refine wp_seq (wp_mono (a F β w act D hn s r hd) ?_)
  rintro e a' w' ⟨x, β', T', h', q, g, he, hr, hd'⟩
  cases x with
  | normal =>
    cases he
    refine wp_mono (q F β' w' a' D g.len g.st hr hd') ?_
    rintro e2 a2 w2 ⟨x2, β2, T2, h2, q2, g2, he2, hr2, hd2⟩
    exact ⟨x2, β2, T2, h2, q2, g.trans g2, he2, hr2, hd2⟩
  | exit id => cases he; exact ⟨.exit id, β', T', h', q, g, rfl, hr, hd'⟩
  | ret => cases he; exact ⟨.ret, β', T', h', q, g, rfl, hr, hd'⟩
  | pan v => obtain ⟨v', rfl, rv⟩ := he; exact ⟨.pan v, β', T', h', q, g, ⟨v', rfl, rv⟩, hr, hd'⟩

theorem aW_cond {c : Operand} {x y : Code} {b : Bool} {K : AExit → List AV → Heap → Prop} (hc : aEval T c = .bool b) (ht : b = true → aW P n0 x T h K) (hf : b = false → aW P n0 y T h K) : aW P n0 (.cond c x y) T h K := by
  intro F β w act D hn s r hd
  have rc := aEval_rel r c
  rw [hc] at rc
  simp only [Rel] at rc
  exact wp_cond_split rc (fun e => ht e F β w act D hn s r hd) (fun e => hf e F β w act D hn s r hd)

def InBlock (id : Nat) (K : AExit → List AV → Heap → Prop) : AExit → List AV → Heap → Prop
  | .exit i, T, h => if i = id then K .normal T h else K (.exit i) T h
  | e, T, h => K e T h

theorem aW_block {id : Nat} {c : Code} {K : AExit → List AV → Heap → Prop} (a : aW P n0 c T h (InBlock id K)) : aW P n0 (.block id c) T h K := by
  intro F β w act D hn s r hd
  refine wp_block (wp_mono (a F β w act D hn s r hd) ?_)
  rintro e a' w' ⟨x, β', T', h', q, g, he, hr, hd'⟩
  cases x with
  | normal => cases he; exact ⟨.normal, β', T', h', q, g, rfl, hr, hd'⟩
  | exit i =>
    cases he
    simp only [InBlock] at q
    simp only [Exit.inBlock]
    split
    · rename_i hi; rw [if_pos hi] at q; exact ⟨.normal, β', T', h', q, g, rfl, hr, hd'⟩
    · rename_i hi; rw [if_neg hi] at q; exact ⟨.exit i, β', T', h', q, g, rfl, hr, hd'⟩
  | ret => cases he; exact ⟨.ret, β', T', h', q, g, rfl, hr, hd'⟩
  | pan v => obtain ⟨v', rfl, rv⟩ := he; exact ⟨.pan v, β', T', h', q, g, ⟨v', rfl, rv⟩, hr, hd'⟩

/-- What a round of a loop leaves: the invariant, of what is still known, at a smaller number. -/
def Round (n0 : Nat) (I : Nat → List AV → Heap → Prop) (n : Nat) (K : AExit → List AV → Heap → Prop) : AExit → List AV → Heap → Prop
  | .normal, T, h => ∃ n' m T0 h0, n' < n ∧ Weak n0 m T0 h0 T h ∧ I n' T0 h0
  | e, T, h => K e T h

theorem aW_loop {c : Code} {K : AExit → List AV → Heap → Prop} (I : Nat → List AV → Heap → Prop) (n : Nat) (hI : I n T h) (round : ∀ n T h, n0 ≤ h.length → I n T h → aW P n0 c T h (Round n0 I n K)) : aW P n0 (.loop c) T h K := by
  intro F β w act D hn s r hd
  refine wp_loop_ghost (fun n a w' => ∃ β' T' h', I n T' h' ∧ Gets n0 F β w h β' w' h' ∧ RelL (ctx F β' w' h') T' a.tmps.toList ∧ a.defers = D) n ⟨β, T, h, hI, Gets.refl s hn, r, hd⟩ ?_
  rintro n a1 w1 ⟨β1, T1, h1, hI1, g1, r1, hd1⟩
  refine wp_mono (round n T1 h1 g1.len hI1 F β1 w1 a1 D g1.len g1.st r1 hd1) ?_
  rintro e a' w' ⟨x, β', T', h', q, g, he, hr, hd'⟩
  cases x with
  | normal =>
    cases he
    obtain ⟨n', m, T0, h0, hlt, k, hI'⟩ := q
    exact ⟨n', hlt, _, T0, h0, hI', k.gets (g1.trans g), k.vals.rel k.via hr, hd'⟩
  | exit i => cases he; exact ⟨.exit i, β', T', h', q, g1.trans g, rfl, hr, hd'⟩
  | ret => cases he; exact ⟨.ret, β', T', h', q, g1.trans g, rfl, hr, hd'⟩
  | pan v => obtain ⟨v', rfl, rv⟩ := he; exact ⟨.pan v, β', T', h', q, g1.trans g, ⟨v', rfl, rv⟩, hr, hd'⟩

/-! ### a function's body -/
def aRes1 (P : Program) (T : List AV) (h : Heap) : ResultVar → Option AV
  | .tmp t => some (T.getD t .unk)
  | .cell a t => aLoad P h t (T.getD a .unk)
def aRess (P : Program) (T : List AV) (h : Heap) : List ResultVar → Option (List AV)
  | [] => some []
  | r :: rs => match aRes1 P T h r, aRess P T h rs with
    | some v, some vs => some (v :: vs)
    | _, _ => none
def aResults (P : Program) (rs : List ResultVar) (T : List AV) (h : Heap) : Option AV := match aRess P T h rs with
  | some [v] => some v
  | some vs => some (.tup vs)
  | none => none

def res1 (tmps : Array Value) : ResultVar → Sem Value
  | .tmp t => pure (tmps.getD t undef)
  | .cell a t => do loadVar t (← asAddr (tmps.getD a undef))

theorem results_eq (fn : Func) (tmps : Array Value) : results fn tmps = (do
    let vs ← fn.results.toList.mapM (res1 tmps)
    pure (if h : vs.toArray.size = 1 then vs.toArray[0] else .tuple vs.toArray)) := by
  unfold results
  rw [Array.mapM_eq_mapM_toList]
  simp only [map_eq_pure_bind, bind_assoc, pure_bind]
  congr 1

theorem run_aRess {T : List AV} {tmps : Array Value} (s : St F β w h) (r : RelL (ctx F β w h) T tmps.toList) : ∀ (rs : List ResultVar) (vs : List AV), aRess P T h rs = some vs →
    ∃ us, (rs.mapM (res1 tmps)).run P w = .ok us w ∧ RelL (ctx F β w h) vs us
  | [], vs, hv => by simp [aRess] at hv; subst hv; exact ⟨[], by simp, rfl⟩
  | x :: rs, vs, hv => by
    unfold aRess at hv
    split at hv <;> simp only [Option.some.injEq, reduceCtorEq] at hv
    rename_i v vs' h1 h2
    subst hv
    obtain ⟨us, hus, rus⟩ := run_aRess s r rs vs' h2
    have key : ∀ t, Rel (ctx F β w h) (T.getD t .unk) (tmps.getD t undef) := fun t => aEval_rel (a := ⟨tmps, []⟩) r (.tmp t)
    have fin : ∀ u, (res1 tmps x).run P w = .ok u w → Rel (ctx F β w h) v u → ∃ us, ((x :: rs).mapM (res1 tmps)).run P w = .ok us w ∧ RelL (ctx F β w h) (v :: vs') us := by
      intro u hu ru
      refine ⟨u :: us, ?_, u, us, rfl, ru, rus⟩
      rw [List.mapM_cons]
      simp only [Sem.run_bind, hu, hus, Result.andThen_ok, Sem.run_pure]
    cases x with
    | tmp t =>
      simp only [aRes1, Option.some.injEq] at h1
      subst h1
      exact fin _ rfl (key t)
    | cell a t =>
      simp only [aRes1] at h1
      obtain ⟨u, hu, ru⟩ := run_aLoad (P := P) s h1 (key a)
      have ha : ∃ ad, tmps.getD a undef = .pointer (some ad) := by
        have := key a
        unfold aLoad at h1
        split at h1
        · rename_i hx; rw [hx] at this; exact ⟨_, this.2⟩
        · rename_i hx; rw [hx] at this; obtain ⟨b, o, e, _⟩ := this; exact ⟨_, e⟩
        · cases h1
      obtain ⟨ad, had⟩ := ha
      rw [had] at hu
      simp only [Instr.loadAt, Instr.sureAddr, Sem.run_bind, Sem.run_pure, Result.andThen_ok] at hu
      refine fin u ?_ ru
      simp only [res1, had, asAddr, Sem.run_bind, Sem.run_pure, Result.andThen_ok]
      exact hu

theorem run_aResults {fn : Func} {T : List AV} {tmps : Array Value} {v : AV} (s : St F β w h) (r : RelL (ctx F β w h) T tmps.toList) (hv : aResults P fn.results.toList T h = some v) : ∃ u, (results fn tmps).run P w = .ok u w ∧ Rel (ctx F β w h) v u := by
  unfold aResults at hv
  have conv : ∀ us : List Value, (fn.results.toList.mapM (res1 tmps)).run P w = .ok us w → (results fn tmps).run P w = .ok (if h : us.toArray.size = 1 then us.toArray[0] else .tuple us.toArray) w := by
    intro us hus
    rw [results_eq]
    simp only [Sem.run_bind, hus, Result.andThen_ok, Sem.run_pure]
  split at hv
  · rename_i x hx
    simp only [Option.some.injEq] at hv
    subst hv
    obtain ⟨us, h1, u, us', rfl, ru, h3⟩ := run_aRess (P := P) s r _ _ hx
    have h3' : us' = [] := h3
    subst h3'
    exact ⟨u, by rw [conv _ h1]; rfl, ru⟩
  · rename_i vs hne hx
    simp only [Option.some.injEq] at hv
    subst hv
    obtain ⟨us, h1, h2⟩ := run_aRess (P := P) s r _ _ hx
    have hl := h2.length
    have : us.toArray.size ≠ 1 := by
      intro h1
      simp at h1
      rw [h1] at hl
      cases vs with
      | nil => simp at hl
      | cons a l => cases l with
        | nil => exact hne a rfl
        | cons _ _ => simp at hl
    refine ⟨.tuple us.toArray, by rw [conv _ h1, dif_neg this], us.toArray, rfl, by simpa using h2⟩
  · cases hv

/-- What a body may leave. -/
def Body (P : Program) (fn : Func) (n0 : Nat) (K : AEnd → Heap → Prop) : AExit → List AV → Heap → Prop
  | .normal, T, h => ∃ R m r h0, aResults P fn.results.toList T h = some R ∧ Weak n0 m [r] h0 [R] h ∧ K (.ret r) h0
  | .ret, T, h => ∃ R m r h0, aResults P fn.results.toList T h = some R ∧ Weak n0 m [r] h0 [R] h ∧ K (.ret r) h0
  | .pan v, _, h => ∃ m r h0, Weak n0 m [r] h0 [v] h ∧ K (.pan r) h0
  | .exit _, _, _ => False

theorem acalls_body {f : FuncId} {fn : Func} {c : Code} {args : List AV} {K : AEnd → Heap → Prop} (hf : P.funcs[f]? = some fn) (hb : fn.body = some c) (hn : (fn.name == "runtime.NumGoroutine") = false)
    (a : aW P h.length c (args ++ List.replicate (fn.ntmps - args.length) (.tup [])) h (Body P fn h.length K)) : ACalls P f args h K := by
  refine fun F β w vs s r => .inl ⟨⟨fn, hf, by rw [hb]; rfl, hn⟩, calls_of_wp hf hb ?_⟩
  have hl : args.length = vs.size := by have := r.length; simpa using this
  have r0 : RelL (ctx F β w h) (args ++ List.replicate (fn.ntmps - args.length) (.tup [])) (vs ++ Array.replicate (fn.ntmps - vs.size) undef).toList := by
    rw [Array.toList_append, Array.toList_replicate, ← hl]
    exact r.append (RelL.replicate (show Rel _ (.tup []) undef from ⟨#[], rfl, rfl⟩) _)
  refine wp_mono (a F β w _ [] (Nat.le_refl _) s r0 rfl) ?_
  rintro e a' w' ⟨x, β', T', h', q, g, he, hr, hd'⟩
  have fin : (∃ R m r h0, aResults P fn.results.toList T' h' = some R ∧ Weak h.length m [r] h0 [R] h' ∧ K (.ret r) h0) → ∃ v, (results fn a'.tmps).run P w' = .ok v w' ∧ ∃ β' h' r, K r h' ∧ Goes F β w h β' w' h' ∧ EndRel (ctx F β' w' h') r (.returned v) := by
    rintro ⟨R, m, r, h0, h1, k, hk⟩
    obtain ⟨u, hu, ru⟩ := run_aResults (P := P) (fn := fn) g.st hr h1
    exact ⟨u, hu, _, h0, .ret r, hk, (k.gets g).goes, u, rfl, k.vals.1.rel k.via ru⟩
  cases x with
  | normal => cases he; exact ⟨hd', fin q⟩
  | ret => cases he; exact ⟨hd', fin q⟩
  | exit i => exact q.elim
  | pan v =>
    obtain ⟨v', rfl, rv⟩ := he
    obtain ⟨m, r, h0, k, hk⟩ := q
    exact ⟨hd', _, h0, .pan r, hk, (k.gets g).goes, v', rfl, k.vals.1.rel k.via rv⟩

end
end Go.AH
namespace Go.AH
open Go

/-- How the callee's ids are the caller's: those that were handed over, then new ones. -/
def mf (ms : List Nat) (n : Nat) (id : Nat) : Nat := if id < ms.length then ms.getD id 0 else n + (id - ms.length)

/-- The caller's blocks that were handed over, as the callee leaves them. -/
def upd (r : Blk → Blk) (h : Heap) : List Nat → Heap → Heap
  | i :: is, b :: bs => upd r (h.set i (b.map r)) is bs
  | _, _ => h

/-- The caller's heap behind the call. -/
def merge (ms : List Nat) (h h0' : Heap) : Heap := upd (renB (mf ms h.length)) h ms h0' ++ (h0'.drop ms.length).map (Option.map (renB (mf ms h.length)))

/-- An argument that is lent: the callee may read its cells, and not write. -/
def Lent (m : Nat → Nat) (h : Heap) (B : List Nat) (x0 x : AV) : Prop := match x0, x with
  | .isl cs len, .gsl id len' _ => id ∈ B ∧ len = len' ∧ ∃ cs' e wh, rowAt h id = some (cs', e, wh) ∧ renL m cs = cs'.take cs.length
  | .isl cs len, .sl id off len' _ => id ∈ B ∧ len = len' ∧ ∃ cs' e wh, rowAt h id = some (cs', e, wh) ∧ renL m cs = (cs'.drop off).take cs.length
  | .isl _ len, .nilsl => len = 0
  | .isl _ len, .esl => len = 0
  | .iptr cs, .ptr id off => id ∈ B ∧ ∃ cs' e wh, rowAt h id = some (cs', e, wh) ∧ renL m cs = (cs'.drop off).take cs.length
  | _, _ => False

def LentL (m : Nat → Nat) (h : Heap) (B : List Nat) : List AV → List AV → Prop
  | [], [] => True
  | x0 :: l0, x :: l => (LeV m x0 x ∨ Lent m h B x0 x) ∧ LentL m h B l0 l
  | _, _ => False

def renE (m : Nat → Nat) : AEnd → AEnd
  | .ret v => .ret (ren m v)
  | .pan v => .pan (ren m v)
def noIslE : AEnd → Bool
  | .ret v => noIsl v
  | .pan v => noIsl v
def noIslH (h : Heap) : Bool := h.all fun
  | some b => noIslB b
  | none => true

theorem upd_length (r : Blk → Blk) : ∀ (ms : List Nat) (bs : Heap) (h : Heap), (upd r h ms bs).length = h.length
  | [], _, _ => by simp [upd]
  | _ :: _, [], _ => by simp [upd]
  | i :: is, b :: bs, h => by rw [upd, upd_length r is bs]; simp

theorem upd_get (r : Blk → Blk) : ∀ (ms : List Nat) (bs : Heap) (h : Heap) (id : Nat), ms.Nodup → (∀ i ∈ ms, i < h.length) → ms.length ≤ bs.length →
    (id ∉ ms ∧ (upd r h ms bs)[id]? = h[id]?) ∨ (∃ (k : Nat) (b : Option Blk), ms[k]? = some id ∧ bs[k]? = some b ∧ (upd r h ms bs)[id]? = some (b.map r))
  | [], bs, h, id, _, _, _ => .inl ⟨by simp, by simp [upd]⟩
  | i :: is, [], h, id, _, _, hl => by simp at hl
  | i :: is, b :: bs, h, id, nd, lt, hl => by
    rw [upd]
    rw [List.nodup_cons] at nd
    rcases upd_get r is bs (h.set i (b.map r)) id nd.2 (fun j hj => by simpa using lt j (by simp [hj])) (by simpa using hl) with ⟨h1, h2⟩ | ⟨k, b', h1, h2, h3⟩
    · by_cases e : id = i
      · subst e
        refine .inr ⟨0, b, rfl, rfl, ?_⟩
        rw [h2, List.getElem?_set_self (lt id (by simp))]
      · refine .inl ⟨by simp [h1, e], ?_⟩
        rw [h2, List.getElem?_set_ne (by omega)]
    · exact .inr ⟨k + 1, b', by simpa using h1, by simpa using h2, h3⟩

section
variable {P : Program} {F : Fr} {β : Nat → Nat} {w : World} {h : Heap}

/-- THE FRAME: a contract over the callee's own blocks, at a caller that has more. -/
theorem ACalls.frame {f : FuncId} {args0 : List AV} {h0 : Heap} {K0 : AEnd → Heap → Prop} (c : ACalls P f args0 h0 K0) {args : List AV} {K : AEnd → Heap → Prop} (ms B : List Nat)
    (hms : ms.length = h0.length) (nd : ms.Nodup) (lt : ∀ i ∈ ms, i < h.length) (hB : ∀ i ∈ B, i ∉ ms)
    (hargs : LentL (mf ms h.length) h B args0 args)
    (hblk : ∀ (k i : Nat) (b0 : Blk), ms[k]? = some i → h0[k]? = some (some b0) → h[i]? = some (some (renB (mf ms h.length) b0)))
    (hK : ∀ r0 h0', ms.length ≤ h0'.length → K0 r0 h0' → (B = [] ∨ (noIslE r0 = true ∧ noIslH h0' = true)) ∧ K (renE (mf ms h.length) r0) (merge ms h h0')) : ACalls P f args h K := by
  intro F β w vs s r
  let m := mf ms h.length
  let β0 : Nat → Nat := fun id => β (m id)
  let F0 : Fr := ⟨fun b => F b ∨ ∃ id blk, h[id]? = some (some blk) ∧ id ∉ ms ∧ id ∉ B ∧ β id = b, F.V⟩
  have mlt : ∀ id, id < h0.length → m id ∈ ms := by
    intro id hid
    show mf ms h.length id ∈ ms
    unfold mf
    rw [if_pos (by omega), List.getD, List.getElem?_eq_getElem (by omega)]
    exact List.getElem_mem _
  have mget : ∀ id, id < h0.length → ms[id]? = some (m id) := by
    intro id hid
    show _ = some (mf ms h.length id)
    unfold mf
    rw [if_pos (by omega), List.getD, List.getElem?_eq_getElem (by omega)]
    rfl
  have blk0 : ∀ id b0, h0[id]? = some (some b0) → h[m id]? = some (some (renB m b0)) := fun id b0 hb => hblk id (m id) b0 (mget id (lt_of_some hb)) hb
  have inj0 : ∀ i j, i < h0.length → j < h0.length → m i = m j → i = j := by
    intro i j hi hj e
    have h1 := mget i hi
    have h2 := mget j hj
    rw [e] at h1
    rw [List.getElem?_eq_getElem (by omega)] at h1 h2
    exact (List.getElem_inj nd).1 (by simp at h1 h2; rw [h1, h2])
  have own0 : ∀ b, Own β0 h0 b → ∃ id blk, h[id]? = some (some blk) ∧ id ∈ ms ∧ β id = b := by
    rintro b ⟨id, blk, hb, e⟩
    exact ⟨m id, _, blk0 id blk hb, mlt id (lt_of_some hb), e⟩
  have N0 : ∀ b, (Own β0 h0 b ∨ F0 b) → (Own β h b ∨ F b) := by
    rintro b (q | q | ⟨id, blk, hb, _, _, e⟩)
    · obtain ⟨id, blk, hb, _, e⟩ := own0 b q; exact .inl ⟨id, blk, hb, e⟩
    · exact .inr q
    · exact .inl ⟨id, blk, hb, e⟩
  have via : Via m (ctx F0 β0 w h0) (ctx F β w h) := by
    refine ⟨rfl, fun _ _ => rfl, fun id hid => ?_, N0, rfl⟩
    show id < h0.length
    rcases Nat.lt_or_ge id h0.length with q | q
    · exact q
    · have : m id = h.length + (id - ms.length) := if_neg (by omega)
      have hid' : m id < h.length := hid
      omega
  have st0 : St F0 β0 w h0 := by
    refine ⟨fun id blk hb => ?_, fun i j bi bj hi hj e => ?_, fun b hF q => ?_, fun b hF => ?_, fun id hid => ?_, s.gl.mono fun b q => by obtain ⟨id, blk, hb, _, e⟩ := own0 b q; exact ⟨id, blk, hb, e⟩⟩
    · obtain ⟨o, ho, hr⟩ := s.live (m id) _ (blk0 id blk hb)
      exact ⟨o, ho, BlkRel.via via hr⟩
    · exact inj0 i j (lt_of_some hi) (lt_of_some hj) (s.inj _ _ _ _ (blk0 i bi hi) (blk0 j bj hj) e)
    · obtain ⟨id, blk, hb, hm, e⟩ := own0 b q
      rcases hF with hF | ⟨id2, blk2, hb2, hm2, _, e2⟩
      · exact s.sep b hF ⟨id, blk, hb, e⟩
      · have := s.inj _ _ _ _ hb hb2 (e.trans e2.symm)
        subst this
        exact hm2 hm
    · rcases hF with hF | ⟨id2, blk2, hb2, hm2, _, e2⟩
      · exact s.flt b hF
      · rw [← e2]; exact s.lt id2 (lt_of_some hb2)
    · exact s.lt _ (lt _ (mlt id hid))
  -- what is lent is none of the callee's to write
  have lentN : ∀ id cs' e wh, rowAt h id = some (cs', e, wh) → id ∈ B → ¬ (Own β0 h0 (β id) ∨ F0 (β id)) := by
    intro id cs' e wh hrow hid
    obtain ⟨hb, _⟩ := s.rowOf hrow
    rintro (q | q | ⟨id2, blk2, hb2, hm2, hB2, e2⟩)
    · obtain ⟨id2, blk2, hb2, hm2, e2⟩ := own0 _ q
      have := s.inj _ _ _ _ hb2 hb e2
      subst this
      exact hB _ hid hm2
    · exact s.sep _ q ⟨id, _, hb, rfl⟩
    · have := s.inj _ _ _ _ hb2 hb e2
      subst this
      exact hB2 hid
  have lentR : ∀ (x0 x : AV) (v : Value), Lent m h B x0 x → Rel (ctx F β w h) x v → Rel (ctx F0 β0 w h0) x0 v := by
    intro x0 x v hl rx
    unfold Lent at hl
    split at hl
    · obtain ⟨hid, rfl, cs', e, wh, hrow, hcs⟩ := hl
      obtain ⟨hn, cap', et, rfl, hle, hsh⟩ := rx
      refine ⟨_, _, rfl, hle, .inr ⟨β _, 0, rfl, s.lt _ hn, lentN _ _ _ _ hrow hid, ?_⟩⟩
      refine Row.via via _ _ _ ?_
      rw [hcs]
      exact (s.row hrow).take _
    · obtain ⟨hid, rfl, cs', e, wh, hrow, hcs⟩ := hl
      obtain ⟨hn, o, cap', rfl, ho, hle, hc⟩ := rx
      refine ⟨_, _, rfl, hle, ?_⟩
      rcases ho with rfl | h0
      · right
        refine ⟨β _, o, rfl, s.lt _ hn, lentN _ _ _ _ hrow hid, ?_⟩
        refine Row.via via _ _ _ ?_
        rw [hcs]
        have q := (s.row hrow).drop o
        rw [Nat.zero_add] at q
        exact q.take _
      · left; omega
    · subst hl
      simp only [Rel] at rx
      exact ⟨none, 0, rx, Nat.le_refl _, .inl rfl⟩
    · subst hl
      obtain ⟨a, rfl⟩ := rx
      exact ⟨a, 0, rfl, Nat.le_refl _, .inl rfl⟩
    · obtain ⟨hid, cs', e, wh, hrow, hcs⟩ := hl
      obtain ⟨hn, rfl⟩ := rx
      refine ⟨_, _, rfl, s.lt _ hn, lentN _ _ _ _ hrow hid, ?_⟩
      refine Row.via via _ _ _ ?_
      rw [hcs]
      rename_i off
      have q := (s.row hrow).drop off
      rw [Nat.zero_add] at q
      exact q.take _
    · exact hl.elim
  have args : ∀ (l0 l : List AV) (us : List Value), LentL m h B l0 l → RelL (ctx F β w h) l us → RelL (ctx F0 β0 w h0) l0 us := by
    intro l0
    induction l0 with
    | nil => intro l us hl r; cases l with | nil => exact r | cons _ _ => exact hl.elim
    | cons x0 l0 ih =>
      intro l us hl r
      cases l with
      | nil => exact hl.elim
      | cons x l =>
        obtain ⟨y, ys, e, ry, rys⟩ := r
        exact ⟨y, ys, e, hl.1.elim (fun q => q.rel via ry) (fun q => lentR _ _ _ q ry), ih l ys hl.2 rys⟩
  refine (c F0 β0 w vs st0 (args _ _ _ hargs r)).mono ?_
  rintro e w' ⟨β1, h1, r0, hk0, g, he⟩
  have hl1 : ms.length ≤ h1.length := by rw [hms]; exact g.len
  obtain ⟨hBs, hk⟩ := hK r0 h1 hl1 hk0
  -- the caller's reading of ids
  let β' : Nat → Nat := fun id => if id < h.length then β id else β1 (id - h.length + ms.length)
  have ml : (merge ms h h1).length = h.length + (h1.length - ms.length) := by simp [merge, upd_length]
  have mget1 : ∀ id, id < h1.length → β' (m id) = β1 id := by
    intro id hid
    by_cases q : id < h0.length
    · have h2 := lt _ (mlt id q)
      show (if m id < h.length then β (m id) else _) = _
      rw [if_pos h2, g.β id q]
    · have hm : m id = h.length + (id - ms.length) := if_neg (by omega)
      show (if m id < h.length then β (m id) else β1 (m id - h.length + ms.length)) = _
      rw [hm, if_neg (by omega)]
      congr 1
      omega
  -- what stands at an id of the caller's
  have mlook : ∀ id blk, (merge ms h h1)[id]? = some (some blk) → (∃ k b1, h1[k]? = some (some b1) ∧ m k = id ∧ blk = renB m b1) ∨ (id ∉ ms ∧ h[id]? = some (some blk)) := by
    intro id blk hb
    unfold merge at hb
    rw [List.getElem?_append] at hb
    split at hb
    · rename_i hlt
      rw [upd_length] at hlt
      rcases upd_get (renB m) ms h1 h id nd lt hl1 with ⟨q1, q2⟩ | ⟨k, b, q1, q2, q3⟩
      · right
        exact ⟨q1, by rw [← q2]; exact hb⟩
      · left
        have hb' : some (b.map (renB m)) = some (some blk) := by rw [← q3]; exact hb
        simp only [Option.some.injEq, Option.map_eq_some_iff] at hb'
        obtain ⟨b1, rfl, e1⟩ := hb'
        refine ⟨k, b1, q2, ?_, e1.symm⟩
        have hk := lt_of_some q1
        have := mget k (by omega)
        rw [q1] at this
        simpa using this.symm
    · rename_i hge
      rw [upd_length] at hge hb
      left
      rw [List.getElem?_map, List.getElem?_drop] at hb
      rw [Option.map_eq_some_iff] at hb
      obtain ⟨ob, hob, e1⟩ := hb
      rw [Option.map_eq_some_iff] at e1
      obtain ⟨b1, rfl, e2⟩ := e1
      refine ⟨ms.length + (id - h.length), b1, hob, ?_, e2.symm⟩
      have : m (ms.length + (id - h.length)) = h.length + (ms.length + (id - h.length) - ms.length) := if_neg (by omega)
      omega
  have own1 : ∀ b, Own β' (merge ms h h1) b → Own β1 h1 b ∨ ∃ id blk, id ∉ ms ∧ h[id]? = some (some blk) ∧ β id = b := by
    rintro b ⟨id, blk, hb, e⟩
    rcases mlook id blk hb with ⟨k, b1, q1, q2, _⟩ | ⟨q1, q2⟩
    · left
      refine ⟨k, b1, q1, ?_⟩
      rw [← mget1 k (lt_of_some q1), q2, e]
    · right
      refine ⟨id, blk, q1, q2, ?_⟩
      have : β' id = β id := if_pos (lt_of_some q2)
      rw [← this, e]
  have own0' : ∀ b, Own β0 h0 b → Own β h b := fun b q => by obtain ⟨id, blk, hb, _, e⟩ := own0 b q; exact ⟨id, blk, hb, e⟩
  have step : Step (Own β h) w w' (Own β' (merge ms h h1)) := by
    refine ⟨g.step.os, g.step.tape, g.step.output, g.step.size, fun b hb hO => g.step.keep b hb fun q => hO (own0' b q), g.step.shape, fun b q => ?_⟩
    rcases own1 b q with q | ⟨id, blk, _, hb, e⟩
    · exact (g.step.own b q).imp (own0' b) id
    · exact .inl ⟨id, blk, hb, e⟩
  have len : h.length ≤ (merge ms h h1).length := by omega
  have hβ : ∀ id, id < h.length → β' id = β id := fun id hid => if_pos hid
  have le := s.leOf (β' := β') (h' := merge ms h h1) step len hβ
  -- what the callee knows, the caller knows
  have outB : B = [] → Out m (ctx F0 β1 w' h1) (ctx F β' w' (merge ms h h1)) := by
    intro hB0
    refine ⟨rfl, fun id hid => mget1 id hid, fun id hid => ?_, fun b q => ?_, rfl⟩
    · show m id < (merge ms h h1).length
      by_cases q : id < h0.length
      · have := lt _ (mlt id q); omega
      · have hm : m id = h.length + (id - ms.length) := if_neg (by omega)
        have hid' : id < h1.length := hid
        omega
    · rcases q with q | q
      · rcases own1 b q with q | ⟨id, blk, hnm, hb, e⟩
        · exact .inl q
        · exact .inr (.inr ⟨id, blk, hb, hnm, by rw [hB0]; simp, e⟩)
      · exact .inr (.inl q)
  -- with nothing that leans on cells which stay, the blocks that may be written don't matter
  let c1' : Ctx := ⟨w', β1, h1.length, fun b => Own β' (merge ms h h1) b ∨ F b, F.V⟩
  have outF : Out m c1' (ctx F β' w' (merge ms h h1)) := by
    refine ⟨rfl, fun id hid => mget1 id hid, fun id hid => ?_, fun b q => q, rfl⟩
    show m id < (merge ms h h1).length
    by_cases q : id < h0.length
    · have := lt _ (mlt id q); omega
    · have hm : m id = h.length + (id - ms.length) := if_neg (by omega)
      have hid' : id < h1.length := hid
      omega
  have blkUp : ∀ (k : Nat) (b1 : Blk) (o : Obj), h1[k]? = some (some b1) → BlkRel (ctx F0 β1 w' h1) b1 o → BlkRel (ctx F β' w' (merge ms h h1)) (renB m b1) o := by
    intro k b1 o hb hr
    rcases hBs with q | ⟨_, q⟩
    · exact BlkRel.out (outB q) hr
    · have hn : noIslB b1 = true := by
        have := List.all_eq_true.1 q (some b1) (List.mem_of_getElem? hb)
        exact this
      exact BlkRel.out outF (BlkRel.noIsl (c := ctx F0 β1 w' h1) (c' := c1') rfl rfl rfl rfl hn hr)
  have st : St F β' w' (merge ms h h1) := by
    refine ⟨fun id blk hb => ?_, fun i j bi bj hi hj e => ?_, fun b hF q => ?_, fun b hF => Nat.lt_of_lt_of_le (s.flt b hF) g.step.size, fun id hid => ?_, s.gl.step step⟩
    · rcases mlook id blk hb with ⟨k, b1, q1, q2, rfl⟩ | ⟨q1, q2⟩
      · obtain ⟨o, ho, hr⟩ := g.st.live k b1 q1
        refine ⟨o, ?_, blkUp k b1 o q1 hr⟩
        rw [← q2, mget1 k (lt_of_some q1)]
        exact ho
      · obtain ⟨o, ho, hr⟩ := s.live id blk q2
        refine ⟨o, ?_, BlkRel.le le hr⟩
        rw [hβ id (lt_of_some q2), g.step.keep _ (s.lt id (lt_of_some q2))]
        · exact ho
        · intro q
          obtain ⟨id2, blk2, hb2, hm2, e2⟩ := own0 _ q
          have := s.inj _ _ _ _ hb2 q2 e2
          subst this
          exact q1 hm2
    · have newOld : ∀ (k : Nat) (b1 : Blk) (i2 : Nat) (bl : Blk), h1[k]? = some (some b1) → i2 ∉ ms → h[i2]? = some (some bl) → β' (m k) = β' i2 → False := by
        intro k b1 i2 bl hk hn hb e
        rw [mget1 k (lt_of_some hk), hβ i2 (lt_of_some hb)] at e
        rcases g.step.own (β i2) ⟨k, b1, hk, e⟩ with q | q
        · obtain ⟨id2, blk2, hb2, hm2, e2⟩ := own0 _ q
          have := s.inj _ _ _ _ hb2 hb e2
          subst this
          exact hn hm2
        · have := s.lt i2 (lt_of_some hb); omega
      rcases mlook i bi hi with ⟨k, b1, q1, q2, _⟩ | ⟨q1, q2⟩ <;> rcases mlook j bj hj with ⟨k', b1', p1, p2, _⟩ | ⟨p1, p2⟩
      · subst q2 p2
        rw [mget1 k (lt_of_some q1), mget1 k' (lt_of_some p1)] at e
        rw [g.st.inj _ _ _ _ q1 p1 e]
      · subst q2; exact (newOld k b1 j bj q1 p1 p2 e).elim
      · subst p2; exact (newOld k' b1' i bi p1 q1 q2 e.symm).elim
      · rw [hβ i (lt_of_some q2), hβ j (lt_of_some p2)] at e
        exact s.inj _ _ _ _ q2 p2 e
    · rcases own1 b q with q | ⟨id, blk, _, hb, e⟩
      · exact g.st.sep b (.inl hF) q
      · exact s.sep b hF ⟨id, blk, hb, e⟩
    · show (if id < h.length then β id else β1 (id - h.length + ms.length)) < _
      split
      · rename_i q; exact Nat.lt_of_lt_of_le (s.lt id q) g.step.size
      · exact g.st.lt _ (by omega)
  refine ⟨β', merge ms h h1, _, hk, ⟨st, step, len, hβ⟩, ?_⟩
  have relUp : ∀ x v, (∀ q : B ≠ [], noIsl x = true) → Rel (ctx F0 β1 w' h1) x v → Rel (ctx F β' w' (merge ms h h1)) (ren m x) v := by
    intro x v hx hr
    by_cases q : B = []
    · exact Rel.out (outB q) _ _ hr
    · exact Rel.out outF _ _ (Rel.noIsl (c := ctx F0 β1 w' h1) (c' := c1') rfl rfl rfl rfl (hx q) hr)
  cases r0 with
  | ret v => obtain ⟨v', rfl, rv⟩ := he; exact ⟨v', rfl, relUp v v' (fun q => (hBs.resolve_left q).1) rv⟩
  | pan v => obtain ⟨v', rfl, rv⟩ := he; exact ⟨v', rfl, relUp v v' (fun q => (hBs.resolve_left q).1) rv⟩

end
end Go.AH
