/- A round that is asked for is sound. No condition. -/
import Derived.Test.YtieaamjikcjbeaaA31
namespace Go.AH
open Go
set_option linter.unusedVariables false
set_option linter.unusedSimpArgs false
section
variable {n0 : Nat}
abbrev KX := AExit → List AV → Heap → YS → Prop
/-- What stands behind a piece of code. -/
def PostX (e : Option (YR n0)) (F : Nat → Prop) (β : Nat → Nat) (w : World) (h : Heap) (B : Nat) (D : List Deferred) (K : KX) (ex : Exit) (a : Act) (w' : World) : Prop :=
  ∃ x β' T' h' s', K x T' h' s' ∧ GetsX e F β w h β' w' h' ∧ ERel (ctx F β' w' h') x ex ∧ RelL (ctx F β' w' h') T' a.tmps.toList ∧ MK B D a.defers w' ∧ JOK e F β' w' h' s'

def aX (P : Program) (ρ : Option Nat) (e : Option (YR n0)) (c : Code) (T : List AV) (h : Heap) (s : YS) (K : KX) : Prop :=
  ∀ (F : Nat → Prop) (β : Nat → Nat) (w : World) (a : Act) (B : Nat) (D : List Deferred), n0 ≤ h.length → B ≤ w.heap.size → St F β w h → RelL (ctx F β w h) T a.tmps.toList → MK B D a.defers w → JOK e F β w h s → c.wpIn (XF ρ) 0 P (PostX e F β w h B D K) a w

/-- A call of what asks for a round: the round's assignment and body, from the loop's own slots. -/
def yArm (P : Program) (e : Option (YR n0)) (l : Nat) (args : List AV) (h : Heap) (s : YS) (next : AV → Heap → YS → Prop) : Prop :=
  ∃ y x, e = some y ∧ y.l = l ∧ s = .rd ∧ args = [x] ∧
    aX P (some l) (none : Option (YR h.length)) y.assign (y.R.set y.p x) h .rd fun q T1 h1 _ => match q with
      | .normal => aX P (some l) (none : Option (YR h.length)) y.body T1 h1 .rd fun q2 _ h2 _ => match q2 with
        | .normal => next (.bool true) h2 .rd
        | .ret => next (.bool false) h2 (.dn .ret)
        | .exit id => next (.bool false) h2 (.dn (.exit id))
        | .pan _ => False
      | _ => False

def xOp (P : Program) (e : Option (YR n0)) (o : Oper) (T : List AV) (h : Heap) (s : YS) (next : AV → Heap → YS → Prop) (pan : AV → Heap → YS → Prop) : Prop := match o.op with
  | .call ⟨.value f, as, ts⟩ => match aEval T f with
    | .fn (.yield l) [] => yArm P e l (as.toList.map (aEval T)) h s next
    | _ => aOp P o T h (fun v h' => next v h' s) (fun v h' => pan v h' s)
  | _ => aOp P o T h (fun v h' => next v h' s) (fun v h' => pan v h' s)

def xOps (P : Program) (e : Option (YR n0)) (ops : Array Oper) (K : KX) : List Oper → List AV → Heap → YS → Prop
  | [], T, h, s => K .normal T h s
  | o :: os, T, h, s => match aGuard ops T o with
    | some g => if g = true then xOp P e o T h s (fun v h' s' => xOps P e ops K os (aPut T o.dst v) h' s') (fun v h' s' => K (.pan v) T h' s') else xOps P e ops K os (aPut T o.dst (.tup [])) h s
    | none => False

variable {P : Program} {ρ : Option Nat} {e : Option (YR n0)} {T : List AV} {h : Heap} {s : YS}

theorem aX_mono {c : Code} {K K' : KX} (a : aX P ρ e c T h s K) (hk : ∀ x T h s, n0 ≤ h.length → K x T h s → K' x T h s) : aX P ρ e c T h s K' := by
  intro F β w act B D hn hB st r m j
  refine wpIn_mono (a F β w act B D hn hB st r m j) ?_
  rintro ex a' w' ⟨x, β', T', h', s', q, g, rest⟩
  exact ⟨x, β', T', h', s', hk _ _ _ _ g.len q, g, rest⟩

theorem aOp_noDefer {o : Oper} {next pan : AV → Heap → Prop} (ha : aOp P o T h next pan) : ∀ c, o.op ≠ .defer c := by
  intro c hc
  unfold aOp at ha
  rw [hc] at ha
  simp [ev] at ha

theorem putL_all {y : YR n0} {F : Nat → Prop} {β : Nat → Nat} {w : World} {s1 : YS} (st : St F β w h) (hl : w.heap[y.l]? = some (y.obj s1)) (r' : Loop) :
    St F β (w.putObj y.l (.loop r')) h ∧ (ctx F β w h).le (ctx F β (w.putObj y.l (.loop r')) h) ∧ Step (fun b => Own β h b ∨ b = y.l) w (w.putObj y.l (.loop r')) (fun b => Own β h b ∨ b = y.l) := by
  obtain ⟨r, hr⟩ := y.obj_loop s1
  exact st.putL (by rw [hl, hr]) r'

theorem MK.putL {B : Nat} {D ds : List Deferred} {w : World} (m : MK B D ds w) {l : Nat} {r r' : Loop} (hl : w.heap[l]? = some (.loop r)) : MK B D ds (w.putObj l (.loop r')) := by
  obtain ⟨ks, h1, h2, h3⟩ := m
  refine ⟨ks, h1, h2, fun k hk => ⟨(h3 k hk).1, ?_⟩⟩
  rw [World.putObj_heap_other]
  · exact (h3 k hk).2
  · intro q
    have := (h3 k hk).2
    rw [q, hl] at this
    cases this

/-- A round that is asked for. -/
theorem yArm_sound {o : Oper} {f : Operand} {as : Array Operand} {ts : Array TypeId} {l : Nat} (hop : o.op = .call ⟨.value f, as, ts⟩) (hf : aEval T f = .fn (.yield l) []) {next : AV → Heap → YS → Prop}
    (ha : yArm P e l (as.toList.map (aEval T)) h s next) {F : Nat → Prop} {β : Nat → Nat} {w : World} {a : Act} (hn : n0 ≤ h.length) (st : St F β w h) (r : RelL (ctx F β w h) T a.tmps.toList) {B : Nat} {D : List Deferred} (m : MK B D a.defers w) (j : JOK e F β w h s)
    {N : Act → World → Prop} {Q : Exit → Act → World → Prop}
    (hN : ∀ v v' w' β' h' s', next v h' s' → GetsX e F β w h β' w' h' → (∀ id, id < h.length → β' id = β id) → h.length ≤ h'.length → RelL (ctx F β' w' h') T a.tmps.toList → MK B D a.defers w' → JOK e F β' w' h' s' → Rel (ctx F β' w' h') v v' → N (a.put o.dst v') w') : o.wpIn (XF ρ) 0 P a w N Q := by
  obtain ⟨y, x, rfl, rfl, rfl, hargs, hx⟩ := ha
  obtain ⟨hl, hR⟩ := j y rfl
  refine ⟨fun f _ => XF_fn ρ f, ?_⟩
  rw [Oper.semAt_eq _ _ _ (by rw [hop]; intro c hc; cases hc)]
  have rf := aEval_rel r f
  rw [hf] at rf
  obtain ⟨cs, ef, hcs⟩ := rf
  obtain ⟨x', hx', rx⟩ : ∃ x', (as.map a.eval).toList = [x'] ∧ Rel (ctx F β w h) x x' := by
    have := relL_map (aEval_rel r) as.toList
    rw [hargs] at this
    obtain ⟨x', xs, e1, rx, e2⟩ := this
    have e2' : xs = [] := e2
    subst e2'
    exact ⟨x', by rw [Array.toList_map, e1], rx⟩
  have hx2 : as.map a.eval = #[x'] := by rw [← Array.toArray_toList (xs := as.map a.eval), hx']
  have hrun : (execOp a.eval o).run P w = .ok (.round y.l y.fn (y.tm.setIfInBounds y.p x') y.assign y.body) w := by
    simp only [execOp, hop, resolve, ef, Deferred.ofValue, Sem.run_bind, Sem.run_pure, Result.andThen_ok, invoke, Array.empty_append]
    rw [hx2]
    rw [run_yield (r := y.lp .ready none) (args := #[x']) hl rfl]
    have hz : (y.lp .ready none).params.zip #[x'] = #[(y.p, x')] := by simp [YR.lp]
    rw [hz]
    simp [YR.lp]
  rw [hrun, Oper.uponIn_round]
  refine ⟨fun q => (XF_depth ρ q).elim, ?_⟩
  have hXF : (XF ρ).inRound y.l = XF (some y.l) := by cases ρ <;> rfl
  have hR2 : RelL (ctx F β w h) (y.R.set y.p x) (y.tm.setIfInBounds y.p x').toList := by
    rw [Array.toList_setIfInBounds]
    exact hR.set rx y.p
  refine roundIn_of_wpIn (XF_fn ρ y.fn) ?_
  rw [hXF]
  refine wpIn_mono (hx F β w ⟨y.tm.setIfInBounds y.p x', []⟩ 0 [] (Nat.le_refl _) (Nat.zero_le _) st hR2 (mk_nil _ _ _) (jok_none _ _ _ _ _)) ?_
  rintro ex a1 w1 ⟨q, β1, T1, h1, _, hk, g1, he, r1, m1, _⟩
  cases q with
  | exit id => exact hk.elim
  | ret => exact hk.elim
  | pan v => exact hk.elim
  | normal =>
    cases he
    have g1' := g1.goes rfl
    have hl1 : w1.heap[y.l]? = some (y.obj .rd) := (j.goes st g1' y rfl).1
    have hb := run_beginRound (P := P) (l := y.l) (r := y.lp .ready none) hl1 rfl
    obtain ⟨st2, le2, step2⟩ := putL_all (s1 := .rd) g1.st hl1 { y.lp .ready none with state := .busy }
    refine ⟨_, hb, ?_⟩
    have hlt1 := lt_heap hl1
    have m2 : MK 0 [] a1.defers (w1.putObj y.l (.loop { y.lp .ready none with state := .busy })) := m1.putL (r := y.lp .ready none) hl1
    refine wpIn_mono (hk F β1 _ a1 0 [] g1.len (Nat.zero_le _) st2 (RelL.le le2 _ _ r1) m2 (jok_none _ _ _ _ _)) ?_
    rintro ex2 a3 w3 ⟨q2, β3, T3, h3, _, hk3, g3, he3, r3, m3, _⟩
    have nl : ∀ b, ¬ isL (none : Option (YR h.length)) b := fun b ⟨y, q, _⟩ => by cases q
    have hl2 : (w1.putObj y.l (.loop { y.lp .ready none with state := .busy })).heap[y.l]? = some (.loop { y.lp .ready none with state := .busy }) := World.putObj_heap_same hlt1
    have hl3 : w3.heap[y.l]? = some (.loop { y.lp .ready none with state := .busy }) := by
      rw [g3.step.keep y.l (lt_heap hl2) (fun q => q.elim (fun q => (st2.ownObj q).2 _ hl2) (nl _))]
      exact hl2
    -- the record's state behind the round
    have fin : ∀ (jump : Option Code) (s' : YS) (obj : y.obj s' = .loop (y.lp (if jump.isNone then .ready else .done) jump)), next (.bool jump.isNone) h3 s' →
        ∃ v w4, (Instr.endRound y.l jump).run P w3 = .ok v w4 ∧ N (a.put o.dst v) w4 := by
      intro jump s' obj hnx
      have he := run_endRound (P := P) jump hl3
      obtain ⟨st4, le4, step4⟩ := g3.st.putL hl3 (y.lp (if jump.isNone then .ready else .done) jump)
      refine ⟨.bool jump.isNone, _, he, ?_⟩
      have hfin : w3.putObj y.l (.loop { ({ y.lp .ready none with state := .busy } : Loop) with state := if jump.isNone then .ready else .done, pending := jump }) = w3.putObj y.l (.loop (y.lp (if jump.isNone then .ready else .done) jump)) := rfl
      rw [hfin]
      have isl : ∀ b, b = y.l → isL (some y) b := fun b q => ⟨y, rfl, q⟩
      have lsi : ∀ b, isL (some y) b → b = y.l := fun b ⟨z, q1, q2⟩ => by cases q1; exact q2
      have conv : ∀ {O O' : Nat → Prop} {u u' : World}, Step (fun b => O b ∨ b = y.l) u u' (fun b => O' b ∨ b = y.l) → Step (fun b => O b ∨ isL (some y) b) u u' (fun b => O' b ∨ isL (some y) b) :=
        fun k => ⟨k.os, k.tape, k.output, k.size, fun b hb hO => k.keep b hb fun q => hO (q.imp id (isl b)), k.shape, fun b q => (k.own b (q.imp id (lsi b))).imp (fun q => q.imp id (isl b)) id⟩
      have conv0 : ∀ {O O' : Nat → Prop} {u u' : World}, Step (fun b => O b ∨ isL (none : Option (YR h.length)) b) u u' (fun b => O' b ∨ isL (none : Option (YR h.length)) b) → Step (fun b => O b ∨ isL (some y) b) u u' (fun b => O' b ∨ isL (some y) b) :=
        fun k => ⟨k.os, k.tape, k.output, k.size, fun b hb hO => k.keep b hb fun q => q.elim (fun q => hO (.inl q)) (nl b), k.shape, fun b q => q.elim (fun q => (k.own b (.inl q)).imp (fun q => q.elim .inl fun q => (nl b q).elim) id) (fun q => .inl (.inr q))⟩
      have step : Step (fun b => Own β h b ∨ isL (some y) b) w (w3.putObj y.l (.loop (y.lp (if jump.isNone then .ready else .done) jump))) (fun b => Own β3 h3 b ∨ isL (some y) b) :=
        ((conv0 g1.step).trans (conv step2)).trans ((conv0 g3.step).trans (conv step4))
      have hβ : ∀ id, id < h.length → β3 id = β id := fun id hid => (g3.β id hid).trans (g1.β id hid)
      have le : (ctx F β w h).le (ctx F β3 (w3.putObj y.l (.loop (y.lp (if jump.isNone then .ready else .done) jump))) h3) := by
        refine ⟨g3.len, hβ, st.lt, step.size, fun b o v hb hN hc => ?_, step.shape, fun b q => ?_⟩
        · by_cases q : b = y.l
          · subst q
            simp only [World.cell?, hl, YR.obj] at hc
            cases hc
          · rw [cell_of_block (step.keep b hb fun p => p.elim (fun p => hN (.inl p)) fun p => q (lsi b p))]
            exact hc
        · rcases q with q | q
          · rcases step.own b (.inl q) with p | p
            · rcases p with p | p
              · exact .inl (.inl p)
              · have hb := lsi b p
                subst hb
                exact absurd hl3 ((g3.st.ownObj q).2 _)
            · exact .inr p
          · exact .inl (.inr q)
      have hl4 : (w3.putObj y.l (.loop (y.lp (if jump.isNone then .ready else .done) jump))).heap[y.l]? = some (y.obj s') := by rw [obj]; exact World.putObj_heap_same (lt_heap hl3)
      refine hN _ _ _ β3 h3 s' hnx ⟨st4, step, Nat.le_trans hn g3.len, fun id hid => hβ id (Nat.lt_of_lt_of_le hid hn)⟩ hβ g3.len (RelL.le le _ _ r) ?_ ?_ rfl
      · obtain ⟨ks, e1, e2, e3⟩ := m
        refine ⟨ks, e1, e2, fun k hk => ?_⟩
        have hk0 := (e3 k hk).2
        refine ⟨(e3 k hk).1, ?_⟩
        have hne : k ≠ y.l := by
          intro q
          rw [q, hl] at hk0
          cases hk0
        rw [step.keep k (lt_heap hk0) fun q => q.elim (fun q => (st.ownObj q).1 _ hk0) fun q => hne (lsi k q)]
        exact hk0
      · intro z hz
        cases hz
        exact ⟨hl4, RelL.le le _ _ hR⟩
    cases q2 with
    | pan v => exact hk3.elim
    | normal => cases he3; exact fin none .rd rfl hk3
    | ret => cases he3; exact fin (some .ret) (.dn .ret) rfl hk3
    | exit id => cases he3; exact fin (some (.exit id)) (.dn (.exit id)) rfl hk3

theorem xOps_sound {ops : Array Oper} {K : KX} {B : Nat} {D : List Deferred} {F : Nat → Prop} {β0 : Nat → Nat} {w0 : World} {h0 : Heap} : ∀ (os : List Oper) (l : List Nat) (β : Nat → Nat) (w : World) (h : Heap) (T : List AV) (s : YS) (a : Act),
    l.map (fun i => ops[i]?) = os.map some → xOps P e ops K os T h s → GetsX e F β0 w0 h0 β w h → RelL (ctx F β w h) T a.tmps.toList → MK B D a.defers w → JOK e F β w h s → wpOpsIn (XF ρ) 0 P ops (PostX e F β0 w0 h0 B D K) l a w
  | [], l, β, w, h, T, s, a, hl, ha, g, r, m, j => by
    cases l with
    | cons _ _ => simp at hl
    | nil => exact ⟨.normal, β, T, h, s, ha, g, rfl, r, m, j⟩
  | o :: os, l, β, w, h, T, s, a, hl, ha, g, r, m, j => by
    cases l with
    | nil => simp at hl
    | cons i l =>
      simp only [List.map_cons, List.cons.injEq] at hl
      obtain ⟨ho, hl⟩ := hl
      unfold xOps at ha
      split at ha
      · rename_i gd hgd
        have hw := aGuard_rel r hgd
        simp only [wpOpsIn, ho, hw]
        split at ha
        · rename_i ht
          rw [if_pos ht]
          have plain : aOp P o T h (fun v h' => xOps P e ops K os (aPut T o.dst v) h' s) (fun v h' => K (.pan v) T h' s) → o.wpIn (XF ρ) 0 P a w (wpOpsIn (XF ρ) 0 P ops (PostX e F β0 w0 h0 B D K) l) (PostX e F β0 w0 h0 B D K) := by
            intro hp
            refine Oper.wpX (aOp_sound hp g.st r ?_ ?_) (aOp_noDefer hp)
            · intro v v' w' β' h' hn hg rv
              refine xOps_sound os l β' w' h' (aPut T o.dst v) s _ hl hn (g.trans (hg.getsX g.len)) (aPut_rel (RelL.le (hg.le g.st) _ _ r) rv _) ?_ (j.goes g.st hg)
              rw [Act.put_defers']
              exact m.goes g.st hg
            · intro v v' w' β' h' hn hg rv
              exact ⟨.pan v, β', T, h', s, hn, g.trans (hg.getsX g.len), ⟨v', rfl, rv⟩, RelL.le (hg.le g.st) _ _ r, m.goes g.st hg, j.goes g.st hg⟩
          unfold xOp at ha
          split at ha
          · rename_i f as ts hop
            split at ha
            · rename_i l' hf
              refine yArm_sound hop hf ha g.len g.st r m j ?_
              intro v v' w' β' h' s' hnx hg hβ hlen r' m' j' rv
              refine xOps_sound os l β' w' h' (aPut T o.dst v) s' _ hl hnx (g.trans hg) (aPut_rel r' rv _) ?_ j'
              rw [Act.put_defers']
              exact m'
            · exact plain ha
          · exact plain ha
        · rename_i ht
          rw [if_neg ht]
          refine ⟨fun f _ => XF_fn ρ f, xOps_sound os l β w h (aPut T o.dst (.tup [])) s _ hl ha g (aPut_rel r (show Rel _ (.tup []) undef from ⟨#[], rfl, rfl⟩) _) ?_ j⟩
          rw [Act.put_defers']
          exact m
      · exact ha.elim
end
end Go.AH
