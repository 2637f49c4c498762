/- Bodies with marks, and the range over a function. No condition. -/
import Derived.Test.YtieaamjikcjbeaaA33
namespace Go.AH
open Go
set_option linter.unusedVariables false
set_option linter.unusedSimpArgs false
section
variable {n0 : Nat} {P : Program} {T : List AV} {h : Heap} {s : YS} {K : KX}

/-- The marks are passed on the way out. -/
theorem leaves_marks {F : Fence} {n : Nat} {fn : Func} {tmps : Array Value} {R : Ending → World → Prop} {u : FrameMode} (hu : u ≠ .run) : ∀ (ks : List Nat) (w : World), ks.Nodup → (∀ k ∈ ks, w.heap[k]? = some (.deferred (some []))) →
    LeavesInM F n P fn tmps R [] u (shut ks w) → LeavesInM F n P fn tmps R (ks.map mark) u w
  | [], _, _, _, h => h
  | k :: ks, w, nd, hk, h => by
    rw [List.nodup_cons] at nd
    refine ⟨hu, .inl ⟨k, _, rfl, run_takeDeferred (hk k (by simp)), ?_⟩⟩
    refine leaves_marks hu ks _ nd.2 (fun x hx => ?_) h
    rw [World.putObj_heap_other (by intro q; subst q; exact nd.1 hx)]
    exact hk x (by simp [hx])

/-- What a function's body may leave. -/
def BodyX (P : Program) (fn : Func) (n0 : Nat) (K : AEnd → Heap → Prop) : KX := fun x T h _ => Body P fn n0 K x T h

theorem acalls_bodyX {f : FuncId} {fn : Func} {c : Code} {args : List AV} {K : AEnd → Heap → Prop} (hf : P.funcs[f]? = some fn) (hb : fn.body = some c) (hn : (fn.name == "runtime.NumGoroutine") = false)
    (a : aX P none (none : Option (YR h.length)) c (args ++ List.replicate (fn.ntmps - args.length) (.tup [])) h .rd (BodyX P fn h.length K)) : ACalls P f args h K := by
  refine ⟨⟨fn, hf, by rw [hb]; rfl, hn⟩, fun F β w vs st r => (callsIn_wide (n := 0)).1 (callsIn_of_wp_marks hf hb trivial ?_ rfl)⟩
  have hl : args.length = vs.size := by have := r.length; simpa using this
  have r0 : RelL (ctx F β w h) (args ++ List.replicate (fn.ntmps - args.length) (.tup [])) (vs ++ Array.replicate (fn.ntmps - vs.size) undef).toList := by
    rw [Array.toList_append, Array.toList_replicate, ← hl]
    exact r.append (RelL.replicate (show Rel _ (.tup []) undef from ⟨#[], rfl, rfl⟩) _)
  refine wpIn_mono (a F β w ⟨_, []⟩ w.heap.size [] (Nat.le_refl _) (Nat.le_refl _) st r0 (mk_nil _ _ _) (jok_none _ _ _ _ _)) ?_
  rintro ex a' w' ⟨x, β', T', h', s', q, g, he, hr, ⟨ks, hd, nd, hks⟩, _⟩
  rw [List.append_nil] at hd
  have g' := g.goes rfl
  obtain ⟨st2, le2, step2, _, _⟩ := St.shut (w0 := w) (O := Own β h) ks w' g.st nd hks g'.step
  have fin : (∃ R m r h0, aResults P fn.results.toList T' h' = some R ∧ Weak h.length m [r] h0 [R] h' ∧ K (.ret r) h0) →
      LeavesInM Fence.wide 0 P fn a'.tmps (fun e w' => ∃ β' h' r, K r h' ∧ Goes F β w h β' w' h' ∧ EndRel (ctx F β' w' h') r e) a'.defers .returning w' := by
    rintro ⟨R, m, r, h0, h1, k, hk⟩
    rw [hd]
    refine leaves_marks (by simp) ks w' nd (fun k hk => (hks k hk).2) ?_
    have hr2 := RelL.le le2 _ _ hr
    obtain ⟨u, hu, ru⟩ := run_aResults (P := P) (fn := fn) st2 hr2 h1
    exact ⟨u, hu, _, h0, .ret r, hk, (k.gets (⟨st2, step2, g.len, g.β⟩ : Gets h.length F β w h β' _ h')).goes, u, rfl, k.vals.1.rel k.via ru⟩
  cases x with
  | normal => cases he; exact fin q
  | ret => cases he; exact fin q
  | exit i => exact q.elim
  | pan v =>
    obtain ⟨v', rfl, rv⟩ := he
    obtain ⟨m, r, h0, k, hk⟩ := q
    show LeavesInM Fence.wide 0 P fn a'.tmps _ a'.defers (.panicking _) w'
    rw [hd]
    refine leaves_marks (by simp) ks w' nd (fun k hk => (hks k hk).2) ?_
    exact ⟨_, h0, .pan r, hk, (k.gets (⟨st2, step2, g.len, g.β⟩ : Gets h.length F β w h β' _ h')).goes, v', rfl, k.vals.1.rel k.via (Rel.le le2 _ _ rv)⟩

/-- What stands behind a range over a function. -/
def RangeK (K : KX) (T : List AV) (s0 : YS) : KX := fun x _ h' s' => match x with
  | .normal | .ret => (match s' with
    | .rd => K .normal T h' s0
    | .dn .ret => K .ret T h' s0
    | .dn (.exit id) => K (.exit id) T h' s0
    | _ => False)
  | _ => False

/-- A RANGE OVER A FUNCTION: what it ranges over is walked in the heap as it stands; where it asks for a round, the round is walked. -/
theorem aX_range {g : Operand} {p : Tmp} {assign body : Code} {gf : FuncId} {caps : List AV} {fn : Func} {c : Code} (hg : aEval T g = .fn (.func gf) caps) (hf : P.funcs[gf]? = some fn) (hb : fn.body = some c)
    (hnm : (fn.name == "runtime.NumGoroutine") = false) (hres : fn.results = #[]) (R : List AV) (hR : LeU R T) (okR : ∀ m : Nat → Nat, (∀ id, id < h.length → m id = id) → LeL m R R)
    (it : ∀ y : YR h.length, y.R = R → y.p = p → y.assign = assign → y.body = body → aX P none (some y) c ((.fn (.yield y.l) [] :: caps) ++ List.replicate (fn.ntmps - (caps.length + 1)) (.tup [])) h .rd (RangeK K T s)) :
    aX P none (none : Option (YR n0)) (.rangeFunc g #[p] assign body) T h s K := by
  intro F β w a B D hn hB st r m _
  refine wpIn_rangeFunc ?_
  intro fid _
  obtain ⟨y, hy⟩ : ∃ y : YR h.length, y = ⟨w.heap.size + 1, w.heap.size, fid, a.tmps, R, p, assign, body, okR⟩ := ⟨_, rfl⟩
  have hyl : y.l = w.heap.size + 1 := by rw [hy]
  obtain ⟨W1, hW1⟩ : ∃ W1, (w.alloc (.deferred (some []))).alloc (.loop (y.lp .ready none)) = W1 := ⟨_, rfl⟩
  have hL1 : W1.heap[w.heap.size + 1]? = some (.loop (y.lp .ready none)) := by
    rw [← hW1]; have := World.alloc_heap_new (w.alloc (.deferred (some []))) (.loop (y.lp .ready none)); rwa [World.size_alloc] at this
  have hK1 : W1.heap[w.heap.size]? = some (.deferred (some [])) := by
    rw [← hW1]; exact (Go.RowKit.Below.heap_alloc _ _ _ (by simp)).trans (World.alloc_heap_new w _)
  have g1 := st.aside (.deferred (some []))
  have g2 : Goes F β w h β W1 h := by rw [← hW1]; exact g1.trans (g1.st.aside _)
  have rf := aEval_rel r g
  rw [hg] at rf
  obtain ⟨cs, ef, rcs⟩ := rf
  have hsz1 : W1.heap.size = w.heap.size + 2 := by rw [← hW1]; simp
  have hm1 : MK B D a.defers W1 := m.goes st g2
  refine ⟨w.heap.size + 1, [mark w.heap.size], W1, { target := .fn (.func gf) cs, args := #[.func (.yield (w.heap.size + 1)) #[] #[]] }, W1, gf, #[.func (.yield (w.heap.size + 1)) #[] #[]] ++ cs, W1, ?_, ?_, fun f' _ => trivial, ?_, (fun q => by cases q), ?_⟩
  · rw [← hW1, hy]; exact run_enterLoop_outer _ _ _ _ _
  · simp only [resolve, ef, Deferred.ofValue, Sem.run_pure]
    simp [Act.eval]
  · have hc : Callable P gf := ⟨fn, hf, by rw [hb]; rfl, hnm⟩
    exact run_callFunc hc _ W1
  · refine callsIn_of_wp_marks hf hb trivial ?_ rfl
    have hl : cs.size = caps.length := by have := rcs.length; simpa using this.symm
    have rT1 : RelL (ctx F β W1 h) ((.fn (.yield y.l) [] :: caps) ++ List.replicate (fn.ntmps - (caps.length + 1)) (.tup [])) ((#[Value.func (.yield (w.heap.size + 1)) #[] #[]] ++ cs) ++ Array.replicate (fn.ntmps - (#[Value.func (.yield (w.heap.size + 1)) #[] #[]] ++ cs).size) undef).toList := by
      have hsz : (#[.func (.yield (w.heap.size + 1)) #[] #[]] ++ cs : Array Value).size = caps.length + 1 := by simp [hl]; omega
      rw [hsz, Array.toList_append, Array.toList_replicate, Array.toList_append]
      refine RelL.append ?_ (RelL.replicate (show Rel _ (.tup []) undef from ⟨#[], rfl, rfl⟩) _)
      refine ⟨_, _, rfl, ⟨#[], by rw [hyl], rfl⟩, ?_⟩
      exact RelL.le (g2.le st) _ _ rcs
    have kf := Weak.forget (n0 := 0) (h := h) hR (Nat.zero_le _)
    have rR : RelL (ctx F β W1 h) y.R y.tm.toList := by
      have := kf.vals.rel (kf.via (F := F) (β := β) (w := W1)) (RelL.le (g2.le st) _ _ r)
      rw [hy]
      exact this
    have jy : JOK (some y) F β W1 h .rd := by
      intro z hz
      cases hz
      exact ⟨by rw [hyl]; exact hL1, rR⟩
    have hcalls := it y (by rw [hy]) (by rw [hy]) (by rw [hy]) (by rw [hy]) F β W1 ⟨_, []⟩ W1.heap.size [] (Nat.le_refl _) (Nat.le_refl _) g2.st rT1 (mk_nil _ _ _) jy
    refine wpIn_mono hcalls ?_
    rintro ex a' w' ⟨x, β', T', h', s', q, gx, he, hr, ⟨ks, hd, nd, hks⟩, j'⟩
    rw [List.append_nil] at hd
    obtain ⟨hl', hR'⟩ := j' y rfl
    -- the iterator's end
    have isl : ∀ b, isL (some y) b → b = y.l := fun b ⟨z, q1, q2⟩ => by cases q1; exact q2
    have stepI : Step (fun b => Own β h b ∨ b = y.l) W1 w' (Own β' h') := by
      refine ⟨gx.step.os, gx.step.tape, gx.step.output, gx.step.size, fun b hb hO => gx.step.keep b hb fun p => hO (p.imp id (isl b)), gx.step.shape, fun b p => ?_⟩
      rcases gx.step.own b (.inl p) with q | q
      · exact .inl (q.imp id (isl b))
      · exact .inr q
    obtain ⟨st3, le3, step3, hk3, hs3⟩ := St.shut (w0 := W1) (O := fun b => Own β h b ∨ b = y.l) ks w' gx.st nd hks stepI
    have hlks : y.l ∉ ks := fun p => by have := (hks _ p).1; omega
    obtain ⟨lp', hlp'⟩ := y.obj_loop s'
    have hl3 : (shut ks w').heap[y.l]? = some (.loop lp') := by rw [hk3 _ hlks, hl', hlp']
    have hK3 : (shut ks w').heap[w.heap.size]? = some (.deferred (some [])) := by
      rw [hk3 _ (fun p => by have := (hks _ p).1; omega)]
      rw [gx.step.keep w.heap.size (by omega) (fun p => p.elim (fun p => (g2.st.ownObj p).1 _ hK1) fun p => by have := isl _ p; omega)]
      exact hK1
    -- the record is shut
    have core : ∀ (jump : Option Code) (st' : LoopState), lp' = y.lp st' jump → st' ≠ .busy → ∀ (K2 : Exit → Act → World → Prop),
        (∀ w4, St F β' w4 h' → (ctx F β' w' h').le (ctx F β' w4 h') → Step (Own β h) w w4 (Own β' h') → MK B D (mark w.heap.size :: a.defers) w4 →
          (match jump with | none => K2 .normal { a with defers := mark w.heap.size :: a.defers } w4 | some c => c.wpIn Fence.wide 0 P K2 { a with defers := mark w.heap.size :: a.defers } w4)) →
        ∃ jump w4, (Instr.endLoop (w.heap.size + 1)).run P (shut ks w') = .ok jump w4 ∧ (match jump with | none => K2 .normal { a with defers := mark w.heap.size :: a.defers } w4 | some c => c.wpIn Fence.wide 0 P K2 { a with defers := mark w.heap.size :: a.defers } w4) := by
      intro jump st' e1 e2 K2 hK2
      subst e1
      obtain ⟨st4, le4, step4⟩ := st3.putL hl3 { y.lp st' jump with state := .exhausted }
      rw [← hyl]
      refine ⟨jump, _, run_endLoop hl3 e2, hK2 _ st4 ?_ ?_ ?_⟩
      · exact ⟨Nat.le_refl _, fun _ _ => rfl, le3.lt, Nat.le_trans le3.size le4.size, fun b o v hb hN hc => le4.keep b o v (Nat.lt_of_lt_of_le hb le3.size) hN (le3.keep b o v hb hN hc), fun b hb => (le4.shape b (Nat.lt_of_lt_of_le hb le3.size)).trans (le3.shape b hb), fun b q => .inl q⟩
      · have k1 := g2.step
        refine ⟨by rw [step4.os, step3.os, k1.os], by rw [step4.tape, step3.tape, k1.tape], by rw [step4.output, step3.output, k1.output], Nat.le_trans k1.size (Nat.le_trans step3.size step4.size), fun b hb hO => ?_, fun b hb => ?_, fun b p => ?_⟩
        · have hbl : b ≠ y.l := by omega
          rw [World.putObj_heap_other hbl, step3.keep b (Nat.lt_of_lt_of_le hb k1.size) (fun p => p.elim hO hbl), k1.keep b hb hO]
        · have hbl : b ≠ y.l := by omega
          rw [step4.shape b (Nat.lt_of_lt_of_le hb (Nat.le_trans k1.size step3.size)), step3.shape b (Nat.lt_of_lt_of_le hb k1.size), k1.shape b hb]
        · rcases step3.own b p with q | q
          · rcases q with q | q
            · exact .inl q
            · exact .inr (by omega)
          · exact .inr (Nat.le_trans k1.size q)
      · obtain ⟨ks0, e1, e2, e3⟩ := m
        refine ⟨w.heap.size :: ks0, by rw [e1]; rfl, ?_, ?_⟩
        · rw [List.nodup_cons]
          exact ⟨fun p => by have := lt_heap (e3 _ p).2; omega, e2⟩
        · intro k hk
          rcases List.mem_cons.1 hk with rfl | hk
          · refine ⟨hB, ?_⟩
            rw [World.putObj_heap_other (by omega)]
            exact hK3
          · refine ⟨(e3 k hk).1, ?_⟩
            have hlt := lt_heap (e3 k hk).2
            rw [World.putObj_heap_other (by omega)]
            have hkW : W1.heap[k]? = some (.deferred (some [])) := by
              rw [g2.step.keep k hlt (fun q => (st.ownObj q).1 _ (e3 k hk).2)]
              exact (e3 k hk).2
            rw [step3.keep k (by omega) (fun q => q.elim (fun q => (g2.st.ownObj q).1 _ hkW) (fun q => by omega))]
            exact hkW
    -- what is known of the caller
    have after : ∀ (w4 : World) (K2 : KX) (xx : AExit) (ex : Exit), St F β' w4 h' → (ctx F β' w' h').le (ctx F β' w4 h') → Step (Own β h) w w4 (Own β' h') → MK B D (mark w.heap.size :: a.defers) w4 → ERel (ctx F β' w4 h') xx ex → K2 xx T h' s →
        PostX (none : Option (YR n0)) F β w h B D K2 ex { a with defers := mark w.heap.size :: a.defers } w4 := by
      intro w4 K2 xx ex st4 le4 step mk er k
      have gg : Goes F β w h β' w4 h' := ⟨st4, step, gx.len, gx.β⟩
      exact ⟨xx, β', T, h', s, k, gg.getsX hn, er, RelL.le (gg.le st) _ _ r, mk, jok_none _ _ _ _ _⟩
    have fin : RangeK K T s .ret T' h' s' → LeavesInM Fence.wide (0 - 1) P fn a'.tmps (rangePost Fence.wide 0 P (w.heap.size + 1) (PostX (none : Option (YR n0)) F β w h B D K) { a with defers := [mark w.heap.size] ++ a.defers }) a'.defers .returning w' := by
      intro q
      rw [hd]
      refine leaves_marks (by simp) ks w' nd (fun k hk => (hks k hk).2) ?_
      have hr3 := RelL.le le3 _ _ hr
      have hv : (results fn a'.tmps).run P (shut ks w') = .ok (.tuple #[]) (shut ks w') := by
        rw [results_eq, hres]
        simp only [List.mapM_nil, Sem.run_bind, Sem.run_pure, Result.andThen_ok]
        rfl
      refine ⟨_, hv, ?_⟩
      show ∃ jump w4, _
      unfold RangeK at q
      cases s' with
      | rd =>
        exact core none .ready (by rw [show y.obj .rd = _ from rfl] at hlp'; injection hlp' with e; exact e.symm) (by simp) _ fun w4 st4 le4 step mk => after w4 K .normal .normal st4 le4 step mk rfl q
      | dn c =>
        have e1 : lp' = y.lp .done (some c) := by rw [show y.obj (.dn c) = _ from rfl] at hlp'; injection hlp' with e; exact e.symm
        cases c with
        | ret => exact core (some .ret) .done e1 (by simp) _ fun w4 st4 le4 step mk => wpIn_ret (after w4 K .ret .ret st4 le4 step mk rfl q)
        | exit id => exact core (some (.exit id)) .done e1 (by simp) _ fun w4 st4 le4 step mk => wpIn_exit (after w4 K (.exit id) (.exit id) st4 le4 step mk rfl q)
        | _ => exact q.elim
    cases x with
    | normal => cases he; exact fin q
    | ret => cases he; exact fin q
    | exit i => exact q.elim
    | pan v => exact q.elim
end
end Go.AH
