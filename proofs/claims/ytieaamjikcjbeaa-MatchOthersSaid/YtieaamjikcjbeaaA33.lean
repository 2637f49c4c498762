/- Rules of such walks. No condition. -/
import Derived.Test.YtieaamjikcjbeaaA32
namespace Go.AH
open Go
set_option linter.unusedVariables false
set_option linter.unusedSimpArgs false
section
variable {n0 : Nat} {P : Program} {ρ : Option Nat} {e : Option (YR n0)} {T T0 : List AV} {h h0 : Heap} {s : YS} {K : KX}

theorem xself {F : Nat → Prop} {β : Nat → Nat} {w : World} {B : Nat} {D : List Deferred} {a : Act} (x : AExit) (ex : Exit) (hn : n0 ≤ h.length) (st : St F β w h) (r : RelL (ctx F β w h) T a.tmps.toList) (m : MK B D a.defers w) (j : JOK e F β w h s) (he : ERel (ctx F β w h) x ex) (k : K x T h s) :
    PostX e F β w h B D K ex a w := ⟨x, β, T, h, s, k, GetsX.refl st hn, he, r, m, j⟩
theorem aX_skip (k : K .normal T h s) : aX P ρ e .skip T h s K := fun F β w a B D hn hB st r m j => wpIn_skip (xself .normal .normal hn st r m j rfl k)
theorem aX_ret (k : K .ret T h s) : aX P ρ e .ret T h s K := fun F β w a B D hn hB st r m j => wpIn_ret (xself .ret .ret hn st r m j rfl k)
theorem aX_exit {id : Nat} (k : K (.exit id) T h s) : aX P ρ e (.exit id) T h s K := fun F β w a B D hn hB st r m j => wpIn_exit (xself (.exit id) (.exit id) hn st r m j rfl k)
theorem aX_xregion {id : Nat} {ops : Array Oper} (k : xOps P e ops K ops.toList T h s) : aX P ρ e (.region id ops false) T h s K := by
  intro F β w a B D hn hB st r m j
  refine wpIn_region (xOps_sound ops.toList _ β w h T s a ?_ k (GetsX.refl st hn) r m j)
  apply List.ext_getElem?
  intro i
  by_cases hi : i < ops.size
  · simp [hi]
  · rw [List.getElem?_eq_none (by simpa using hi), List.getElem?_eq_none (by simpa using hi)]

def ThenX (P : Program) (ρ : Option Nat) (e : Option (YR n0)) (y : Code) (K : KX) : KX
  | .normal, T, h, s => aX P ρ e y T h s K
  | x, T, h, s => K x T h s
theorem PostX.trans {F : Nat → Prop} {β β' : Nat → Nat} {w w' : World} {B : Nat} {D : List Deferred} {ex : Exit} {a : Act} {w2 : World} (g : GetsX e F β w h β' w' h0) (p : PostX e F β' w' h0 B D K ex a w2) : PostX e F β w h B D K ex a w2 := by
  obtain ⟨x, β2, T2, h2, s2, q, g2, rest⟩ := p
  exact ⟨x, β2, T2, h2, s2, q, g.trans g2, rest⟩
theorem aX_seq {x y : Code} (a : aX P ρ e x T h s (ThenX P ρ e y K)) : aX P ρ e (.seq x y) T h s K := by
  intro F β w act B D hn hB st r m j
  refine wpIn_seq (wpIn_mono (a F β w act B D hn hB st r m j) ?_)
  rintro ex a' w' ⟨x, β', T', h', s', q, g, he, hr, hm, hj⟩
  cases x with
  | normal =>
    cases he
    exact wpIn_mono (q F β' w' a' B D g.len (Nat.le_trans hB g.step.size) g.st hr hm hj) fun _ _ _ p => PostX.trans g p
  | exit id => cases he; exact ⟨.exit id, β', T', h', s', q, g, rfl, hr, hm, hj⟩
  | ret => cases he; exact ⟨.ret, β', T', h', s', q, g, rfl, hr, hm, hj⟩
  | pan v => obtain ⟨v', rfl, rv⟩ := he; exact ⟨.pan v, β', T', h', s', q, g, ⟨v', rfl, rv⟩, hr, hm, hj⟩
/-- Behind the first of two: N. -/
def NxX (N : List AV → Heap → YS → Prop) (K : KX) : KX
  | .normal, T, h, s => N T h s
  | x, T, h, s => K x T h s
theorem aX_seq_k {x y : Code} (a : ∀ N : List AV → Heap → YS → Prop, (∀ T' h' s', aX P ρ e y T' h' s' K → N T' h' s') → aX P ρ e x T h s (NxX N K)) : aX P ρ e (.seq x y) T h s K := by
  refine aX_seq (aX_mono (a (fun T' h' s' => aX P ρ e y T' h' s' K) fun _ _ _ q => q) ?_)
  intro x T h s _ q
  cases x <;> exact q
theorem aX_cond {c : Operand} {x y : Code} {b : Bool} (hc : aEval T c = .bool b) (ht : b = true → aX P ρ e x T h s K) (hf : b = false → aX P ρ e y T h s K) : aX P ρ e (.cond c x y) T h s K := by
  intro F β w act B D hn hB st r m j
  have rc := aEval_rel r c
  rw [hc] at rc
  simp only [Rel] at rc
  exact wpIn_cond_split rc (fun q => ht q F β w act B D hn hB st r m j) (fun q => hf q F β w act B D hn hB st r m j)
def InBlockX (id : Nat) (K : KX) : KX
  | .exit i, T, h, s => if i = id then K .normal T h s else K (.exit i) T h s
  | x, T, h, s => K x T h s
theorem aX_block {id : Nat} {c : Code} (a : aX P ρ e c T h s (InBlockX id K)) : aX P ρ e (.block id c) T h s K := by
  intro F β w act B D hn hB st r m j
  refine wpIn_block (wpIn_mono (a F β w act B D hn hB st r m j) ?_)
  rintro ex a' w' ⟨x, β', T', h', s', q, g, he, hr, hm, hj⟩
  cases x with
  | normal => cases he; exact ⟨.normal, β', T', h', s', q, g, rfl, hr, hm, hj⟩
  | exit i =>
    cases he
    simp only [InBlockX] at q
    simp only [Exit.inBlock]
    split
    · rename_i hi; rw [if_pos hi] at q; exact ⟨.normal, β', T', h', s', q, g, rfl, hr, hm, hj⟩
    · rename_i hi; rw [if_neg hi] at q; exact ⟨.exit i, β', T', h', s', q, g, rfl, hr, hm, hj⟩
  | ret => cases he; exact ⟨.ret, β', T', h', s', q, g, rfl, hr, hm, hj⟩
  | pan v => obtain ⟨v', rfl, rv⟩ := he; exact ⟨.pan v, β', T', h', s', q, g, ⟨v', rfl, rv⟩, hr, hm, hj⟩

/-! ### weakening -/
theorem JOK.weak {m : Nat → Nat} (k : Weak n0 m T0 h0 T h) {F : Nat → Prop} {β : Nat → Nat} {w : World} (j : JOK e F β w h s) : JOK e F (fun id => β (m id)) w h0 s := fun y hy =>
  ⟨(j y hy).1, (y.ok m k.fix).rel k.via (j y hy).2⟩
theorem Weak.getsX {m : Nat → Nat} (k : Weak n0 m T0 h0 T h) {F : Nat → Prop} {βs β : Nat → Nat} {ws w : World} {hs : Heap} (g : GetsX e F βs ws hs β w h) : GetsX e F βs ws hs (fun id => β (m id)) w h0 :=
  ⟨k.st g.st, ⟨g.step.os, g.step.tape, g.step.output, g.step.size, g.step.keep, g.step.shape, fun b q => g.step.own b (q.imp k.own id)⟩, k.len, fun id hid => by simp only [k.fix id hid]; exact g.β id hid⟩
theorem aX_weak {m : Nat → Nat} {c : Code} (k : Weak n0 m T0 h0 T h) (a : aX P ρ e c T0 h0 s K) : aX P ρ e c T h s K := by
  intro F β w act B D hn hB st r mk j
  refine wpIn_mono (a F (fun id => β (m id)) w act B D k.len hB (k.st st) (k.vals.rel k.via r) mk (j.weak k)) ?_
  rintro ex a' w' ⟨x, β', T', h', s', q, g, rest⟩
  exact ⟨x, β', T', h', s', q, ⟨g.st, ⟨g.step.os, g.step.tape, g.step.output, g.step.size, fun b hb hO => g.step.keep b hb fun p => hO (p.imp k.own id), g.step.shape, fun b p => (g.step.own b p).imp (fun p => p.imp k.own id) id⟩, g.len, fun id hid => (g.β id hid).trans (by rw [k.fix id hid])⟩, rest⟩
theorem aX_forget {c : Code} (T0 : List AV) (hv : LeU T0 T) (a : n0 ≤ h.length → aX P ρ e c T0 h s K) : aX P ρ e c T h s K :=
  fun F β w act B D hn hB st r m j => aX_weak (Weak.forget hv hn) (a hn) F β w act B D hn hB st r m j

/-! ### loops -/
def RoundX (n0 : Nat) (I : Nat → List AV → Heap → YS → Prop) (n : Nat) (K : KX) : KX
  | .normal, T, h, s => ∃ n' m T0 h0, n' < n ∧ Weak n0 m T0 h0 T h ∧ I n' T0 h0 s
  | x, T, h, s => K x T h s
theorem wpIn_loop_ghost {F : Fence} {n : Nat} {Q : Exit → Act → World → Prop} {a : Act} {w : World} {c : Code} (I : Nat → Act → World → Prop) (n₀ : Nat) (h₀ : I n₀ a w)
    (round : ∀ k a w, I k a w → c.wpIn F n P (Exit.then (fun a' w' => ∃ k', k' < k ∧ I k' a' w') Q) a w) : (Code.loop c).wpIn F n P Q a w := by
  refine wpIn_loop (fun a w => ∃ n, I n a w) (fun a w => leastOf (fun n => I n a w)) ⟨n₀, h₀⟩ ?_
  intro a w hI
  refine wpIn_mono (round _ a w (leastOf_spec hI).1) ?_
  intro e a' w' hq
  cases e with
  | normal =>
    obtain ⟨n', hlt, hI'⟩ := hq
    exact show (∃ n, I n a' w') ∧ leastOf (fun n => I n a' w') < leastOf (fun n => I n a w) from ⟨⟨n', hI'⟩, Nat.lt_of_le_of_lt ((leastOf_spec ⟨n', hI'⟩).2 n' hI') hlt⟩
  | exit id => exact hq
  | goto l => exact hq
  | ret => exact hq
  | panic ch => exact hq
  | outgrown => exact hq
theorem aX_loop {c : Code} (I : Nat → List AV → Heap → YS → Prop) (n : Nat) (hI : I n T h s) (round : ∀ n T h s, n0 ≤ h.length → I n T h s → aX P ρ e c T h s (RoundX n0 I n K)) : aX P ρ e (.loop c) T h s K := by
  intro F β w act B D hn hB st r mk j
  refine wpIn_loop_ghost (fun n a w' => ∃ β' T' h' s', I n T' h' s' ∧ GetsX e F β w h β' w' h' ∧ RelL (ctx F β' w' h') T' a.tmps.toList ∧ MK B D a.defers w' ∧ JOK e F β' w' h' s') n ⟨β, T, h, s, hI, GetsX.refl st hn, r, mk, j⟩ ?_
  rintro n a1 w1 ⟨β1, T1, h1, s1, hI1, g1, r1, m1, j1⟩
  refine wpIn_mono (round n T1 h1 s1 g1.len hI1 F β1 w1 a1 B D g1.len (Nat.le_trans hB g1.step.size) g1.st r1 m1 j1) ?_
  rintro ex a' w' ⟨x, β', T', h', s', q, g, he, hr, hm, hj⟩
  cases x with
  | normal =>
    cases he
    obtain ⟨n', m, T0, h0, hlt, k, hI'⟩ := q
    exact ⟨n', hlt, _, T0, h0, s', hI', k.getsX (g1.trans g), k.vals.rel k.via hr, hm, hj.weak k⟩
  | exit i => cases he; exact ⟨.exit i, β', T', h', s', q, g1.trans g, rfl, hr, hm, hj⟩
  | ret => cases he; exact ⟨.ret, β', T', h', s', q, g1.trans g, rfl, hr, hm, hj⟩
  | pan v => obtain ⟨v', rfl, rv⟩ := he; exact ⟨.pan v, β', T', h', s', q, g1.trans g, ⟨v', rfl, rv⟩, hr, hm, hj⟩

/-! ### regions, by the set that evaluates -/
theorem aOp_mono {o : Oper} {next next' pan pan' : AV → Heap → Prop} (hn : ∀ v h', next v h' → next' v h') (hp : ∀ v h', pan v h' → pan' v h') (ho : aOp P o T h next pan) : aOp P o T h next' pan' := by
  unfold aOp at ho ⊢
  split at ho
  · rename_i c hc
    split at ho
    · rename_i f hf
      split at ho
      · refine ho.mono ?_
        intro r h' q
        cases r with
        | ret v => exact hn _ _ q
        | pan v => exact hp _ _ q
      · exact ho.elim
    · split at ho
      · exact hn _ _ ho
      · exact ho.elim
    · exact ho.elim
  · split at ho
    · exact hn _ _ ho
    · exact ho.elim
theorem xOp_of_aOp {o : Oper} {next : AV → Heap → YS → Prop} {pan : AV → Heap → YS → Prop} (ho : aOp P o T h (fun v h' => next v h' s) (fun v h' => pan v h' s)) : xOp P e o T h s next pan := by
  unfold xOp
  split
  · rename_i f as ts hop
    split
    · rename_i l hf
      unfold aOp at ho
      rw [hop] at ho
      simp only [hf] at ho
    · exact ho
  · exact ho
/-- A region without a call for a round. -/
theorem xOps_of_sOps (ops : Array Oper) : ∀ (os : List Oper) (T : List AV) (h : Heap), sOps P (fun x T h => K x T h s) (os.map (slim1 (ops.toList.map (·.dst)))) T h → xOps P e ops K os T h s
  | [], _, _, k => k
  | o :: os, T, h, k => by
    rw [List.map_cons, sOps] at k
    rw [xOps, sGuard_eq]
    split at k
    · rename_i hg
      rw [hg]
      simp only [if_true]
      exact xOp_of_aOp (aOp_mono (fun v h' q => xOps_of_sOps ops os _ h' q) (fun v h' q => q) (sOp_aOp k))
    · rename_i hg
      rw [hg]
      simp only [Bool.false_eq_true, if_false]
      exact xOps_of_sOps ops os _ h k
    · exact k.elim
theorem xOps_app (ops : Array Oper) (os2 : List Oper) : ∀ (os1 : List Oper) (T : List AV) (h : Heap), sOps P (fun x T h => match x with | .normal => xOps P e ops K os2 T h s | x => K x T h s) (os1.map (slim1 (ops.toList.map (·.dst)))) T h → xOps P e ops K (os1 ++ os2) T h s
  | [], _, _, k => k
  | o :: os, T, h, k => by
    rw [List.map_cons, sOps] at k
    rw [List.cons_append, xOps, sGuard_eq]
    split at k
    · rename_i hg
      rw [hg]
      simp only [if_true]
      exact xOp_of_aOp (aOp_mono (fun v h' q => xOps_app ops os2 os _ h' q) (fun v h' q => q) (sOp_aOp k))
    · rename_i hg
      rw [hg]
      simp only [Bool.false_eq_true, if_false]
      exact xOps_app ops os2 os _ h k
    · exact k.elim
/-- A region, and what stands behind it. -/
theorem aX_reg {id : Nat} {ops : Array Oper} {y : Code} (a : ∀ N : List AV → Heap → Prop, (∀ T' h', aX P ρ e y T' h' s K → N T' h') → sOps P (Nx N fun x T h => K x T h s) (slim ops.toList) T h) : aX P ρ e (.seq (.region id ops false) y) T h s K := by
  refine aX_seq (aX_xregion (xOps_of_sOps ops _ T h ?_))
  have := a (fun T' h' => aX P ρ e y T' h' s K) fun _ _ q => q
  unfold slim at this
  have e0 : (fun x T h => ThenX P ρ e y K x T h s) = Nx (fun T' h' => aX P ρ e y T' h' s K) (fun x T h => K x T h s) := by
    funext x T h
    cases x <;> rfl
  rw [e0]
  exact this
theorem aX_reg1 {id : Nat} {ops : Array Oper} (a : ∀ N : List AV → Heap → Prop, (∀ T' h', K .normal T' h' s → N T' h') → sOps P (Nx N fun x T h => K x T h s) (slim ops.toList) T h) : aX P ρ e (.region id ops false) T h s K := by
  refine aX_xregion (xOps_of_sOps ops _ T h ?_)
  have := a (fun T' h' => K .normal T' h' s) fun _ _ q => q
  unfold slim at this
  have e0 : (fun x T h => K x T h s) = Nx (fun T' h' => K .normal T' h' s) (fun x T h => K x T h s) := by
    funext x T h
    cases x <;> rfl
  rw [e0]
  exact this
/-- A region whose operation k asks for a round. -/
theorem aX_regY {id : Nat} {ops : Array Oper} (k : Nat) {oy : Oper} (hk : ops.toList = ops.toList.take k ++ oy :: ops.toList.drop (k + 1)) {f : Operand} {as : Array Operand} {ts : Array TypeId} (hop : oy.op = .call ⟨.value f, as, ts⟩)
    (a : ∀ N : List AV → Heap → Prop, (∀ T' h' l, aGuard ops T' oy = some true → aEval T' f = .fn (.yield l) [] → yArm P e l (as.toList.map (aEval T')) h' s (fun v h2 s2 => sOps P (fun x T h => K x T h s2) ((ops.toList.drop (k + 1)).map (slim1 (ops.toList.map (·.dst)))) (aPut T' oy.dst v) h2) → N T' h') →
      sOps P (Nx N fun x T h => K x T h s) ((ops.toList.take k).map (slim1 (ops.toList.map (·.dst)))) T h) : aX P ρ e (.region id ops false) T h s K := by
  refine aX_xregion ?_
  rw [hk]
  refine xOps_app ops _ _ T h ?_
  have := a (fun T' h' => xOps P e ops K (oy :: ops.toList.drop (k + 1)) T' h' s) fun T' h' l hg hf hy => ?_
  · have e0 : (fun x T h => match x with | .normal => xOps P e ops K (oy :: ops.toList.drop (k + 1)) T h s | x => K x T h s) = Nx (fun T' h' => xOps P e ops K (oy :: ops.toList.drop (k + 1)) T' h' s) (fun x T h => K x T h s) := by
      funext x T h
      cases x <;> rfl
    rw [e0]
    exact this
  · rw [xOps, hg]
    simp only [if_true]
    unfold xOp
    rw [hop]
    simp only [hf]
    obtain ⟨y, x, h1, h2, h3, h4, h5⟩ := hy
    refine ⟨y, x, h1, h2, h3, h4, aX_mono h5 ?_⟩
    intro q T1 h1 _ _ hq
    cases q with
    | normal =>
      refine aX_mono hq ?_
      intro q2 T2 h2 _ _ hq2
      cases q2 with
      | normal => exact xOps_of_sOps ops _ _ _ hq2
      | ret => exact xOps_of_sOps ops _ _ _ hq2
      | exit id => exact xOps_of_sOps ops _ _ _ hq2
      | pan v => exact hq2
    | exit id => exact hq
    | ret => exact hq
    | pan v => exact hq
end
end Go.AH
