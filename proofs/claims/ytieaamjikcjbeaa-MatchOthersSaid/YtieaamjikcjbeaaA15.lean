/- Rules of the weakest precondition for code. No condition. -/
import Derived.Test.YtieaamjikcjbeaaA14
namespace Go.AH
set_option linter.unusedSimpArgs false
set_option linter.unusedVariables false
open Go

/-- x0 says no more than x: it says nothing, or is x, its ids being read by way of m. -/
def LeV (m : Nat → Nat) (x0 x : AV) : Prop := match x0 with
  | .unk => True
  | x0 => ren m x0 = x

def LeL (m : Nat → Nat) : List AV → List AV → Prop
  | [], [] => True
  | x0 :: l0, x :: l => LeV m x0 x ∧ LeL m l0 l
  | _, _ => False

structure Weak (n0 : Nat) (m : Nat → Nat) (T0 : List AV) (h0 : Heap) (T : List AV) (h : Heap) : Prop where
  vals : LeL m T0 T
  blk : ∀ id b0, h0[id]? = some (some b0) → h[m id]? = some (some (renB m b0))
  inj : ∀ i j, i < h0.length → j < h0.length → m i = m j → i = j
  fix : ∀ id, id < n0 → m id = id
  len : n0 ≤ h0.length
  lt : ∀ id, id < h0.length → m id < h.length
  out : ∀ id, m id < h.length → id < h0.length

theorem LeV.rel {m : Nat → Nat} {c0 c : Ctx} (hv : Via m c0 c) {x0 x : AV} {v : Value} (h : LeV m x0 x) (r : Rel c x v) : Rel c0 x0 v := by
  unfold LeV at h
  split at h
  · exact trivial
  · subst h; exact Rel.via hv _ _ r

theorem LeL.rel {m : Nat → Nat} {c0 c : Ctx} (hv : Via m c0 c) : ∀ {l0 l : List AV} {vs : List Value}, LeL m l0 l → RelL c l vs → RelL c0 l0 vs
  | [], [], _, _, r => r
  | [], _ :: _, _, h, _ => h.elim
  | _ :: _, [], _, h, _ => h.elim
  | _ :: _, _ :: _, _, h, ⟨y, ys, e, r, rs⟩ => ⟨y, ys, e, h.1.rel hv r, LeL.rel hv h.2 rs⟩

section
variable {P : Program} {F : Nat → Prop} {n0 : Nat} {m : Nat → Nat} {T0 T : List AV} {h0 h : Heap} {β : Nat → Nat} {w : World}

theorem Weak.via (k : Weak n0 m T0 h0 T h) : Via m (ctx F (fun id => β (m id)) w h0) (ctx F β w h) where
  w := rfl
  β _ _ := rfl
  n := k.out
  N b hb := by
    rcases hb with ⟨id, blk, hb, e⟩ | hb
    · exact .inl ⟨m id, _, k.blk id blk hb, e⟩
    · exact .inr hb

theorem Weak.own (k : Weak n0 m T0 h0 T h) {b : Nat} (hb : Own (fun id => β (m id)) h0 b) : Own β h b := by
  obtain ⟨id, blk, hb, e⟩ := hb
  exact ⟨m id, _, k.blk id blk hb, e⟩

theorem lt_of_some {α : Type} {l : List α} {i : Nat} {x : α} (h : l[i]? = some x) : i < l.length := (List.getElem?_eq_some_iff.1 h).1

theorem Weak.st (k : Weak n0 m T0 h0 T h) (s : St F β w h) : St F (fun id => β (m id)) w h0 where
  live id blk hb := by
    obtain ⟨o, ho, hr⟩ := s.live (m id) _ (k.blk id blk hb)
    exact ⟨o, ho, BlkRel.via (k.via) hr⟩
  inj i j bi bj hi hj e := k.inj i j (lt_of_some hi) (lt_of_some hj) (s.inj _ _ _ _ (k.blk i bi hi) (k.blk j bj hj) e)
  sep b hF q := s.sep b hF (k.own q)
  flt := s.flt
  lt id hid := s.lt _ (k.lt id hid)

theorem Step.weaken {O O2 O' : Nat → Prop} {w w' : World} (h : Step O w w' O') (ho : ∀ b, O b → O2 b) : Step O2 w w' O' :=
  ⟨h.os, h.tape, h.output, h.size, fun b hb hO => h.keep b hb fun q => hO (ho b q), h.shape, fun b q => (h.own b q).imp (ho b) id⟩
theorem Step.shrink {O O' O2 : Nat → Prop} {w w' : World} (h : Step O w w' O') (ho : ∀ b, O2 b → O' b) : Step O w w' O2 :=
  ⟨h.os, h.tape, h.output, h.size, h.keep, h.shape, fun b q => h.own b (ho b q)⟩

theorem aW_weak {c : Code} {K : AExit → List AV → Heap → Prop} (k : Weak n0 m T0 h0 T h) (a : aW P n0 c T0 h0 K) : aW P n0 c T h K := by
  intro F β w act D hn s r hd
  refine wp_mono (a F (fun id => β (m id)) w act D k.len (k.st s) (k.vals.rel k.via r) hd) ?_
  rintro e a' w' ⟨x, β', T', h', hk, g, he, hr, hd'⟩
  exact ⟨x, β', T', h', hk, ⟨g.st, g.step.weaken fun b => k.own, g.len, fun id hid => (g.β id hid).trans (by rw [k.fix id hid])⟩, he, hr, hd'⟩

theorem Weak.gets {βs : Nat → Nat} {ws : World} {hs : Heap} (k : Weak n0 m T0 h0 T h) (g : Gets n0 F βs ws hs β w h) : Gets n0 F βs ws hs (fun id => β (m id)) w h0 :=
  ⟨k.st g.st, g.step.shrink fun b => k.own, k.len, fun id hid => by simp only [k.fix id hid]; exact g.β id hid⟩

/-! ### rules -/
theorem aW_mono {c : Code} {K K' : AExit → List AV → Heap → Prop} (a : aW P n0 c T h K) (hk : ∀ e T h, n0 ≤ h.length → K e T h → K' e T h) : aW P n0 c T h K' := by
  intro F β w act D hn s r hd
  refine wp_mono (a F β w act D hn s r hd) ?_
  rintro e a' w' ⟨x, β', T', h', q, g, he, hr, hd'⟩
  exact ⟨x, β', T', h', hk _ _ _ g.len q, g, he, hr, hd'⟩

theorem aW_skip {K : AExit → List AV → Heap → Prop} (k : K .normal T h) : aW P n0 .skip T h K :=
  fun _ _ _ _ _ hn s r hd => wp_skip ⟨.normal, _, T, h, k, Gets.refl s hn, rfl, r, hd⟩
theorem aW_ret {K : AExit → List AV → Heap → Prop} (k : K .ret T h) : aW P n0 .ret T h K :=
  fun _ _ _ _ _ hn s r hd => wp_ret ⟨.ret, _, T, h, k, Gets.refl s hn, rfl, r, hd⟩
theorem aW_exit {id : Nat} {K : AExit → List AV → Heap → Prop} (k : K (.exit id) T h) : aW P n0 (.exit id) T h K :=
  fun _ _ _ _ _ hn s r hd => wp_exit ⟨.exit id, _, T, h, k, Gets.refl s hn, rfl, r, hd⟩
theorem aW_label {l : Nat} {K : AExit → List AV → Heap → Prop} (k : K .normal T h) : aW P n0 (.label l) T h K :=
  fun _ _ _ _ _ hn s r hd => wp_label ⟨.normal, _, T, h, k, Gets.refl s hn, rfl, r, hd⟩

theorem aW_region {id : Nat} {ops : Array Oper} {K : AExit → List AV → Heap → Prop} (k : aOps P ops K ops.toList T h) : aW P n0 (.region id ops false) T h K := by
  intro F β w a D hn s r hd
  refine wp_region (aOps_sound ops.toList _ β w h T a ?_ k (Gets.refl s hn) r hd)
  apply List.ext_getElem?
  intro i
  by_cases hi : i < ops.size
  · simp [hi]
  · rw [List.getElem?_eq_none (by simpa using hi), List.getElem?_eq_none (by simpa using hi)]

/-- What stands behind the first of two. -/
def Then (P : Program) (n0 : Nat) (y : Code) (K : AExit → List AV → Heap → Prop) : AExit → List AV → Heap → Prop
  | .normal, T, h => aW P n0 y T h K
  | e, T, h => K e T h

theorem aW_seq {x y : Code} {K : AExit → List AV → Heap → Prop} (a : aW P n0 x T h (Then P n0 y K)) : aW P n0 (.seq x y) T h K := by
  intro F β w act D hn s r hd
  refine wp_seq (wp_mono (a F β w act D hn s r hd) ?_)
  rintro e a' w' ⟨x, β', T', h', q, g, he, hr, hd'⟩
  cases x with
  | normal =>
    cases he
    refine wp_mono (q F β' w' a' D g.len g.st hr hd') ?_
    rintro e2 a2 w2 ⟨x2, β2, T2, h2, q2, g2, he2, hr2, hd2⟩
    exact ⟨x2, β2, T2, h2, q2, g.trans g2, he2, hr2, hd2⟩
  | exit id => cases he; exact ⟨.exit id, β', T', h', q, g, rfl, hr, hd'⟩
  | ret => cases he; exact ⟨.ret, β', T', h', q, g, rfl, hr, hd'⟩
  | pan v => obtain ⟨v', rfl, rv⟩ := he; exact ⟨.pan v, β', T', h', q, g, ⟨v', rfl, rv⟩, hr, hd'⟩

theorem aW_cond {c : Operand} {x y : Code} {b : Bool} {K : AExit → List AV → Heap → Prop} (hc : aEval T c = .bool b) (ht : b = true → aW P n0 x T h K) (hf : b = false → aW P n0 y T h K) : aW P n0 (.cond c x y) T h K := by
  intro F β w act D hn s r hd
  have rc := aEval_rel r c
  rw [hc] at rc
  simp only [Rel] at rc
  exact wp_cond_split rc (fun e => ht e F β w act D hn s r hd) (fun e => hf e F β w act D hn s r hd)

def InBlock (id : Nat) (K : AExit → List AV → Heap → Prop) : AExit → List AV → Heap → Prop
  | .exit i, T, h => if i = id then K .normal T h else K (.exit i) T h
  | e, T, h => K e T h

theorem aW_block {id : Nat} {c : Code} {K : AExit → List AV → Heap → Prop} (a : aW P n0 c T h (InBlock id K)) : aW P n0 (.block id c) T h K := by
  intro F β w act D hn s r hd
  refine wp_block (wp_mono (a F β w act D hn s r hd) ?_)
  rintro e a' w' ⟨x, β', T', h', q, g, he, hr, hd'⟩
  cases x with
  | normal => cases he; exact ⟨.normal, β', T', h', q, g, rfl, hr, hd'⟩
  | exit i =>
    cases he
    simp only [InBlock] at q
    simp only [Exit.inBlock]
    split
    · rename_i hi; rw [if_pos hi] at q; exact ⟨.normal, β', T', h', q, g, rfl, hr, hd'⟩
    · rename_i hi; rw [if_neg hi] at q; exact ⟨.exit i, β', T', h', q, g, rfl, hr, hd'⟩
  | ret => cases he; exact ⟨.ret, β', T', h', q, g, rfl, hr, hd'⟩
  | pan v => obtain ⟨v', rfl, rv⟩ := he; exact ⟨.pan v, β', T', h', q, g, ⟨v', rfl, rv⟩, hr, hd'⟩

/-- What a round of a loop leaves: the invariant, of what is still known, at a smaller number. -/
def Round (n0 : Nat) (I : Nat → List AV → Heap → Prop) (n : Nat) (K : AExit → List AV → Heap → Prop) : AExit → List AV → Heap → Prop
  | .normal, T, h => ∃ n' m T0 h0, n' < n ∧ Weak n0 m T0 h0 T h ∧ I n' T0 h0
  | e, T, h => K e T h

theorem aW_loop {c : Code} {K : AExit → List AV → Heap → Prop} (I : Nat → List AV → Heap → Prop) (n : Nat) (hI : I n T h) (round : ∀ n T h, n0 ≤ h.length → I n T h → aW P n0 c T h (Round n0 I n K)) : aW P n0 (.loop c) T h K := by
  intro F β w act D hn s r hd
  refine wp_loop_ghost (fun n a w' => ∃ β' T' h', I n T' h' ∧ Gets n0 F β w h β' w' h' ∧ RelL (ctx F β' w' h') T' a.tmps.toList ∧ a.defers = D) n ⟨β, T, h, hI, Gets.refl s hn, r, hd⟩ ?_
  rintro n a1 w1 ⟨β1, T1, h1, hI1, g1, r1, hd1⟩
  refine wp_mono (round n T1 h1 g1.len hI1 F β1 w1 a1 D g1.len g1.st r1 hd1) ?_
  rintro e a' w' ⟨x, β', T', h', q, g, he, hr, hd'⟩
  cases x with
  | normal =>
    cases he
    obtain ⟨n', m, T0, h0, hlt, k, hI'⟩ := q
    exact ⟨n', hlt, _, T0, h0, hI', k.gets (g1.trans g), k.vals.rel k.via hr, hd'⟩
  | exit i => cases he; exact ⟨.exit i, β', T', h', q, g1.trans g, rfl, hr, hd'⟩
  | ret => cases he; exact ⟨.ret, β', T', h', q, g1.trans g, rfl, hr, hd'⟩
  | pan v => obtain ⟨v', rfl, rv⟩ := he; exact ⟨.pan v, β', T', h', q, g1.trans g, ⟨v', rfl, rv⟩, hr, hd'⟩

/-! ### a function's body -/
def aRes1 (P : Program) (T : List AV) (h : Heap) : ResultVar → Option AV
  | .tmp t => some (T.getD t .unk)
  | .cell a t => aLoad P h t (T.getD a .unk)
def aRess (P : Program) (T : List AV) (h : Heap) : List ResultVar → Option (List AV)
  | [] => some []
  | r :: rs => match aRes1 P T h r, aRess P T h rs with
    | some v, some vs => some (v :: vs)
    | _, _ => none
def aResults (P : Program) (rs : List ResultVar) (T : List AV) (h : Heap) : Option AV := match aRess P T h rs with
  | some [v] => some v
  | some vs => some (.tup vs)
  | none => none

def res1 (tmps : Array Value) : ResultVar → Sem Value
  | .tmp t => pure (tmps.getD t undef)
  | .cell a t => do loadVar t (← asAddr (tmps.getD a undef))

theorem results_eq (fn : Func) (tmps : Array Value) : results fn tmps = (do
    let vs ← fn.results.toList.mapM (res1 tmps)
    pure (if h : vs.toArray.size = 1 then vs.toArray[0] else .tuple vs.toArray)) := by
  unfold results
  rw [Array.mapM_eq_mapM_toList]
  simp only [map_eq_pure_bind, bind_assoc, pure_bind]
  congr 1

theorem run_aRess {T : List AV} {tmps : Array Value} (s : St F β w h) (r : RelL (ctx F β w h) T tmps.toList) : ∀ (rs : List ResultVar) (vs : List AV), aRess P T h rs = some vs →
    ∃ us, (rs.mapM (res1 tmps)).run P w = .ok us w ∧ RelL (ctx F β w h) vs us
  | [], vs, hv => by simp [aRess] at hv; subst hv; exact ⟨[], by simp, rfl⟩
  | x :: rs, vs, hv => by
    unfold aRess at hv
    split at hv <;> simp only [Option.some.injEq, reduceCtorEq] at hv
    rename_i v vs' h1 h2
    subst hv
    obtain ⟨us, hus, rus⟩ := run_aRess s r rs vs' h2
    have key : ∀ t, Rel (ctx F β w h) (T.getD t .unk) (tmps.getD t undef) := fun t => aEval_rel (a := ⟨tmps, []⟩) r (.tmp t)
    have fin : ∀ u, (res1 tmps x).run P w = .ok u w → Rel (ctx F β w h) v u → ∃ us, ((x :: rs).mapM (res1 tmps)).run P w = .ok us w ∧ RelL (ctx F β w h) (v :: vs') us := by
      intro u hu ru
      refine ⟨u :: us, ?_, u, us, rfl, ru, rus⟩
      rw [List.mapM_cons]
      simp only [Sem.run_bind, hu, hus, Result.andThen_ok, Sem.run_pure]
    cases x with
    | tmp t =>
      simp only [aRes1, Option.some.injEq] at h1
      subst h1
      exact fin _ rfl (key t)
    | cell a t =>
      simp only [aRes1] at h1
      obtain ⟨u, hu, ru⟩ := run_aLoad (P := P) s h1 (key a)
      have ha : ∃ ad, tmps.getD a undef = .pointer (some ad) := by
        have := key a
        unfold aLoad at h1
        split at h1
        · rename_i hx; rw [hx] at this; exact ⟨_, this.2⟩
        · rename_i hx; rw [hx] at this; obtain ⟨b, o, e, _⟩ := this; exact ⟨_, e⟩
        · cases h1
      obtain ⟨ad, had⟩ := ha
      rw [had] at hu
      simp only [Instr.loadAt, Instr.sureAddr, Sem.run_bind, Sem.run_pure, Result.andThen_ok] at hu
      refine fin u ?_ ru
      simp only [res1, had, asAddr, Sem.run_bind, Sem.run_pure, Result.andThen_ok]
      exact hu

theorem run_aResults {fn : Func} {T : List AV} {tmps : Array Value} {v : AV} (s : St F β w h) (r : RelL (ctx F β w h) T tmps.toList) (hv : aResults P fn.results.toList T h = some v) : ∃ u, (results fn tmps).run P w = .ok u w ∧ Rel (ctx F β w h) v u := by
  unfold aResults at hv
  have conv : ∀ us : List Value, (fn.results.toList.mapM (res1 tmps)).run P w = .ok us w → (results fn tmps).run P w = .ok (if h : us.toArray.size = 1 then us.toArray[0] else .tuple us.toArray) w := by
    intro us hus
    rw [results_eq]
    simp only [Sem.run_bind, hus, Result.andThen_ok, Sem.run_pure]
  split at hv
  · rename_i x hx
    simp only [Option.some.injEq] at hv
    subst hv
    obtain ⟨us, h1, u, us', rfl, ru, h3⟩ := run_aRess (P := P) s r _ _ hx
    have h3' : us' = [] := h3
    subst h3'
    exact ⟨u, by rw [conv _ h1]; rfl, ru⟩
  · rename_i vs hne hx
    simp only [Option.some.injEq] at hv
    subst hv
    obtain ⟨us, h1, h2⟩ := run_aRess (P := P) s r _ _ hx
    have hl := h2.length
    have : us.toArray.size ≠ 1 := by
      intro h1
      simp at h1
      rw [h1] at hl
      cases vs with
      | nil => simp at hl
      | cons a l => cases l with
        | nil => exact hne a rfl
        | cons _ _ => simp at hl
    refine ⟨.tuple us.toArray, by rw [conv _ h1, dif_neg this], us.toArray, rfl, by simpa using h2⟩
  · cases hv

/-- What a body may leave. -/
def Body (P : Program) (fn : Func) (n0 : Nat) (K : AEnd → Heap → Prop) : AExit → List AV → Heap → Prop
  | .normal, T, h => ∃ R m r h0, aResults P fn.results.toList T h = some R ∧ Weak n0 m [r] h0 [R] h ∧ K (.ret r) h0
  | .ret, T, h => ∃ R m r h0, aResults P fn.results.toList T h = some R ∧ Weak n0 m [r] h0 [R] h ∧ K (.ret r) h0
  | .pan v, _, h => ∃ m r h0, Weak n0 m [r] h0 [v] h ∧ K (.pan r) h0
  | .exit _, _, _ => False

theorem acalls_body {f : FuncId} {fn : Func} {c : Code} {args : List AV} {K : AEnd → Heap → Prop} (hf : P.funcs[f]? = some fn) (hb : fn.body = some c) (hn : (fn.name == "runtime.NumGoroutine") = false)
    (a : aW P h.length c (args ++ List.replicate (fn.ntmps - args.length) (.tup [])) h (Body P fn h.length K)) : ACalls P f args h K := by
  refine ⟨⟨fn, hf, by rw [hb]; rfl, hn⟩, fun F β w vs s r => calls_of_wp hf hb ?_⟩
  have hl : args.length = vs.size := by have := r.length; simpa using this
  have r0 : RelL (ctx F β w h) (args ++ List.replicate (fn.ntmps - args.length) (.tup [])) (vs ++ Array.replicate (fn.ntmps - vs.size) undef).toList := by
    rw [Array.toList_append, Array.toList_replicate, ← hl]
    exact r.append (RelL.replicate (show Rel _ (.tup []) undef from ⟨#[], rfl, rfl⟩) _)
  refine wp_mono (a F β w _ [] (Nat.le_refl _) s r0 rfl) ?_
  rintro e a' w' ⟨x, β', T', h', q, g, he, hr, hd'⟩
  have fin : (∃ R m r h0, aResults P fn.results.toList T' h' = some R ∧ Weak h.length m [r] h0 [R] h' ∧ K (.ret r) h0) → ∃ v, (results fn a'.tmps).run P w' = .ok v w' ∧ ∃ β' h' r, K r h' ∧ Goes F β w h β' w' h' ∧ EndRel (ctx F β' w' h') r (.returned v) := by
    rintro ⟨R, m, r, h0, h1, k, hk⟩
    obtain ⟨u, hu, ru⟩ := run_aResults (P := P) (fn := fn) g.st hr h1
    exact ⟨u, hu, _, h0, .ret r, hk, (k.gets g).goes, u, rfl, k.vals.1.rel k.via ru⟩
  cases x with
  | normal => cases he; exact ⟨hd', fin q⟩
  | ret => cases he; exact ⟨hd', fin q⟩
  | exit i => exact q.elim
  | pan v =>
    obtain ⟨v', rfl, rv⟩ := he
    obtain ⟨m, r, h0, k, hk⟩ := q
    exact ⟨hd', _, h0, .pan r, hk, (k.gets g).goes, v', rfl, k.vals.1.rel k.via rv⟩

end
end Go.AH
