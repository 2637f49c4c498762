/- Regions that draw their order are sound under a plan. No condition. -/
import Derived.Test.YtieaamjikcjbeaaA20
namespace Go.AH
set_option linter.unusedSimpArgs false
set_option linter.unusedVariables false
open Go

theorem countP_lt {p q : Nat → Bool} {i : Nat} (hqp : ∀ j, q j = true → p j = true) (hpi : p i = true) (hqi : q i = false) : ∀ (l : List Nat), i ∈ l → l.countP q < l.countP p
  | [], hi => by simp at hi
  | x :: l, hi => by
    have hle : l.countP q ≤ l.countP p := List.countP_mono_left fun j _ h => hqp j h
    rw [List.countP_cons, List.countP_cons]
    by_cases hx : x = i
    · subst hx
      simp only [hpi, hqi, if_true, Bool.false_eq_true, if_false]
      omega
    · have hi' : i ∈ l := by
        rw [List.mem_cons] at hi
        exact hi.resolve_left fun e => hx e.symm
      have := countP_lt hqp hpi hqi l hi'
      by_cases hq : q x = true
      · simp only [hq, hqp x hq, if_true]; omega
      · simp only [hq, if_false, Bool.false_eq_true]; split <;> omega

def cnt (n : Nat) (L : Array Bool) : Nat := (List.range n).countP fun j => !L.getD j true

section
variable {P : Program} {ops : Array Oper} {pl : Plan} {K : AExit → List AV → Heap → Prop} {n0 : Nat} {D : List Deferred} {F : Nat → Prop} {β0 : Nat → Nat} {w0 : World} {h0 : Heap}

theorem place_of (hp : PlanP ops.toList pl) {i : Nat} (hi : i < ops.size) (hne : i ∉ pl.eff) : ∃ k', k' ≤ pl.eff.length ∧ i ∈ pl.ns.getD k' [] := by
  rcases hp.place i (by simpa using hi) with q | ⟨k, l, hl, q⟩
  · exact absurd q hne
  · have := hp.nsl
    have hk := (List.getElem?_eq_some_iff.1 hl).1
    exact ⟨k, by omega, by rw [List.getD, hl]; exact q⟩

theorem eff_of {i : Nat} (h : i ∈ pl.eff) : ∃ j, j < pl.eff.length ∧ pl.eff.getD j 0 = i := by
  obtain ⟨j, hj⟩ := List.getElem?_of_mem h
  exact ⟨j, (List.getElem?_eq_some_iff.1 hj).1, by rw [List.getD, hj]; rfl⟩

theorem getD_mem_eff {j : Nat} (h : j < pl.eff.length) : pl.eff.getD j 0 ∈ pl.eff := by
  rw [List.getD, List.getElem?_eq_getElem h]
  exact List.getElem_mem _

/-- The first stage: what is done without any effect. -/
theorem stage0 (hp : PlanP ops.toList pl) {T : List AV} {β : Nat → Nat} {w : World} {h : Heap} {a : Act} (s : sDraw P (slim ops.toList) K pl.eff pl.ns pl.fs T h) (g : Gets n0 F β0 w0 h0 β w h) (r : RelL (ctx F β w h) T a.tmps.toList) (hd : a.defers = D) :
    ∃ T1, DInv P ops pl K n0 D F β0 w0 h0 0 (Array.replicate ops.size false) T1 β w h a := by
  obtain ⟨n, ns', f, fs', T1, e1, e2, hrun, hag, hc⟩ := sDraw_cont s
  have hn0 : pl.ns.getD 0 [] = n := by rw [e1]; rfl
  have hf0 : pl.fs.getD 0 [] = f := by rw [e2]; rfl
  have hrep : ∀ i d, (Array.replicate ops.size false).getD i d = if i < ops.size then false else d := by
    intro i d
    by_cases hi : i < ops.size <;> simp [Array.getD, hi]
  refine ⟨T1, by simp, Nat.zero_le _, fun i hi hl => ?_, fun j hj => ?_, fun k' hk' i hi hl => ?_, fun t x hx hpd => ?_, ?_, g, hd, ?_⟩
  · rw [hrep, if_pos hi] at hl; cases hl
  · have := (hp.eff _ (getD_mem_eff hj)).1
    rw [hrep, if_pos (by simpa using this)]
    simp
  · obtain rfl : k' = 0 := by omega
    rcases hp.asked 0 (Nat.zero_le _) 0 (Nat.le_refl _) i hi with q | ⟨j, hj, _⟩
    · rw [hf0] at q; exact again_mem hag i q
    · omega
  · have hT : T1[t]? = T[t]? := by
      refine nsRun_other hrun fun i hi o ho e => hpd ?_
      have hi' : i ∈ pl.ns.getD 0 [] := by rw [hn0]; exact hi
      obtain ⟨hin, _⟩ := hp.ns 0 (Nat.zero_le _) i hi'
      rw [Array.length_toList] at hin
      refine ⟨i, 0, Nat.le_refl _, hi', by rw [hrep, if_pos hin], ?_⟩
      have hoi : ops[i]? = some ops[i] := by simp [hin]
      have := slim_get hoi
      rw [this] at ho
      simp only [Option.some.injEq] at ho
      rw [getD_of hoi, ← e, ← ho]
      rfl
    rw [hT] at hx
    exact r.get hx
  · rw [nsRun_length hrun]; exact r.length
  · rw [e1, e2]; simpa using hc

/-- The next stage: behind an effect. -/
theorem stageS (hp : PlanP ops.toList pl) {k i : Nat} {L : Array Bool} {T : List AV} {β β' : Nat → Nat} {w w' : World} {h h' : Heap} {a : Act} (I : DInv P ops pl K n0 D F β0 w0 h0 k L T β w h a) {o : Oper} (ho : ops[i]? = some o)
    (hk : k < pl.eff.length) (hik : pl.eff.getD k 0 = i) (hpre : ∀ e ∈ (ops.toList.getD i default).after, Region.binds .any e = true → L.getD e.on false = true)
    {v : AV} {v' : Value} (s : sDraw P (slim ops.toList) K (pl.eff.drop (k + 1)) (pl.ns.drop (k + 1)) (pl.fs.drop (k + 1)) (aPut T o.dst v) h') (g : Goes F β w h β' w' h') (rv : Rel (ctx F β' w' h') v v') :
    ∃ T1, DInv P ops pl K n0 D F β0 w0 h0 (k + 1) (L.setIfInBounds i true) T1 β' w' h' (a.put o.dst v') := by
  obtain ⟨n, ns', f, fs', T1, e1, e2, hrun, hag, hc⟩ := sDraw_cont s
  have hnl := hp.nsl
  have hfl := hp.fsl
  have hin : i < ops.size := (Array.getElem?_eq_some_iff.1 ho).1
  have hn0 : pl.ns.getD (k + 1) [] = n := by
    have := congrArg (·[0]?) e1
    simp only [List.getElem?_drop] at this
    rw [List.getD, show k + 1 = k + 1 + 0 from rfl, this]
    rfl
  have hf0 : pl.fs.getD (k + 1) [] = f := by
    have := congrArg (·[0]?) e2
    simp only [List.getElem?_drop] at this
    rw [List.getD, show k + 1 = k + 1 + 0 from rfl, this]
    rfl
  have hLi : L.getD i true = false := by
    rw [getD_false_true (by rw [I.size]; exact hin)]
    cases hv : L.getD i false with
    | false => rfl
    | true =>
      have := (I.effs k hk).1 (by rw [hik]; exact hv)
      omega
  have hset : ∀ j d, (L.setIfInBounds i true).getD j d = if j = i then true else L.getD j d := fun j d => set_getD d (by rw [I.size]; exact hin)
  have hcl := closed_set I.size I.closed hin hpre
  have hieff : i ∈ pl.eff := by rw [← hik]; exact getD_mem_eff hk
  have nsNe : ∀ k', k' ≤ pl.eff.length → ∀ j ∈ pl.ns.getD k' [], j ≠ i := by
    rintro k' hk' j hj rfl
    refine (hp.eff j hieff).2 k' (pl.ns.getD k' []) ?_ hj
    rw [List.getD, List.getElem?_eq_getElem (by omega)]
    rfl
  have le := g.le I.gets.st
  -- none of the next stage is done yet
  have fresh : ∀ j ∈ pl.ns.getD (k + 1) [], (L.setIfInBounds i true).getD j true = false := by
    intro j hj
    obtain ⟨hjn, hanc, _⟩ := hp.ns (k + 1) (by omega) j hj
    rw [Array.length_toList] at hjn
    rw [hset, if_neg (nsNe _ (by omega) j hj)]
    rw [getD_false_true (by rw [I.size]; exact hjn)]
    cases hv : L.getD j false with
    | false => rfl
    | true =>
      have hanc' : pl.eff.getD k 0 ∈ pl.anc.getD j [] := by
        rcases hanc with q | q
        · omega
        · simpa using q
      have := anc_done hp I.closed j hjn (I.closed j hjn hv) _ hanc'
      have := (I.effs k hk).1 this
      omega
  refine ⟨T1, by simpa using I.size, hk, hcl, fun j hj => ?_, fun k' hk' j hj hl => ?_, fun t x hx hpd => ?_, ?_, I.gets.trans (g.gets I.gets.len), by rw [Act.put_defers']; exact I.defers, ?_⟩
  · rw [hset]
    by_cases e : pl.eff.getD j 0 = i
    · rw [if_pos e]
      have : j = k := by
        rw [← hik] at e
        rw [List.getD, List.getD, List.getElem?_eq_getElem hj, List.getElem?_eq_getElem hk] at e
        exact (List.getElem_inj hp.nodup).1 e
      subst this
      simp
    · rw [if_neg e, I.effs j hj]
      have : j ≠ k := fun q => e (by rw [q, hik])
      omega
  · rcases hp.asked (k + 1) (by omega) k' hk' j hj with q | ⟨j2, hj2, q⟩
    · rw [hf0] at q; exact again_mem hag j q
    · exfalso
      have hj2e : pl.eff.getD j2 0 ∈ pl.eff := getD_mem_eff (by omega)
      have hj2n := (hp.eff _ hj2e).1
      rw [Array.length_toList] at hj2n
      have hdone : (L.setIfInBounds i true).getD (pl.eff.getD j2 0) false = true := by
        rw [hset]
        split
        · rfl
        · rename_i e
          refine (I.effs j2 (by omega)).2 ?_
          have : j2 ≠ k := fun q => e (by rw [q, hik])
          omega
      have := anc_done hp hcl _ hj2n (hcl _ hj2n hdone) j q
      obtain ⟨hjn, _⟩ := hp.ns k' (by omega) j hj
      rw [Array.length_toList] at hjn
      rw [getD_false_true (by simpa using (show j < L.size by rw [I.size]; exact hjn))] at hl
      rw [hl] at this
      cases this
  · have hT : T1[t]? = (aPut T o.dst v)[t]? := by
      refine nsRun_other hrun fun j hj o' ho' e => hpd ?_
      have hj' : j ∈ pl.ns.getD (k + 1) [] := by rw [hn0]; exact hj
      obtain ⟨hjn, _⟩ := hp.ns (k + 1) (by omega) j hj'
      rw [Array.length_toList] at hjn
      refine ⟨j, k + 1, Nat.le_refl _, hj', fresh j hj', ?_⟩
      have hoj : ops[j]? = some ops[j] := by simp [hjn]
      have := slim_get hoj
      rw [this] at ho'
      simp only [Option.some.injEq] at ho'
      rw [getD_of hoj, ← e, ← ho']
      rfl
    rw [hT, aPut_get] at hx
    rw [put_get, ← I.len]
    split at hx
    · rename_i hc2
      rw [if_pos hc2]
      simp only [Option.some.injEq] at hx
      subst hx
      exact ⟨v', rfl, rv⟩
    · rename_i hc2
      rw [if_neg hc2]
      have hpd' : ¬ Pend ops pl k L t := by
        rintro ⟨j, k', hk', hj, hjl, hjd⟩
        refine hpd ⟨j, k', by omega, hj, ?_, hjd⟩
        rw [hset, if_neg (nsNe k' (by omega) j hj)]
        exact hjl
      obtain ⟨y, hy, ry⟩ := I.rel t x hx hpd'
      exact ⟨y, hy, Rel.le le _ _ ry⟩
  · rw [nsRun_length hrun, aPut_length, put_length]; exact I.len
  · have a1 : pl.ns.drop (k + 1 + 1) = ns' := by rw [← List.drop_drop, e1]; rfl
    have a2 : pl.fs.drop (k + 1 + 1) = fs' := by rw [← List.drop_drop, e2]; rfl
    rw [a1, a2]
    exact hc

/-- An operation without an effect is done late: it gives what it gave. -/
theorem late (hp : PlanP ops.toList pl) {k i k' : Nat} {L : Array Bool} {T : List AV} {β : Nat → Nat} {w w' : World} {h : Heap} {a : Act} (I : DInv P ops pl K n0 D F β0 w0 h0 k L T β w h a) {o : Oper} (ho : ops[i]? = some o)
    (hk' : k' ≤ k) (hi : i ∈ pl.ns.getD k' []) (hpre : ∀ e ∈ (ops.toList.getD i default).after, Region.binds .any e = true → L.getD e.on false = true)
    {d : Tmp} (hd : o.dst = some d) {x : AV} (hx : T[d]? = some x) {v' : Value} {β' : Nat → Nat} (g : Goes F β w h β' w' h) (rv : Rel (ctx F β' w' h) x v') :
    DInv P ops pl K n0 D F β0 w0 h0 k (L.setIfInBounds i true) T β' w' h (a.put o.dst v') := by
  have hin : i < ops.size := (Array.getElem?_eq_some_iff.1 ho).1
  have hset : ∀ j d, (L.setIfInBounds i true).getD j d = if j = i then true else L.getD j d := fun j d => set_getD d (by rw [I.size]; exact hin)
  have hne : i ∉ pl.eff := by
    intro q
    have hnl := hp.nsl
    have := I.le
    refine (hp.eff i q).2 k' (pl.ns.getD k' []) ?_ hi
    rw [List.getD, List.getElem?_eq_getElem (by omega)]
    rfl
  have le := g.le I.gets.st
  refine ⟨by simpa using I.size, I.le, closed_set I.size I.closed hin hpre, fun j hj => ?_, fun k2 hk2 j hj hl => ?_, fun t y hy hpd => ?_, by rw [put_length]; exact I.len, I.gets.trans (g.gets I.gets.len), by rw [Act.put_defers']; exact I.defers, I.cont⟩
  · rw [hset, if_neg (fun e => hne (by rw [← e]; exact getD_mem_eff hj))]
    exact I.effs j hj
  · rw [hset] at hl
    split at hl
    · cases hl
    · exact I.ask k2 hk2 j hj hl
  · rw [put_get, ← I.len]
    by_cases e : d = t
    · subst e
      rw [if_pos ⟨hd, (List.getElem?_eq_some_iff.1 hx).1⟩]
      rw [hx] at hy
      cases hy
      exact ⟨v', rfl, rv⟩
    · rw [if_neg (by rw [hd]; simp [e])]
      have hpd' : ¬ Pend ops pl k L t := by
        rintro ⟨j, k2, hk2, hj, hjl, hjd⟩
        refine hpd ⟨j, k2, hk2, hj, ?_, hjd⟩
        rw [hset]
        split
        · rename_i e2
          subst e2
          rw [getD_of ho, hd] at hjd
          simp only [Option.some.injEq] at hjd
          exact absurd hjd e
        · exact hjl
      obtain ⟨z, hz, rz⟩ := I.rel t y hy hpd'
      exact ⟨z, hz, Rel.le le _ _ rz⟩

theorem draw_any (hp : PlanP ops.toList pl) : ∀ (fuel k : Nat) (L : Array Bool) (T : List AV) (β : Nat → Nat) (w : World) (h : Heap) (a : Act), cnt ops.size L ≤ fuel → DInv P ops pl K n0 D F β0 w0 h0 k L T β w h a →
    wpAny P .any ops (Post n0 F β0 w0 h0 D K) fuel L a w := by
  intro fuel
  -- all done
  have fin : ∀ (k : Nat) (L : Array Bool) (T : List AV) (β : Nat → Nat) (w : World) (h : Heap) (a : Act), (∀ i, i < ops.size → L.getD i true = true) → DInv P ops pl K n0 D F β0 w0 h0 k L T β w h a → Post n0 F β0 w0 h0 D K .normal a w := by
    intro k L T β w h a hall I
    have hk : k = pl.eff.length := by
      rcases Nat.lt_or_ge k pl.eff.length with q | q
      · have hn := (hp.eff _ (getD_mem_eff q)).1
        rw [Array.length_toList] at hn
        have h1 := hall _ hn
        rw [getD_false_true (by rw [I.size]; exact hn)] at h1
        have := (I.effs k q).1 h1
        omega
      · have := I.le; omega
    have hc := I.cont
    rw [hk, List.drop_length] at hc
    have hnp : ∀ t, ¬ Pend ops pl k L t := by
      rintro t ⟨j, k', hk', hj, hjl, _⟩
      obtain ⟨hjn, _⟩ := hp.ns k' (by omega) j hj
      rw [Array.length_toList] at hjn
      rw [hall j hjn] at hjl
      cases hjl
    exact ⟨.normal, β, T, h, hc, I.gets, rfl, relL_of_get I.len fun i x y hx hy => by
      obtain ⟨y', hy', r⟩ := I.rel i x hx (hnp i)
      rw [hy] at hy'
      cases hy'
      exact r, I.defers⟩
  have readyAll : ∀ (L : Array Bool), L.size = ops.size → Region.ready .any ops L = [] → ∀ i, i < ops.size → L.getD i true = true := by
    intro L hL hr i
    induction i using Nat.strongRecOn with
    | _ i ih =>
      intro hi
      cases hv : L.getD i true with
      | true => rfl
      | false =>
        exfalso
        have hoi : ops[i]? = some ops[i] := by simp [hi]
        have : i ∈ Region.ready .any ops L := by
          rw [mem_ready]
          refine ⟨hv, _, hoi, fun e he hb => ?_⟩
          have hlt := hp.ahead i (by simpa using hi) e (by rw [getD_of hoi]; exact he) hb
          rw [← getD_false_true (by omega)]
          exact ih e.on hlt (by omega)
        rw [hr] at this
        simp at this
  have done0 : ∀ (L : Array Bool), cnt ops.size L = 0 → ∀ i, i < ops.size → L.getD i true = true := by
    intro L hc i hi
    unfold cnt at hc
    rw [List.countP_eq_zero] at hc
    have := hc i (List.mem_range.2 hi)
    simpa using this
  induction fuel with
  | zero =>
    intro k L T β w h a hc I
    have hall := done0 L (by omega)
    refine ⟨?_, fin k L T β w h a hall I⟩
    rw [List.eq_nil_iff_forall_not_mem]
    intro i hi
    rw [mem_ready] at hi
    obtain ⟨h1, o, ho, _⟩ := hi
    rw [hall i (Array.getElem?_eq_some_iff.1 ho).1] at h1
    cases h1
  | succ fuel ih =>
    intro k L T β w h a hc I
    refine ⟨fun hr => fin k L T β w h a (readyAll L I.size hr) I, fun i hi => ?_⟩
    rw [mem_ready] at hi
    obtain ⟨hL, o, ho, hpre0⟩ := hi
    have hin : i < ops.size := (Array.getElem?_eq_some_iff.1 ho).1
    have hpre : ∀ e ∈ (ops.toList.getD i default).after, Region.binds .any e = true → L.getD e.on false = true := by rw [getD_of ho]; exact hpre0
    have hcnt : cnt ops.size (L.setIfInBounds i true) ≤ fuel := by
      have : cnt ops.size (L.setIfInBounds i true) < cnt ops.size L := by
        refine countP_lt (i := i) ?_ (by simp [hL]) ?_ _ (List.mem_range.2 hin)
        · intro j hj
          rw [set_getD _ (by rw [I.size]; exact hin)] at hj
          split at hj
          · simp at hj
          · exact hj
        · rw [set_getD _ (by rw [I.size]; exact hin), if_pos rfl]; rfl
      omega
    have known := reads_known hp I.le I.size I.closed hin hpre
    rw [getD_of ho] at known
    have rm : RelL (ctx F β w h) (mask (Pend ops pl k L) T) a.tmps.toList := mask_rel I.len I.rel
    have hg : ∀ g, sGuard T (slim1 (ops.toList.map (·.dst)) o).g = some g → Region.wanted o (yielded ops a.tmps) = g := by
      intro g hg
      refine aGuard_rel rm ?_
      rw [sGuard_eq, ← hg]
      refine sGuard_congr fun t ht => mask_get _ _ _ (known t ?_)
      unfold reads
      exact List.mem_append_right _ ht
    have hev : ∀ x ∈ o.op.operands, aEval T x = aEval (mask (Pend ops pl k L) T) x := eval_known fun t ht => known t (List.mem_append_left _ ht)
    unfold wpOp
    simp only [ho]
    by_cases hie : i ∈ pl.eff
    · -- the next effect
      obtain ⟨j, hj, hji⟩ := eff_of hie
      have hjk : j = k := by
        have hjge : k ≤ j := by
          rcases Nat.lt_or_ge j k with q | q
          · have := (I.effs j hj).2 q
            rw [hji, ← getD_false_true (by rw [I.size]; exact hin), hL] at this
            cases this
          · exact q
        rcases Nat.lt_or_ge k j with q | q
        · exfalso
          obtain ⟨j', rfl⟩ : ∃ j', j = j' + 1 := ⟨j - 1, by omega⟩
          have hch := hp.chain j' hj
          rw [hji] at hch
          have := anc_done hp I.closed i hin hpre _ hch
          have := (I.effs j' (by omega)).1 this
          omega
        · omega
      subst hjk
      have hcont := I.cont
      have hdrop : pl.eff.drop j = i :: pl.eff.drop (j + 1) := by
        rw [List.drop_eq_getElem_cons hj, ← hji]
        congr 1
        rw [List.getD, List.getElem?_eq_getElem hj]
        rfl
      rw [hdrop] at hcont
      simp only [Cont, slim_get ho] at hcont
      split at hcont
      · rename_i hgt
        rw [hg true hgt]
        simp only [if_true]
        left
        have hs := sOp_congr (P := P) _ h hev hcont
        have ha : aOp P o (mask (Pend ops pl j L) T) h _ _ := sOp_aOp hs
        refine aOp_sound ha I.gets.st rm ?_ ?_
        · intro v v' w' β' h' hn hgo rv
          obtain ⟨T1, I1⟩ := stageS hp I ho hj hji hpre hn hgo rv
          exact ih _ _ _ _ _ _ _ hcnt I1
        · intro v v' w' β' h' hn hgo rv
          refine ⟨.pan v, β', _, h', hn, I.gets.trans (hgo.gets I.gets.len), ⟨v', rfl, rv⟩, ?_, I.defers⟩
          rw [I.len]
          exact relL_unk _
      · rename_i hgt
        rw [hg false hgt]
        simp only [Bool.false_eq_true, if_false]
        obtain ⟨T1, I1⟩ := stageS hp I ho hj hji hpre hcont (Goes.refl I.gets.st) (show Rel _ (.tup []) undef from ⟨#[], rfl, rfl⟩)
        exact ih _ _ _ _ _ _ _ hcnt I1
      · exact hcont.elim
    · -- one without an effect
      obtain ⟨k', hk', hi'⟩ := place_of hp hin hie
      have hkk : k' ≤ k := by
        rcases Nat.lt_or_ge k k' with q | q
        · exfalso
          obtain ⟨_, hanc, _⟩ := hp.ns k' hk' i hi'
          rcases hanc with q2 | q2
          · omega
          · have := anc_done hp I.closed i hin hpre _ q2
            have := (I.effs (k' - 1) (by omega)).1 this
            omega
        · exact q
      have hask := I.ask k' hkk i hi' hL
      unfold again1 at hask
      rw [slim_get ho] at hask
      simp only at hask
      split at hask
      · exact hask.elim
      · rename_i d hd
        have hd' : o.dst = some d := hd
        split at hask
        · exact hask.elim
        · rename_i x hx
          split at hask
          · rename_i hgt
            rw [hg true hgt]
            simp only [if_true]
            left
            have he : ev P (aEval (mask (Pend ops pl k L) T)) o.op h = some (x, h) := by
              rw [← ev_congr (P := P) o.op h hev]; exact hask
            obtain ⟨n, v', w', β', h1, h2, h3, h4⟩ := ev_sound (ρ' := a.eval) I.gets.st (aEval_rel rm) he
            unfold Oper.wp
            rw [h1]
            have := ih _ _ _ _ _ _ _ hcnt (late hp I ho hkk hi' hpre hd' hx h3 h4)
            rcases h2 with rfl | ⟨rfl, rfl⟩
            · exact this
            · exact this
          · rename_i hgt
            rw [hg false hgt]
            simp only [Bool.false_eq_true, if_false]
            exact ih _ _ _ _ _ _ _ hcnt (late hp I ho hkk hi' hpre hd' hx (Goes.refl I.gets.st) (by rw [hask]; exact ⟨#[], rfl, rfl⟩))
          · exact hask.elim

end

section
variable {P : Program} {n0 : Nat} {T : List AV} {h : Heap}
/-- A REGION THAT DRAWS ITS ORDER. -/
theorem aW_draw {id : Nat} {ops : Array Oper} {K : AExit → List AV → Heap → Prop} (hm : P.follows .mixedOrders = true) (pl : Plan) (hp : planOk ops.toList pl = true) (s : sDraw P (slim ops.toList) K pl.eff pl.ns pl.fs T h) : aW P n0 (.region id ops true) T h K := by
  intro F β w a D hn st r hd
  refine wp_region_any hm ?_
  let g0 := st.drew { w with drawn := w.drawn + 1 } rfl rfl rfl rfl
  obtain ⟨T1, I⟩ := stage0 (P := P) (K := K) (n0 := n0) (D := D) (F := F) (β0 := β) (w0 := w) (h0 := h) (planP hp) s (g0.gets hn) (RelL.le (g0.le st) _ _ r) hd
  refine draw_any (planP hp) ops.size 0 _ T1 β _ h a ?_ I
  unfold cnt
  exact Nat.le_trans List.countP_le_length (by simp)

/-- A region that draws its order, and what stands behind it. -/
theorem aW_dreg {id : Nat} {ops : Array Oper} {y : Code} {K : AExit → List AV → Heap → Prop} (hm : P.follows .mixedOrders = true) (pl : Plan) (hp : planOk ops.toList pl = true) (a : ∀ N : List AV → Heap → Prop, (∀ T' h', aW P n0 y T' h' K → N T' h') → sDraw P (slim ops.toList) (Nx N K) pl.eff pl.ns pl.fs T h) : aW P n0 (.seq (.region id ops true) y) T h K :=
  aW_seq_k fun N hN => aW_draw hm pl hp (a N hN)
theorem aW_dreg1 {id : Nat} {ops : Array Oper} {K : AExit → List AV → Heap → Prop} (hm : P.follows .mixedOrders = true) (pl : Plan) (hp : planOk ops.toList pl = true) (a : ∀ N : List AV → Heap → Prop, (∀ T' h', K .normal T' h' → N T' h') → sDraw P (slim ops.toList) (Nx N K) pl.eff pl.ns pl.fs T h) : aW P n0 (.region id ops true) T h K := by
  refine aW_mono (aW_draw hm pl hp (a (fun T' h' => K .normal T' h') fun _ _ q => q)) ?_
  intro e T h _ q
  cases e <;> exact q
end
attribute [go_sem] sDraw nsRun again again1
attribute [go_sem ↓] sDraw nsRun
end Go.AH
