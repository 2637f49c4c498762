/- A drawn region is sound by a tree of orders. No condition. -/
import Derived.Test.YtieaamjikcjbeaaA28
namespace Go.AH
set_option linter.unusedSimpArgs false
open Go
set_option linter.unusedVariables false
section
variable {P : Program} {ops : Array Oper} {anc : List (List Nat)} {E : List Nat}
variable {K : AExit → List AV → Heap → Prop} {n0 : Nat} {D : List Deferred} {F : Nat → Prop} {β0 : Nat → Nat} {w0 : World} {h0 : Heap}

theorem treads_known (hp : TreeP ops.toList anc E) {pns : List Nat} {L : Array Bool} (hns : ∀ i ∈ pns, i < ops.size ∧ i ∉ E) (hL : L.size = ops.size) (hc : Closed ops L) {i : Nat} (hi : i < ops.size)
    (hpre : ∀ e ∈ (ops.toList.getD i default).after, Region.binds .any e = true → L.getD e.on false = true) : ∀ t ∈ reads ops.toList (ops.toList.getD i default), ¬ PendT ops pns L t := by
  rintro t ht ⟨j, hj, hjl, hjd⟩
  obtain ⟨hjn, hjE⟩ := hns j hj
  rcases hp.reads i (by simpa using hi) t ht j (by simpa using hjn) with q | q | q
  · exact hjE q
  · exact q hjd
  · have := anc_done' hp hc i hi hpre j q
    rw [getD_false_true (by omega)] at hjl
    rw [hjl] at this
    cases this

theorem tlate {pe pns : List Nat} {t : DT} {i : Nat} {L : Array Bool} {T : List AV} {β : Nat → Nat} {w w' : World} {h : Heap} {a : Act} (I : TInv P ops anc E K n0 D F β0 w0 h0 pe pns t L T β w h a) {o : Oper} (ho : ops[i]? = some o)
    (hi : i ∈ pns ++ t.ns) (hpre : ∀ e ∈ (ops.toList.getD i default).after, Region.binds .any e = true → L.getD e.on false = true)
    {d : Tmp} (hd : o.dst = some d) {x : AV} (hx : T[d]? = some x) {v' : Value} {β' : Nat → Nat} (g : Goes F β w h β' w' h) (rv : Rel (ctx F β' w' h) x v') :
    TInv P ops anc E K n0 D F β0 w0 h0 pe pns t (L.setIfInBounds i true) T β' w' h (a.put o.dst v') := by
  have hin : i < ops.size := (Array.getElem?_eq_some_iff.1 ho).1
  have hset : ∀ j d, (L.setIfInBounds i true).getD j d = if j = i then true else L.getD j d := fun j d => set_getD d (by rw [I.size]; exact hin)
  have hne : i ∉ E := (I.nsok i hi).2
  have le := g.le I.gets.st
  refine ⟨by simpa using I.size, closed_set I.size I.closed hin hpre, fun j hj => ?_, I.peE, I.nsok, fun j hj hl => ?_, fun s y hy hpd => ?_, by rw [put_length]; exact I.len, I.gets.trans (g.gets I.gets.len), by rw [Act.put_defers']; exact I.defers, I.ok, I.cont⟩
  · rw [hset, if_neg (show ¬ j = i from fun e => hne (by rw [← e]; exact hj))]
    exact I.effs j hj
  · rw [hset] at hl
    split at hl
    · cases hl
    · exact I.ask j hj hl
  · rw [put_get, ← I.len]
    by_cases e : d = s
    · subst e
      rw [if_pos ⟨hd, (List.getElem?_eq_some_iff.1 hx).1⟩]
      rw [hx] at hy
      cases hy
      exact ⟨v', rfl, rv⟩
    · rw [if_neg (by rw [hd]; simp [e])]
      have hpd' : ¬ PendT ops (pns ++ t.ns) L s := by
        rintro ⟨j, hj, hjl, hjd⟩
        refine hpd ⟨j, hj, ?_, hjd⟩
        rw [hset]
        split
        · rename_i e2
          subst e2
          rw [getD_of ho, hd] at hjd
          simp only [Option.some.injEq] at hjd
          exact absurd hjd e
        · exact hjl
      obtain ⟨z, hz, rz⟩ := I.rel s y hy hpd'
      exact ⟨z, hz, Rel.le le _ _ rz⟩

/-- Each operation that is no effect has its place, here or behind. -/
theorem tplace {ops : List Oper} {anc : List (List Nat)} {E : List Nat} : ∀ (t : DT) (pe pns : List Nat), t.ok ops anc E pe pns = true → ∀ i, i < ops.length → i ∉ E → i ∈ pns ++ t.ns ∨ ∃ e ∈ E, e ∉ pe ∧ e ∈ anc.getD i [] := by
  intro t
  induction t with
  | fin ns fs =>
    intro pe pns h i hi hE
    exact .inl (((nodeP h).last rfl).2 i hi |>.resolve_left hE)
  | one ns fs e t ih =>
    intro pe pns h i hi hE
    have hn := nodeP h
    obtain ⟨h1, h2, h3⟩ := hn.kid e t (by simp [DT.kids])
    have hk := nodeP h3
    rcases ih _ _ h3 i hi hE with q | ⟨e', q1, q2, q3⟩
    · rw [List.mem_append] at q
      rcases q with q | q
      · exact .inl q
      · exact .inr ⟨e, h1, h2, (hk.ns i q).2.1 e (by simp)⟩
    · exact .inr ⟨e', q1, fun q => q2 (List.mem_append_left _ q), q3⟩
  | two ns fs e t e2 t2 ih ih2 =>
    intro pe pns h i hi hE
    have hn := nodeP h
    obtain ⟨h1, h2, h3⟩ := hn.kid e t (by simp [DT.kids])
    have hk := nodeP h3
    rcases ih _ _ h3 i hi hE with q | ⟨e', q1, q2, q3⟩
    · rw [List.mem_append] at q
      rcases q with q | q
      · exact .inl q
      · exact .inr ⟨e, h1, h2, (hk.ns i q).2.1 e (by simp)⟩
    · exact .inr ⟨e', q1, fun q => q2 (List.mem_append_left _ q), q3⟩

theorem tdraw_any (hp : TreeP ops.toList anc E) : ∀ (fuel : Nat) (pe pns : List Nat) (t : DT) (L : Array Bool) (T : List AV) (β : Nat → Nat) (w : World) (h : Heap) (a : Act), t.ok ops.toList anc E pe pns = true → cnt ops.size L ≤ fuel → TInv P ops anc E K n0 D F β0 w0 h0 pe pns t L T β w h a →
    wpAny P .any ops (Post n0 F β0 w0 h0 D K) fuel L a w := by
  intro fuel
  have fin : ∀ (pe pns : List Nat) (t : DT) (L : Array Bool) (T : List AV) (β : Nat → Nat) (w : World) (h : Heap) (a : Act), (∀ i, i < ops.size → L.getD i true = true) → TInv P ops anc E K n0 D F β0 w0 h0 pe pns t L T β w h a → Post n0 F β0 w0 h0 D K .normal a w := by
    intro pe pns t L T β w h a hall I
    have hk : t.kids = [] := by
      cases hkk : t.kids with
      | nil => rfl
      | cons x r =>
        exfalso
        obtain ⟨e, t'⟩ := x
        obtain ⟨h1, h2, _⟩ := I.ok.kid e t' (by rw [hkk]; simp)
        have hn := hp.eff _ h1
        rw [Array.length_toList] at hn
        have h3 := hall _ hn
        rw [getD_false_true (by rw [I.size]; exact hn)] at h3
        exact h2 ((I.effs e h1).1 h3)
    have hnp : ∀ s, ¬ PendT ops (pns ++ t.ns) L s := by
      rintro s ⟨j, hj, hjl, _⟩
      rw [hall j (I.nsok j hj).1] at hjl
      cases hjl
    exact ⟨.normal, β, T, h, I.cont.1 hk, I.gets, rfl, relL_of_get I.len fun i x y hx hy => by
      obtain ⟨y', hy', r⟩ := I.rel i x hx (hnp i)
      rw [hy] at hy'
      cases hy'
      exact r, I.defers⟩
  have readyAll : ∀ (L : Array Bool), L.size = ops.size → Region.ready .any ops L = [] → ∀ i, i < ops.size → L.getD i true = true := by
    intro L hL hr i
    induction i using Nat.strongRecOn with
    | _ i ih =>
      intro hi
      cases hv : L.getD i true with
      | true => rfl
      | false =>
        exfalso
        have hoi : ops[i]? = some ops[i] := by simp [hi]
        have : i ∈ Region.ready .any ops L := by
          rw [mem_ready]
          refine ⟨hv, _, hoi, fun e he hb => ?_⟩
          have hlt := hp.ahead i (by simpa using hi) e (by rw [getD_of hoi]; exact he) hb
          rw [← getD_false_true (by omega)]
          exact ih e.on hlt (by omega)
        rw [hr] at this
        simp at this
  have done0 : ∀ (L : Array Bool), cnt ops.size L = 0 → ∀ i, i < ops.size → L.getD i true = true := by
    intro L hc i hi
    unfold cnt at hc
    rw [List.countP_eq_zero] at hc
    have := hc i (List.mem_range.2 hi)
    simpa using this
  induction fuel with
  | zero =>
    intro pe pns t L T β w h a hok hc I
    have hall := done0 L (by omega)
    refine ⟨?_, fin pe pns t L T β w h a hall I⟩
    rw [List.eq_nil_iff_forall_not_mem]
    intro i hi
    rw [mem_ready] at hi
    obtain ⟨h1, o, ho, _⟩ := hi
    rw [hall i (Array.getElem?_eq_some_iff.1 ho).1] at h1
    cases h1
  | succ fuel ih =>
    intro pe pns t L T β w h a hok hc I
    refine ⟨fun hr => fin pe pns t L T β w h a (readyAll L I.size hr) I, fun i hi => ?_⟩
    rw [mem_ready] at hi
    obtain ⟨hL, o, ho, hpre0⟩ := hi
    have hin : i < ops.size := (Array.getElem?_eq_some_iff.1 ho).1
    have hpre : ∀ e ∈ (ops.toList.getD i default).after, Region.binds .any e = true → L.getD e.on false = true := by rw [getD_of ho]; exact hpre0
    have hcnt : cnt ops.size (L.setIfInBounds i true) ≤ fuel := by
      have : cnt ops.size (L.setIfInBounds i true) < cnt ops.size L := by
        refine countP_lt (i := i) ?_ (by simp [hL]) ?_ _ (List.mem_range.2 hin)
        · intro j hj
          rw [set_getD _ (by rw [I.size]; exact hin)] at hj
          split at hj
          · simp at hj
          · exact hj
        · rw [set_getD _ (by rw [I.size]; exact hin), if_pos rfl]; rfl
      omega
    have known := treads_known hp I.nsok I.size I.closed hin hpre
    rw [getD_of ho] at known
    have rm : RelL (ctx F β w h) (mask (PendT ops (pns ++ t.ns) L) T) a.tmps.toList := mask_rel I.len I.rel
    have hg : ∀ g, sGuard T (slim1 (ops.toList.map (·.dst)) o).g = some g → Region.wanted o (yielded ops a.tmps) = g := by
      intro g hg
      refine aGuard_rel rm ?_
      rw [sGuard_eq, ← hg]
      refine sGuard_congr fun s hs => mask_get _ _ _ (known s ?_)
      unfold reads
      exact List.mem_append_right _ hs
    have hev : ∀ x ∈ o.op.operands, aEval T x = aEval (mask (PendT ops (pns ++ t.ns) L) T) x := eval_known fun s hs => known s (List.mem_append_left _ hs)
    have hLf : L.getD i false = false := by rw [← getD_false_true (by rw [I.size]; exact hin)]; exact hL
    unfold wpOp
    simp only [ho]
    by_cases hie : i ∈ E
    · -- one of the next effects
      have hkid : ∃ t', (i, t') ∈ t.kids := by
        rcases I.ok.cover i hie with q | q | ⟨j, q1, q2, q3⟩
        · have := (I.effs i hie).2 q
          rw [hLf] at this; cases this
        · exact q
        · exfalso
          have := anc_done' hp I.closed i hin hpre j q3
          exact q2 ((I.effs j q1).1 this)
      obtain ⟨t', hk⟩ := hkid
      have hok' := (I.ok.kid i t' hk).2.2
      have hcont := I.cont.2 i t' hk
      unfold kidRun at hcont
      simp only [slim_get ho, kidOp] at hcont
      split at hcont
      · rename_i hgt
        rw [hg true hgt]
        simp only [if_true]
        left
        have hs := sOp_congr (P := P) _ h hev hcont
        have ha : aOp P o (mask (PendT ops (pns ++ t.ns) L) T) h _ _ := sOp_aOp hs
        refine aOp_sound ha I.gets.st rm ?_ ?_
        · intro v v' w' β' h' hn hgo rv
          obtain ⟨T1, I1⟩ := tstageS hp I ho hk hpre hn hgo rv
          exact ih _ _ _ _ _ _ _ _ _ hok' hcnt I1
        · intro v v' w' β' h' hn hgo rv
          refine ⟨.pan v, β', _, h', hn, I.gets.trans (hgo.gets I.gets.len), ⟨v', rfl, rv⟩, ?_, I.defers⟩
          rw [I.len]
          exact relL_unk _
      · rename_i hgt
        rw [hg false hgt]
        simp only [Bool.false_eq_true, if_false]
        obtain ⟨T1, I1⟩ := tstageS hp I ho hk hpre hcont (Goes.refl I.gets.st) (show Rel _ (.tup []) undef from ⟨#[], rfl, rfl⟩)
        exact ih _ _ _ _ _ _ _ _ _ hok' hcnt I1
      · exact hcont.elim
    · -- one without an effect
      have hi' : i ∈ pns ++ t.ns := by
        rcases tplace t pe pns hok i (by simpa using hin) hie with q | ⟨e, q1, q2, q3⟩
        · exact q
        · exfalso
          have := anc_done' hp I.closed i hin hpre e q3
          exact q2 ((I.effs e q1).1 this)
      have hask := I.ask i hi' hL
      unfold again1 at hask
      rw [slim_get ho] at hask
      simp only at hask
      split at hask
      · exact hask.elim
      · rename_i d hd
        have hd' : o.dst = some d := hd
        split at hask
        · exact hask.elim
        · rename_i x hx
          split at hask
          · rename_i hgt
            rw [hg true hgt]
            simp only [if_true]
            left
            have he : ev P (aEval (mask (PendT ops (pns ++ t.ns) L) T)) o.op h = some (x, h) := by
              rw [← ev_congr (P := P) o.op h hev]; exact hask
            obtain ⟨n, v', w', β', h1, h2, h3, h4⟩ := ev_sound (ρ' := a.eval) I.gets.st (aEval_rel rm) he
            unfold Oper.wp
            rw [h1]
            have := ih _ _ _ _ _ _ _ _ _ hok hcnt (tlate I ho hi' hpre hd' hx h3 h4)
            rcases h2 with rfl | ⟨rfl, rfl⟩
            · exact this
            · exact this
          · rename_i hgt
            rw [hg false hgt]
            simp only [Bool.false_eq_true, if_false]
            exact ih _ _ _ _ _ _ _ _ _ hok hcnt (tlate I ho hi' hpre hd' hx (Goes.refl I.gets.st) (by rw [hask]; exact ⟨#[], rfl, rfl⟩))
          · exact hask.elim
end

section
variable {P : Program} {n0 : Nat} {T : List AV} {h : Heap}
/-- A REGION THAT DRAWS ITS ORDER, by a tree of orders. -/
theorem aW_tdraw {id : Nat} {ops : Array Oper} {K : AExit → List AV → Heap → Prop} (hm : P.follows .mixedOrders = true) (t : DT) (anc : List (List Nat)) (E : List Nat) (hp : treeOk ops.toList anc E t = true) (s : t.run P (slim ops.toList) K T h) : aW P n0 (.region id ops true) T h K := by
  intro F β w a D hn st r hd
  refine wp_region_any hm ?_
  let g0 := st.drew { w with drawn := w.drawn + 1 } rfl rfl rfl rfl
  obtain ⟨hp1, hok⟩ := treeP hp
  obtain ⟨T1, I⟩ := tstage0 (P := P) (K := K) (n0 := n0) (D := D) (F := F) (β0 := β) (w0 := w) (h0 := h) hp1 hok s (g0.gets hn) (RelL.le (g0.le st) _ _ r) hd
  refine tdraw_any hp1 ops.size [] [] t _ T1 β _ h a hok ?_ I
  unfold cnt
  exact Nat.le_trans List.countP_le_length (by simp)
theorem aW_tdreg {id : Nat} {ops : Array Oper} {y : Code} {K : AExit → List AV → Heap → Prop} (hm : P.follows .mixedOrders = true) (t : DT) (anc : List (List Nat)) (E : List Nat) (hp : treeOk ops.toList anc E t = true) (a : ∀ N : List AV → Heap → Prop, (∀ T' h', aW P n0 y T' h' K → N T' h') → t.run P (slim ops.toList) (Nx N K) T h) : aW P n0 (.seq (.region id ops true) y) T h K :=
  aW_seq_k fun N hN => aW_tdraw hm t anc E hp (a N hN)
theorem aW_tdreg1 {id : Nat} {ops : Array Oper} {K : AExit → List AV → Heap → Prop} (hm : P.follows .mixedOrders = true) (t : DT) (anc : List (List Nat)) (E : List Nat) (hp : treeOk ops.toList anc E t = true) (a : ∀ N : List AV → Heap → Prop, (∀ T' h', K .normal T' h' → N T' h') → t.run P (slim ops.toList) (Nx N K) T h) : aW P n0 (.region id ops true) T h K := by
  refine aW_mono (aW_tdraw hm t anc E hp (a (fun T' h' => K .normal T' h') fun _ _ q => q)) ?_
  intro e T h _ q
  cases e <;> exact q
end
attribute [go_sem] DT.run kidRun
attribute [go_sem ↓] DT.run kidRun
end Go.AH
