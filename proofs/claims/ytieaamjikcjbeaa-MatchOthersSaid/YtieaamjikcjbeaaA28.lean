/- The stages of a tree of orders. No condition. -/
import Derived.Test.YtieaamjikcjbeaaA27
namespace Go.AH
set_option linter.unusedSimpArgs false
open Go
set_option linter.unusedVariables false
section
variable {P : Program} {ops : Array Oper} {anc : List (List Nat)} {E : List Nat}

theorem anc_done' (hp : TreeP ops.toList anc E) {L : Array Bool} (hc : Closed ops L) : ∀ (i : Nat), i < ops.size → (∀ e ∈ (ops.toList.getD i default).after, Region.binds .any e = true → L.getD e.on false = true) → ∀ j ∈ anc.getD i [], L.getD j false = true := by
  intro i
  induction i using Nat.strongRecOn with
  | _ i ih =>
    intro hi hpre j hj
    have h1 := hp.ancs
    unfold ancOk at h1
    have h2 := List.all_eq_true.1 (all_range h1 (i := i) (by simpa using hi)) j hj
    rw [List.any_eq_true] at h2
    obtain ⟨e, he, h3⟩ := h2
    simp only [Bool.and_eq_true, decide_eq_true_eq, Bool.or_eq_true, beq_iff_eq, List.contains_iff_mem] at h3
    obtain ⟨⟨hb, hlt⟩, h4⟩ := h3
    have hon := hpre e (by simpa using he) hb
    rcases h4 with rfl | h4
    · exact hon
    · exact ih e.on hlt (by omega) (hc e.on (by omega) hon) j h4

/-- Which slots aren't written yet, of operations that the walk has done. -/
def PendT (ops : Array Oper) (pns : List Nat) (L : Array Bool) (t : Nat) : Prop := ∃ i, i ∈ pns ∧ L.getD i true = false ∧ (ops.toList.getD i default).dst = some t

structure TInv (P : Program) (ops : Array Oper) (anc : List (List Nat)) (E : List Nat) (K : AExit → List AV → Heap → Prop) (n0 : Nat) (D : List Deferred) (F : Nat → Prop) (β0 : Nat → Nat) (w0 : World) (h0 : Heap)
    (pe pns : List Nat) (t : DT) (L : Array Bool) (T : List AV) (β : Nat → Nat) (w : World) (h : Heap) (a : Act) : Prop where
  size : L.size = ops.size
  closed : Closed ops L
  effs : ∀ j ∈ E, (L.getD j false = true ↔ j ∈ pe)
  peE : ∀ j ∈ pe, j ∈ E
  nsok : ∀ i ∈ pns ++ t.ns, i < ops.size ∧ i ∉ E
  ask : ∀ i ∈ pns ++ t.ns, L.getD i true = false → again1 P (slim ops.toList) T h i
  rel : ∀ (s : Nat) (x : AV), T[s]? = some x → ¬ PendT ops (pns ++ t.ns) L s → ∃ y, a.tmps.toList[s]? = some y ∧ Rel (ctx F β w h) x y
  len : T.length = a.tmps.toList.length
  gets : Gets n0 F β0 w0 h0 β w h
  defers : a.defers = D
  ok : NodeP ops.toList anc E pe pns t
  cont : t.cont P (slim ops.toList) K T h

variable {K : AExit → List AV → Heap → Prop} {n0 : Nat} {D : List Deferred} {F : Nat → Prop} {β0 : Nat → Nat} {w0 : World} {h0 : Heap}

theorem tstage0 (hp : TreeP ops.toList anc E) {t : DT} (hok : t.ok ops.toList anc E [] [] = true) {T : List AV} {β : Nat → Nat} {w : World} {h : Heap} {a : Act} (s : t.run P (slim ops.toList) K T h) (g : Gets n0 F β0 w0 h0 β w h) (r : RelL (ctx F β w h) T a.tmps.toList) (hd : a.defers = D) :
    ∃ T1, TInv P ops anc E K n0 D F β0 w0 h0 [] [] t (Array.replicate ops.size false) T1 β w h a := by
  obtain ⟨T1, hrun, hag, hc⟩ := DT.run_cont s
  have hn := nodeP hok
  have hrep : ∀ i d, (Array.replicate ops.size false).getD i d = if i < ops.size then false else d := by
    intro i d
    by_cases hi : i < ops.size <;> simp [Array.getD, hi]
  refine ⟨T1, by simp, fun i hi hl => ?_, fun j hj => ?_, by simp, fun i hi => ?_, fun i hi hl => ?_, fun t x hx hpd => ?_, ?_, g, hd, hn, hc⟩
  · rw [hrep, if_pos hi] at hl; cases hl
  · have := hp.eff _ hj
    rw [hrep, if_pos (by simpa using this)]
    simp
  · have := hn.ns i (by simpa using hi)
    exact ⟨by simpa using this.1, this.2.2.2.2⟩
  · rcases hn.asked i hi with q | ⟨j, hj, _⟩
    · exact again_mem hag i q
    · simp at hj
  · have hT : T1[t]? = T[t]? := by
      refine nsRun_other hrun fun i hi o ho e => hpd ?_
      have hin := (hn.ns i hi).1
      rw [Array.length_toList] at hin
      refine ⟨i, by simpa using hi, by rw [hrep, if_pos hin], ?_⟩
      have hoi : ops[i]? = some ops[i] := by simp [hin]
      have := slim_get hoi
      rw [this] at ho
      simp only [Option.some.injEq] at ho
      rw [getD_of hoi, ← e, ← ho]
      rfl
    rw [hT] at hx
    exact r.get hx
  · rw [nsRun_length hrun]; exact r.length

theorem tstageS (hp : TreeP ops.toList anc E) {pe pns : List Nat} {t t' : DT} {i : Nat} {L : Array Bool} {T : List AV} {β β' : Nat → Nat} {w w' : World} {h h' : Heap} {a : Act} (I : TInv P ops anc E K n0 D F β0 w0 h0 pe pns t L T β w h a) {o : Oper} (ho : ops[i]? = some o)
    (hk : (i, t') ∈ t.kids) (hpre : ∀ e ∈ (ops.toList.getD i default).after, Region.binds .any e = true → L.getD e.on false = true)
    {v : AV} {v' : Value} (s : t'.run P (slim ops.toList) K (aPut T o.dst v) h') (g : Goes F β w h β' w' h') (rv : Rel (ctx F β' w' h') v v') :
    ∃ T1, TInv P ops anc E K n0 D F β0 w0 h0 (pe ++ [i]) (pns ++ t.ns) t' (L.setIfInBounds i true) T1 β' w' h' (a.put o.dst v') := by
  obtain ⟨T1, hrun, hag, hc⟩ := DT.run_cont s
  obtain ⟨hiE, hipe, hok⟩ := I.ok.kid i t' hk
  have hn := nodeP hok
  have hin : i < ops.size := (Array.getElem?_eq_some_iff.1 ho).1
  have hLi : L.getD i false = false := by
    cases hv : L.getD i false with
    | false => rfl
    | true => exact absurd ((I.effs i hiE).1 hv) hipe
  have hset : ∀ j d, (L.setIfInBounds i true).getD j d = if j = i then true else L.getD j d := fun j d => set_getD d (by rw [I.size]; exact hin)
  have hcl := closed_set I.size I.closed hin hpre
  have le := g.le I.gets.st
  have nsin : ∀ j ∈ t'.ns, j < ops.size ∧ j ∉ E ∧ i ∈ anc.getD j [] := by
    intro j hj
    obtain ⟨h1, h2, _, _, h5⟩ := hn.ns j hj
    exact ⟨by simpa using h1, h5, h2 i (by simp)⟩
  have fresh : ∀ j ∈ t'.ns, (L.setIfInBounds i true).getD j true = false := by
    intro j hj
    obtain ⟨hjn, hjE, hanc⟩ := nsin j hj
    rw [hset, if_neg (show ¬ j = i from fun e => hjE (by rw [e]; exact hiE))]
    rw [getD_false_true (by rw [I.size]; exact hjn)]
    cases hv : L.getD j false with
    | false => rfl
    | true =>
      have := anc_done' hp I.closed j hjn (I.closed j hjn hv) _ hanc
      rw [hLi] at this
      cases this
  refine ⟨T1, by simpa using I.size, hcl, fun j hj => ?_, fun j hj => ?_, fun j hj => ?_, fun j hj hl => ?_, fun s x hx hpd => ?_, ?_, I.gets.trans (g.gets I.gets.len), by rw [Act.put_defers']; exact I.defers, hn, hc⟩
  · rw [hset, List.mem_append, List.mem_singleton]
    by_cases e : j = i
    · rw [if_pos e]; simp [e]
    · rw [if_neg e, I.effs j hj]; simp [e]
  · rw [List.mem_append, List.mem_singleton] at hj
    rcases hj with q | rfl
    · exact I.peE j q
    · exact hiE
  · rw [List.mem_append] at hj
    rcases hj with q | q
    · exact I.nsok j q
    · exact ⟨(nsin j q).1, (nsin j q).2.1⟩
  · rcases hn.asked j hj with q | ⟨j2, hj2, q⟩
    · exact again_mem hag j q
    · exfalso
      have hj2E : j2 ∈ E := by
        rw [List.mem_append, List.mem_singleton] at hj2
        rcases hj2 with q | rfl
        · exact I.peE j2 q
        · exact hiE
      have hj2n := hp.eff _ hj2E
      rw [Array.length_toList] at hj2n
      have hdone : (L.setIfInBounds i true).getD j2 false = true := by
        rw [hset]
        split
        · rfl
        · rename_i e
          refine (I.effs j2 hj2E).2 ?_
          rw [List.mem_append, List.mem_singleton] at hj2
          exact hj2.resolve_right e
      have := anc_done' hp hcl _ hj2n (hcl _ hj2n hdone) j q
      have hjn : j < ops.size := by
        rw [List.mem_append] at hj
        rcases hj with q | q
        · exact (I.nsok j q).1
        · exact (nsin j q).1
      rw [getD_false_true (by simpa using (show j < L.size by rw [I.size]; exact hjn))] at hl
      rw [hl] at this
      cases this
  · have hT : T1[s]? = (aPut T o.dst v)[s]? := by
      refine nsRun_other hrun fun j hj o' ho' e => hpd ?_
      obtain ⟨hjn, _⟩ := nsin j hj
      refine ⟨j, List.mem_append_right _ hj, fresh j hj, ?_⟩
      have hoj : ops[j]? = some ops[j] := by simp [hjn]
      have := slim_get hoj
      rw [this] at ho'
      simp only [Option.some.injEq] at ho'
      rw [getD_of hoj, ← e, ← ho']
      rfl
    rw [hT, aPut_get] at hx
    rw [put_get, ← I.len]
    split at hx
    · rename_i hc2
      rw [if_pos hc2]
      simp only [Option.some.injEq] at hx
      subst hx
      exact ⟨v', rfl, rv⟩
    · rename_i hc2
      rw [if_neg hc2]
      have hpd' : ¬ PendT ops (pns ++ t.ns) L s := by
        rintro ⟨j, hj, hjl, hjd⟩
        refine hpd ⟨j, List.mem_append_left _ hj, ?_, hjd⟩
        rw [hset, if_neg (show ¬ j = i from fun e => (I.nsok j hj).2 (by rw [e]; exact hiE))]
        exact hjl
      obtain ⟨y, hy, ry⟩ := I.rel s x hx hpd'
      exact ⟨y, hy, Rel.le le _ _ ry⟩
  · rw [nsRun_length hrun, aPut_length, put_length]; exact I.len
end
end Go.AH
