/- Regions that draw their order: what a plan gives. No condition. -/
import Derived.Test.YtieaamjikcjbeaaA19
namespace Go.AH
set_option linter.unusedSimpArgs false
set_option linter.unusedVariables false
open Go

theorem all_range {n : Nat} {p : Nat → Bool} (h : (List.range n).all p = true) {i : Nat} (hi : i < n) : p i = true := List.all_eq_true.1 h i (List.mem_range.2 hi)

structure PlanP (ops : List Oper) (pl : Plan) : Prop where
  anc : ancOk ops pl = true
  place : ∀ i, i < ops.length → i ∈ pl.eff ∨ ∃ (k : Nat) (l : List Nat), pl.ns[k]? = some l ∧ i ∈ l
  eff : ∀ i ∈ pl.eff, i < ops.length ∧ ∀ (k : Nat) (l : List Nat), pl.ns[k]? = some l → i ∉ l
  ahead : ∀ i, i < ops.length → ∀ e ∈ (ops.getD i default).after, Region.binds .any e = true → e.on < i
  nodup : pl.eff.Nodup
  chain : ∀ k, k + 1 < pl.eff.length → pl.eff.getD k 0 ∈ pl.anc.getD (pl.eff.getD (k + 1) 0) []
  nsl : pl.ns.length = pl.eff.length + 1
  fsl : pl.fs.length = pl.eff.length + 1
  ns : ∀ k, k ≤ pl.eff.length → ∀ i ∈ pl.ns.getD k [], i < ops.length ∧ (k = 0 ∨ pl.eff.getD (k - 1) 0 ∈ pl.anc.getD i []) ∧ notCall (ops.getD i default).op = true ∧ (ops.getD i default).dst.isSome = true
  reads : ∀ i, i < ops.length → ∀ t ∈ reads ops (ops.getD i default), ∀ j, j < ops.length → j ∈ pl.eff ∨ (ops.getD j default).dst ≠ some t ∨ j ∈ pl.anc.getD i []
  once : ∀ i, i < ops.length → i ∉ pl.eff → ∀ j, j < ops.length → i = j ∨ (ops.getD i default).dst ≠ (ops.getD j default).dst
  asked : ∀ k, k ≤ pl.eff.length → ∀ k', k' ≤ k → ∀ i ∈ pl.ns.getD k' [], i ∈ pl.fs.getD k [] ∨ ∃ j, j < k ∧ i ∈ pl.anc.getD (pl.eff.getD j 0) []

theorem planP {ops : List Oper} {pl : Plan} (h : planOk ops pl = true) : PlanP ops pl := by
  unfold planOk at h
  simp only [Bool.and_eq_true] at h
  obtain ⟨⟨⟨⟨⟨⟨⟨⟨⟨⟨⟨h1, h2⟩, h3⟩, h4⟩, h5⟩, h6⟩, h7⟩, h8⟩, h9⟩, h10⟩, h11⟩, h12⟩ := h
  refine ⟨h1, fun i hi => ?_, fun i hi => ?_, fun i hi e he hb => ?_, by simpa using h5, fun k hk => ?_, by simpa using h7, by simpa using h8, fun k hk i hi => ?_, fun i hi t ht j hj => ?_, fun i hi hne j hj => ?_, fun k hk k' hk' i hi => ?_⟩
  · have := all_range h2 hi
    simp only [Bool.or_eq_true, List.contains_iff_mem, List.any_eq_true] at this
    rcases this with q | ⟨l, hl, q⟩
    · exact .inl q
    · obtain ⟨k, hk⟩ := List.getElem?_of_mem hl
      exact .inr ⟨k, l, hk, by simpa using q⟩
  · have := List.all_eq_true.1 h3 i hi
    simp only [Bool.and_eq_true, decide_eq_true_eq, List.all_eq_true] at this
    refine ⟨this.1, fun k l hl q => ?_⟩
    have := this.2 l (List.mem_of_getElem? hl)
    simp at this
    exact this q
  · have := List.all_eq_true.1 (all_range h4 hi) e (by simpa using he)
    simpa [hb] using this
  · have := all_range h6 (i := k) (by omega)
    simpa using this
  · have := List.all_eq_true.1 (all_range h9 (i := k) (by omega)) i hi
    simp only [Bool.and_eq_true, decide_eq_true_eq, Bool.or_eq_true, beq_iff_eq, List.contains_iff_mem] at this
    exact ⟨this.1.1.1, this.1.1.2, this.1.2, this.2⟩
  · have := all_range (List.all_eq_true.1 (all_range h10 hi) t ht) hj
    simp only [Bool.or_eq_true, List.contains_iff_mem, bne_iff_ne] at this
    rcases this with (q | q) | q
    · exact .inl q
    · exact .inr (.inl q)
    · exact .inr (.inr q)
  · have := all_range h11 hi
    simp only [Bool.or_eq_true, List.contains_iff_mem] at this
    have := all_range (this.resolve_left hne) hj
    simpa using this
  · have := List.all_eq_true.1 (all_range (all_range h12 (i := k) (by omega)) (i := k') (by omega)) i hi
    simp only [Bool.or_eq_true, List.contains_iff_mem, List.any_eq_true, List.mem_range] at this
    exact this

section
variable {P : Program} {ops : Array Oper} {pl : Plan}

/-- What is done waits for what it waits for. -/
def Closed (ops : Array Oper) (L : Array Bool) : Prop := ∀ i, i < ops.size → L.getD i false = true → ∀ e ∈ (ops.toList.getD i default).after, Region.binds .any e = true → L.getD e.on false = true

theorem anc_done (hp : PlanP ops.toList pl) {L : Array Bool} (hc : Closed ops L) : ∀ (i : Nat), i < ops.size → (∀ e ∈ (ops.toList.getD i default).after, Region.binds .any e = true → L.getD e.on false = true) → ∀ j ∈ pl.anc.getD i [], L.getD j false = true := by
  intro i
  induction i using Nat.strongRecOn with
  | _ i ih =>
    intro hi hpre j hj
    have h1 := hp.anc
    unfold ancOk at h1
    have h2 := List.all_eq_true.1 (all_range h1 (i := i) (by simpa using hi)) j hj
    rw [List.any_eq_true] at h2
    obtain ⟨e, he, h3⟩ := h2
    simp only [Bool.and_eq_true, decide_eq_true_eq, Bool.or_eq_true, beq_iff_eq, List.contains_iff_mem] at h3
    obtain ⟨⟨hb, hlt⟩, h4⟩ := h3
    have hon := hpre e (by simpa using he) hb
    rcases h4 with rfl | h4
    · exact hon
    · exact ih e.on hlt (by omega) (hc e.on (by omega) hon) j h4

theorem slim_get {i : Nat} {o : Oper} (ho : ops[i]? = some o) : (slim ops.toList)[i]? = some (slim1 (ops.toList.map (·.dst)) o) := by
  unfold slim
  rw [List.getElem?_map, Array.getElem?_toList, ho]
  rfl

theorem getD_of {i : Nat} {o : Oper} (ho : ops[i]? = some o) : ops.toList.getD i default = o := by
  rw [List.getD, Array.getElem?_toList, ho]
  rfl

theorem sGuard_congr {T T' : List AV} {o : Oper} (h : ∀ t ∈ guardTmp ops.toList o, T[t]? = T'[t]?) : sGuard T (slim1 (ops.toList.map (·.dst)) o).g = sGuard T' (slim1 (ops.toList.map (·.dst)) o).g := by
  rw [← sGuard_eq, ← sGuard_eq]
  unfold aGuard
  cases hg : o.guard with
  | none => rfl
  | some jw =>
    obtain ⟨j, w⟩ := jw
    simp only
    cases hd : (ops[j]?).bind (·.dst) with
    | none => rfl
    | some d =>
      simp only
      rw [h d]
      unfold guardTmp
      rw [hg]
      simp only
      rw [Array.getElem?_toList, hd]
      simp

/-- Which slots aren't written yet, of operations that the plan has done. -/
def Pend (ops : Array Oper) (pl : Plan) (k : Nat) (L : Array Bool) (t : Nat) : Prop := ∃ (i k' : Nat), k' ≤ k ∧ i ∈ pl.ns.getD k' [] ∧ L.getD i true = false ∧ (ops.toList.getD i default).dst = some t

structure DInv (P : Program) (ops : Array Oper) (pl : Plan) (K : AExit → List AV → Heap → Prop) (n0 : Nat) (D : List Deferred) (F : Nat → Prop) (β0 : Nat → Nat) (w0 : World) (h0 : Heap)
    (k : Nat) (L : Array Bool) (T : List AV) (β : Nat → Nat) (w : World) (h : Heap) (a : Act) : Prop where
  size : L.size = ops.size
  le : k ≤ pl.eff.length
  closed : Closed ops L
  effs : ∀ j, j < pl.eff.length → (L.getD (pl.eff.getD j 0) false = true ↔ j < k)
  ask : ∀ k', k' ≤ k → ∀ i ∈ pl.ns.getD k' [], L.getD i true = false → again1 P (slim ops.toList) T h i
  rel : ∀ (t : Nat) (x : AV), T[t]? = some x → ¬ Pend ops pl k L t → ∃ y, a.tmps.toList[t]? = some y ∧ Rel (ctx F β w h) x y
  len : T.length = a.tmps.toList.length
  gets : Gets n0 F β0 w0 h0 β w h
  defers : a.defers = D
  cont : Cont P (slim ops.toList) K (pl.eff.drop k) (pl.ns.drop (k + 1)) (pl.fs.drop (k + 1)) T h

theorem getD_false_true {L : Array Bool} {i : Nat} (hi : i < L.size) : L.getD i true = L.getD i false := by
  simp [Array.getD, hi]

theorem set_getD {L : Array Bool} {i j : Nat} (d : Bool) (hi : i < L.size) : (L.setIfInBounds i true).getD j d = if j = i then true else L.getD j d := by
  by_cases e : j = i
  · subst e; simp [hi]
  · rw [getD_set_ne d (fun q => e q.symm), if_neg e]

theorem closed_set {L : Array Bool} (hL : L.size = ops.size) (hc : Closed ops L) {i : Nat} (hi : i < ops.size) (hpre : ∀ e ∈ (ops.toList.getD i default).after, Region.binds .any e = true → L.getD e.on false = true) : Closed ops (L.setIfInBounds i true) := by
  intro j hj hjl e he hb
  rw [set_getD _ (by omega)] at hjl ⊢
  split
  · rfl
  · split at hjl
    · rename_i e1; subst e1; exact hpre e he hb
    · exact hc j hj hjl e he hb

theorem put_get (a : Act) (dst : Option Tmp) (v : Value) (t : Nat) : (a.put dst v).tmps.toList[t]? = if dst = some t ∧ t < a.tmps.toList.length then some v else a.tmps.toList[t]? := by
  cases dst with
  | none => simp [Act.put]
  | some d =>
    simp only [Act.put, Array.toList_setIfInBounds, Option.some.injEq]
    rw [List.getElem?_set]
    by_cases e : d = t
    · subst e
      by_cases hl : d < a.tmps.toList.length
      · simp only [hl, and_self, if_true]
      · simp only [hl, and_false, if_true, if_false]
        exact (List.getElem?_eq_none (Nat.le_of_not_lt hl)).symm
    · simp [e]

theorem aPut_get (T : List AV) (dst : Option Tmp) (v : AV) (t : Nat) : (aPut T dst v)[t]? = if dst = some t ∧ t < T.length then some v else T[t]? := by
  cases dst with
  | none => simp [aPut]
  | some d =>
    simp only [aPut, Option.some.injEq]
    rw [List.getElem?_set]
    by_cases e : d = t
    · subst e
      by_cases hl : d < T.length
      · simp only [hl, and_self, if_true]
      · simp only [hl, and_false, if_true, if_false]
        exact (List.getElem?_eq_none (Nat.le_of_not_lt hl)).symm
    · simp [e]

theorem aPut_length (T : List AV) (dst : Option Tmp) (v : AV) : (aPut T dst v).length = T.length := by cases dst <;> simp [aPut]
theorem put_length (a : Act) (dst : Option Tmp) (v : Value) : (a.put dst v).tmps.toList.length = a.tmps.toList.length := by cases dst <;> simp [Act.put]

/-- What an operation that is ready reads is known. -/
theorem reads_known (hp : PlanP ops.toList pl) {k : Nat} {L : Array Bool} (hk : k ≤ pl.eff.length) (hL : L.size = ops.size) (hc : Closed ops L) {i : Nat} (hi : i < ops.size)
    (hpre : ∀ e ∈ (ops.toList.getD i default).after, Region.binds .any e = true → L.getD e.on false = true) : ∀ t ∈ reads ops.toList (ops.toList.getD i default), ¬ Pend ops pl k L t := by
  rintro t ht ⟨j, k', hk', hj, hjl, hjd⟩
  obtain ⟨hjn, _, _, _⟩ := hp.ns k' (by omega) j hj
  rw [Array.length_toList] at hjn
  rcases hp.reads i (by simpa using hi) t ht j (by simpa using hjn) with q | q | q
  · have hjns : ∃ l, pl.ns[k']? = some l ∧ j ∈ l := by
      have := hp.nsl
      refine ⟨pl.ns.getD k' [], ?_, hj⟩
      rw [List.getD, List.getElem?_eq_getElem (by omega)]
      rfl
    obtain ⟨l, hl, hjl2⟩ := hjns
    exact (hp.eff j q).2 k' l hl hjl2
  · exact q hjd
  · have := anc_done hp hc i hi hpre j q
    rw [getD_false_true (by omega)] at hjl
    rw [hjl] at this
    cases this

theorem eval_known {T : List AV} {p : Nat → Prop} {o : Oper} (h : ∀ t ∈ tmpsOf o, ¬ p t) : ∀ x ∈ o.op.operands, aEval T x = aEval (mask p T) x := by
  intro x hx
  cases x with
  | tmp t =>
    have ht : t ∈ tmpsOf o := by
      unfold tmpsOf
      rw [List.mem_filterMap]
      exact ⟨.tmp t, by simpa using hx, rfl⟩
    simp only [aEval, List.getD]
    rw [mask_get p T t (h t ht)]
  | const v => rfl
  | global g => rfl
  | func f => rfl

end
end Go.AH
