/- Forgetting of slots and blocks. No condition. -/
import Derived.Test.YtieaamjikcjbeaaA16
namespace Go.AH
set_option linter.unusedSimpArgs false
set_option linter.unusedVariables false
open Go

mutual
theorem ren_id : ∀ (x : AV), ren (fun i => i) x = x
  | .ptr _ _ | .sl _ _ _ _ | .gsl _ _ _ | .map _ | .unk | .bool _ | .int _ _ | .str _ | .nilp | .nilsl | .esl | .nilm | .nilf | .nili => rfl
  | .iptr cs => by rw [ren, renL_id cs]
  | .isl cs len => by rw [ren, renL_id cs]
  | .fn f caps => by rw [ren, renL_id caps]
  | .ifc t v => by rw [ren, ren_id v]
  | .agg cs => by rw [ren, renL_id cs]
  | .tup cs => by rw [ren, renL_id cs]
theorem renL_id : ∀ (xs : List AV), renL (fun i => i) xs = xs
  | [] => rfl
  | x :: xs => by rw [renL, ren_id x, renL_id xs]
end

theorem renB_id : ∀ (b : Blk), renB (fun i => i) b = b
  | .row cs e wh => by rw [renB, renL_id]
  | .mp es clock => by
    rw [renB]
    congr 1
    rw [show (fun x : AV × AV × Nat => (ren (fun i => i) x.1, ren (fun i => i) x.2.1, x.2.2)) = id from by funext ⟨a, b, c⟩; simp [ren_id]]
    simp
  | .siter _ _ => rfl

/-- Forget what some slots hold. -/
def LeU : List AV → List AV → Prop
  | [], [] => True
  | x0 :: l0, x :: l => (match x0 with | .unk => True | x0 => x0 = x) ∧ LeU l0 l
  | _, _ => False

theorem LeU.le : ∀ {l0 l : List AV}, LeU l0 l → LeL (fun i => i) l0 l
  | [], [], _ => trivial
  | [], _ :: _, h => h
  | _ :: _, [], h => h
  | x0 :: _, x :: _, ⟨h, hs⟩ => ⟨by
    unfold LeV
    split
    · trivial
    · split at h
      · exact absurd rfl (by assumption)
      · rw [ren_id]; exact h, hs.le⟩

theorem LeU.refl : ∀ (l : List AV), LeU l l
  | [] => trivial
  | x :: l => ⟨by split <;> trivial, LeU.refl l⟩

theorem Weak.forget {n0 : Nat} {T0 T : List AV} {h : Heap} (hv : LeU T0 T) (hn : n0 ≤ h.length) : Weak n0 (fun i => i) T0 h T h :=
  ⟨hv.le, fun id b0 hb => by rw [renB_id]; exact hb, fun _ _ _ _ e => e, fun _ _ => rfl, hn, fun _ hi => hi, fun _ hi => hi⟩

/-- Which of the ids are kept, in which places. -/
def pf (ms : List Nat) (n : Nat) (id : Nat) : Nat := ms.getD id (n + id)

/-- The blocks that are kept. -/
def Keeps (m : Nat → Nat) (h : Heap) : List Nat → Heap → Prop
  | [], [] => True
  | i :: is, none :: bs => i < h.length ∧ Keeps m h is bs
  | i :: is, some b :: bs => h[i]? = some (some (renB m b)) ∧ Keeps m h is bs
  | _, _ => False

theorem Keeps.get {m : Nat → Nat} {h : Heap} : ∀ {ms : List Nat} {bs : Heap}, Keeps m h ms bs → ms.length = bs.length ∧ ∀ (k i : Nat), ms[k]? = some i → i < h.length ∧ ∀ (b : Blk), bs[k]? = some (some b) → h[i]? = some (some (renB m b))
  | [], [], _ => ⟨rfl, fun k i hk => by simp at hk⟩
  | [], _ :: _, hk => hk.elim
  | _ :: _, [], hk => hk.elim
  | i :: is, none :: bs, ⟨h1, h2⟩ => by
    obtain ⟨h3, h4⟩ := h2.get
    refine ⟨by simp [h3], fun k j hk => ?_⟩
    cases k with
    | zero => simp at hk; subst hk; exact ⟨h1, fun b hb => by simp at hb⟩
    | succ k => simpa using h4 k j (by simpa using hk)
  | i :: is, some b :: bs, ⟨h1, h2⟩ => by
    obtain ⟨h3, h4⟩ := h2.get
    refine ⟨by simp [h3], fun k j hk => ?_⟩
    cases k with
    | zero => simp at hk; subst hk; exact ⟨lt_of_some h1, fun b' hb => by simp at hb; subst hb; exact h1⟩
    | succ k => simpa using h4 k j (by simpa using hk)

theorem Weak.lit {n0 : Nat} (ms : List Nat) {T0 T : List AV} {h0 h : Heap} (hv : LeL (pf ms h.length) T0 T) (hk : Keeps (pf ms h.length) h ms h0) (nd : ms.Nodup) (hf : List.range n0 <+: ms) : Weak n0 (pf ms h.length) T0 h0 T h := by
  obtain ⟨hl, hg⟩ := hk.get
  have mget : ∀ id, id < ms.length → ms[id]? = some (pf ms h.length id) := by
    intro id hid
    unfold pf
    rw [List.getD, List.getElem?_eq_getElem hid]
    rfl
  obtain ⟨tl, rfl⟩ := hf
  have hlen : n0 ≤ h0.length := by rw [← hl]; simp
  refine ⟨hv, fun id b0 hb => ?_, fun i j hi hj e => ?_, fun id hid => ?_, hlen, fun id hid => ?_, fun id hid => ?_⟩
  · have hid := lt_of_some hb
    exact (hg id _ (mget id (by omega))).2 b0 hb
  · have h1 := mget i (by omega)
    have h2 := mget j (by omega)
    rw [e] at h1
    rw [List.getElem?_eq_getElem (by omega)] at h1 h2
    exact (List.getElem_inj nd).1 (by simp only [Option.some.injEq] at h1 h2; rw [h1, h2])
  · unfold pf
    rw [List.getD, List.getElem?_append_left (by simpa using hid), List.getElem?_range hid]
    rfl
  · exact (hg id _ (mget id (by omega))).1
  · rcases Nat.lt_or_ge id h0.length with q | q
    · exact q
    · unfold pf at hid
      rw [List.getD, List.getElem?_eq_none (by omega)] at hid
      simp only [Option.getD_none] at hid
      omega

section
variable {P : Program} {n0 : Nat} {T : List AV} {h : Heap}

theorem aW_forget {c : Code} {K : AExit → List AV → Heap → Prop} (T0 : List AV) (hv : LeU T0 T) (a : n0 ≤ h.length → aW P n0 c T0 h K) : aW P n0 c T h K :=
  fun F β w act D hn s r hd => aW_weak (Weak.forget hv hn) (a hn) F β w act D hn s r hd

/-- The body is at its end: nothing is forgotten. -/
theorem Body.done {fn : Func} {K : AEnd → Heap → Prop} {R : AV} (hr : aResults P fn.results.toList T h = some R) (hn : n0 ≤ h.length) (k : K (.ret R) h) : Body P fn n0 K .ret T h :=
  ⟨R, _, R, h, hr, Weak.forget (LeU.refl _) hn, k⟩

/-- The body is at its end: the blocks ms are kept. -/
theorem Body.keep {fn : Func} {K : AEnd → Heap → Prop} {R : AV} (ms : List Nat) (r : AV) (h0 : Heap) (hr : aResults P fn.results.toList T h = some R) (hv : LeV (pf ms h.length) r R) (hk : Keeps (pf ms h.length) h ms h0) (nd : ms.Nodup) (hf : List.range n0 <+: ms) (k : K (.ret r) h0) : Body P fn n0 K .ret T h :=
  ⟨R, _, r, h0, hr, Weak.lit ms ⟨hv, trivial⟩ hk nd hf, k⟩

end
end Go.AH
namespace Go.AH
open Go
/-- Behind the first of two: N. -/
def Nx (N : List AV → Heap → Prop) (K : AExit → List AV → Heap → Prop) : AExit → List AV → Heap → Prop
  | .normal, T, h => N T h
  | e, T, h => K e T h

section
variable {P : Program} {n0 : Nat} {T : List AV} {h : Heap}
theorem aW_seq_k {x y : Code} {K : AExit → List AV → Heap → Prop} (a : ∀ N : List AV → Heap → Prop, (∀ T' h', aW P n0 y T' h' K → N T' h') → aW P n0 x T h (Nx N K)) : aW P n0 (.seq x y) T h K := by
  refine aW_seq (aW_mono (a (fun T' h' => aW P n0 y T' h' K) fun _ _ q => q) ?_)
  intro e T h _ q
  cases e <;> exact q
end
/-- An operation without what the walk does not ask for. -/
structure SOp where
  dst : Option Tmp
  op : Op
  g : Option (Option Tmp × Bool)

def slim1 (ds : List (Option Tmp)) (o : Oper) : SOp := ⟨o.dst, o.op, match o.guard with | none => none | some (j, w) => some (ds.getD j none, w)⟩
def slim (ops : List Oper) : List SOp := ops.map (slim1 (ops.map (·.dst)))

/-- Is a guarded operation wanted? -/
def sGuard (T : List AV) : Option (Option Tmp × Bool) → Option Bool
  | none => some true
  | some (none, _) => some false
  | some (some d, want) => match T[d]? with
    | none => some false
    | some (.bool b) => some (b == want)
    | some (.tup _) => some false
    | some _ => none

def sOp (P : Program) (o : Op) (T : List AV) (h : Heap) (next : AV → Heap → Prop) (pan : AV → Heap → Prop) : Prop := match o with
  | .call c => match c.callee with
    | .value f => match aEval T f with
      | .fn (.func n) caps => ACalls P n (c.args.toList.map (aEval T) ++ caps) h fun r h' => match r with
        | .ret v => next v h'
        | .pan v => pan v h'
      | _ => False
    | .builtin b => match aBuiltin P h b c.argTypes (c.args.toList.map (aEval T)) with
      | some (v, h') => next v h'
      | none => False
    | .invoke _ _ => False
  | op => match ev P (aEval T) op h with
    | some (v, h') => next v h'
    | none => False

def sOps (P : Program) (K : AExit → List AV → Heap → Prop) : List SOp → List AV → Heap → Prop
  | [], T, h => K .normal T h
  | o :: os, T, h => match sGuard T o.g with
    | some true => sOp P o.op T h (fun v h' => sOps P K os (aPut T o.dst v) h') (fun v h' => K (.pan v) T h')
    | some false => sOps P K os (aPut T o.dst (.tup [])) h
    | none => False

theorem sGuard_eq (ops : Array Oper) (o : Oper) (T : List AV) : aGuard ops T o = sGuard T (slim1 (ops.toList.map (·.dst)) o).g := by
  unfold aGuard slim1
  simp only
  cases o.guard with
  | none => rfl
  | some jw =>
    obtain ⟨j, w⟩ := jw
    simp only
    have e : (ops.toList.map (·.dst)).getD j none = (ops[j]?).bind (·.dst) := by
      rw [List.getD, List.getElem?_map, Array.getElem?_toList]
      cases ops[j]? <;> rfl
    rw [e]
    cases (ops[j]?).bind (·.dst) with
    | none => rfl
    | some d =>
      simp only [sGuard]
      cases T[d]? with
      | none => rfl
      | some x => cases x <;> rfl

theorem sOp_aOp {P : Program} {o : Oper} {T : List AV} {h : Heap} {next pan : AV → Heap → Prop} (ho : sOp P o.op T h next pan) : aOp P o T h next pan := by
  unfold sOp at ho
  unfold aOp
  split at ho
  · rename_i c hc
    rw [hc]
    simp only
    split at ho
    · rename_i f hf
      rw [hf]
      simp only
      split at ho
      · rename_i hv; rw [hv]; exact ho
      · exact ho.elim
    · rename_i b hb
      rw [hb]
      simp only
      split at ho
      · rename_i hv; rw [hv]; exact ho
      · exact ho.elim
    · exact ho.elim
  · rename_i hc
    split
    · rename_i c hc2; exact absurd hc2 (hc c)
    · split at ho
      · rename_i hv; rw [hv]; exact ho
      · exact ho.elim

theorem sOps_aOps (P : Program) (ops : Array Oper) (K : AExit → List AV → Heap → Prop) : ∀ (os : List Oper) (T : List AV) (h : Heap), sOps P K (os.map (slim1 (ops.toList.map (·.dst)))) T h → aOps P ops K os T h
  | [], _, _, k => k
  | o :: os, T, h, k => by
    rw [List.map_cons, sOps] at k
    rw [aOps, sGuard_eq]
    have key : ∀ (next next' pan : AV → Heap → Prop), (∀ v h', next v h' → next' v h') → sOp P o.op T h next pan → aOp P o T h next' pan := by
      intro next next' pan hn ho
      unfold sOp at ho
      unfold aOp
      split at ho
      · rename_i c hc
        rw [hc]
        simp only
        split at ho
        · rename_i f hf
          rw [hf]
          simp only
          split at ho
          · rename_i hv
            rw [hv]
            refine ho.mono ?_
            intro r h' q
            cases r with
            | ret v => exact hn _ _ q
            | pan v => exact q
          · exact ho.elim
        · rename_i b hb
          rw [hb]
          simp only
          split at ho
          · rename_i hv; rw [hv]; exact hn _ _ ho
          · exact ho.elim
        · exact ho.elim
      · rename_i hc
        split
        · rename_i c hc2; exact absurd hc2 (hc c)
        · split at ho
          · rename_i hv; rw [hv]; exact hn _ _ ho
          · exact ho.elim
    split at k
    · rename_i hg
      rw [hg]
      simp only [if_true]
      exact key _ _ _ (fun v h' q => sOps_aOps P ops K os _ h' q) k
    · rename_i hg
      rw [hg]
      simp only [Bool.false_eq_true, if_false]
      exact sOps_aOps P ops K os _ h k
    · exact k.elim

section
variable {P : Program} {n0 : Nat} {T : List AV} {h : Heap}
/-- A region, and what stands behind it. -/
theorem aW_reg {id : Nat} {ops : Array Oper} {y : Code} {K : AExit → List AV → Heap → Prop} (a : ∀ N : List AV → Heap → Prop, (∀ T' h', aW P n0 y T' h' K → N T' h') → sOps P (Nx N K) (slim ops.toList) T h) : aW P n0 (.seq (.region id ops false) y) T h K :=
  aW_seq_k fun N hN => aW_region (sOps_aOps P ops _ _ T h (a N hN))
/-- A region that stands last. -/
theorem aW_reg1 {id : Nat} {ops : Array Oper} {K : AExit → List AV → Heap → Prop} (a : ∀ N : List AV → Heap → Prop, (∀ T' h', K .normal T' h' → N T' h') → sOps P (Nx N K) (slim ops.toList) T h) : aW P n0 (.region id ops false) T h K := by
  refine aW_mono (aW_region (sOps_aOps P ops _ _ T h (a (fun T' h' => K .normal T' h') fun _ _ q => q))) ?_
  intro e T h _ q
  cases e <;> exact q
end
end Go.AH
