/- The walk of regions, the simp set. No condition. -/
import Derived.Test.YtbdhilbngaemcaaGreatDoorAB
import Derived.KernelRfl
import Derived.WalkKit
set_option linter.unusedVariables false
set_option linter.unusedSimpArgs false
namespace Go.AH
open Go

mutual
theorem ren_id : ∀ (x : AV), ren (fun i => i) x = x
  | .any _ | .lin _ _ | .sym _ | .gptr _ _ | .anyb | .atl _ _ | .txt _ _ | .oct _ _ | .bstr _ _ | .osl _ _ | .lnb _ | .ptr _ _ | .sl _ _ _ _ | .gsl _ _ _ | .map _ | .unk | .bool _ | .int _ _ | .str _ | .nilp | .nilsl | .esl | .nilm | .nilf | .nili => rfl
  | .iptr cs => by rw [ren, renL_id cs]
  | .isl cs len => by rw [ren, renL_id cs]
  | .fn f caps => by rw [ren, renL_id caps]
  | .bfn f caps => by rw [ren, renL_id caps]
  | .ifc t v => by rw [ren, ren_id v]
  | .agg cs => by rw [ren, renL_id cs]
  | .tup cs => by rw [ren, renL_id cs]
theorem renL_id : ∀ (xs : List AV), renL (fun i => i) xs = xs
  | [] => rfl
  | x :: xs => by rw [renL, ren_id x, renL_id xs]
end

theorem renB_id : ∀ (b : Blk), renB (fun i => i) b = b
  | .row cs e wh => by rw [renB, renL_id]
  | .mp es clock => by
    rw [renB]
    congr 1
    rw [show (fun x : AV × AV × Nat => (ren (fun i => i) x.1, ren (fun i => i) x.2.1, x.2.2)) = id from by funext ⟨a, b, c⟩; simp [ren_id]]
    simp
  | .siter _ _ => rfl
  | .yiter _ _ => rfl
  | .ubytes _ => rfl

/-- Forget what some slots hold. -/
def LeU : List AV → List AV → Prop
  | [], [] => True
  | x0 :: l0, x :: l => (match x0 with | .unk => True | x0 => x0 = x) ∧ LeU l0 l
  | _, _ => False

theorem LeU.le : ∀ {l0 l : List AV}, LeU l0 l → LeL (fun i => i) l0 l
  | [], [], _ => trivial
  | [], _ :: _, h => h
  | _ :: _, [], h => h
  | x0 :: _, x :: _, ⟨h, hs⟩ => ⟨by
    unfold LeV
    split
    · trivial
    · split at h
      · exact absurd rfl (by assumption)
      · rw [ren_id]; exact h, hs.le⟩

theorem LeU.refl : ∀ (l : List AV), LeU l l
  | [] => trivial
  | x :: l => ⟨by split <;> trivial, LeU.refl l⟩

theorem Weak.forget {n0 : Nat} {T0 T : List AV} {h : Heap} (hv : LeU T0 T) (hn : n0 ≤ h.length) : Weak n0 (fun i => i) T0 h T h :=
  ⟨hv.le, fun id b0 hb => by rw [renB_id]; exact hb, fun _ _ _ _ _ _ e => e, fun _ _ => rfl, hn, fun _ hi => hi, fun _ hi => hi⟩

/-- Which of the ids are kept, in which places. -/
def pf (ms : List Nat) (n : Nat) (id : Nat) : Nat := ms.getD id (n + id)

/-- The blocks that are kept. -/
def Keeps (m : Nat → Nat) (h : Heap) : List Nat → Heap → Prop
  | [], [] => True
  | i :: is, none :: bs => i < h.length ∧ Keeps m h is bs
  | i :: is, some b :: bs => h[i]? = some (some (renB m b)) ∧ Keeps m h is bs
  | _, _ => False

theorem Keeps.get {m : Nat → Nat} {h : Heap} : ∀ {ms : List Nat} {bs : Heap}, Keeps m h ms bs → ms.length = bs.length ∧ ∀ (k i : Nat), ms[k]? = some i → i < h.length ∧ ∀ (b : Blk), bs[k]? = some (some b) → h[i]? = some (some (renB m b))
  | [], [], _ => ⟨rfl, fun k i hk => by simp at hk⟩
  | [], _ :: _, hk => hk.elim
  | _ :: _, [], hk => hk.elim
  | i :: is, none :: bs, ⟨h1, h2⟩ => by
    obtain ⟨h3, h4⟩ := h2.get
    refine ⟨by simp [h3], fun k j hk => ?_⟩
    cases k with
    | zero => simp at hk; subst hk; exact ⟨h1, fun b hb => by simp at hb⟩
    | succ k => simpa using h4 k j (by simpa using hk)
  | i :: is, some b :: bs, ⟨h1, h2⟩ => by
    obtain ⟨h3, h4⟩ := h2.get
    refine ⟨by simp [h3], fun k j hk => ?_⟩
    cases k with
    | zero => simp at hk; subst hk; exact ⟨lt_of_some h1, fun b' hb => by simp at hb; subst hb; exact h1⟩
    | succ k => simpa using h4 k j (by simpa using hk)

theorem Weak.lit {n0 : Nat} (ms : List Nat) {T0 T : List AV} {h0 h : Heap} (hv : LeL (pf ms h.length) T0 T) (hk : Keeps (pf ms h.length) h ms h0) (nd : ms.Nodup) (hf : List.range n0 <+: ms) : Weak n0 (pf ms h.length) T0 h0 T h := by
  obtain ⟨hl, hg⟩ := hk.get
  have mget : ∀ id, id < ms.length → ms[id]? = some (pf ms h.length id) := by
    intro id hid
    unfold pf
    rw [List.getD, List.getElem?_eq_getElem hid]
    rfl
  obtain ⟨tl, rfl⟩ := hf
  have hlen : n0 ≤ h0.length := by rw [← hl]; simp
  refine ⟨hv, fun id b0 hb => ?_, fun i j bi bj hi0 hj0 e => ?_, fun id hid => ?_, hlen, fun id hid => ?_, fun id hid => ?_⟩
  · have hid := lt_of_some hb
    exact (hg id _ (mget id (by omega))).2 b0 hb
  · have hi := lt_of_some hi0
    have hj := lt_of_some hj0
    have h1 := mget i (by omega)
    have h2 := mget j (by omega)
    rw [e] at h1
    rw [List.getElem?_eq_getElem (by omega)] at h1 h2
    exact (List.getElem_inj nd).1 (by simp only [Option.some.injEq] at h1 h2; rw [h1, h2])
  · unfold pf
    rw [List.getD, List.getElem?_append_left (by simpa using hid), List.getElem?_range hid]
    rfl
  · exact (hg id _ (mget id (by omega))).1
  · rcases Nat.lt_or_ge id h0.length with q | q
    · exact q
    · unfold pf at hid
      rw [List.getD, List.getElem?_eq_none (by omega)] at hid
      simp only [Option.getD_none] at hid
      omega

section
variable {P : Program} {n0 : Nat} {T : List AV} {h : Heap}

theorem aW_forget {c : Code} {K : AExit → List AV → Heap → Prop} (T0 : List AV) (hv : LeU T0 T) (a : n0 ≤ h.length → aW P n0 c T0 h K) : aW P n0 c T h K :=
  fun F β w act D hn s r hd => aW_weak (Weak.forget hv hn) (a hn) F β w act D hn s r hd

/-- The body is at its end: nothing is forgotten. -/
theorem Body.done {fn : Func} {K : AEnd → Heap → Prop} {R : AV} (hr : aResults P fn.results.toList T h = some R) (hn : n0 ≤ h.length) (k : K (.ret R) h) : Body P fn n0 K .ret T h :=
  ⟨R, _, R, h, hr, Weak.forget (LeU.refl _) hn, k⟩

/-- The body is at its end: the blocks ms are kept. -/
theorem Body.keep {fn : Func} {K : AEnd → Heap → Prop} {R : AV} (ms : List Nat) (r : AV) (h0 : Heap) (hr : aResults P fn.results.toList T h = some R) (hv : LeV (pf ms h.length) r R) (hk : Keeps (pf ms h.length) h ms h0) (nd : ms.Nodup) (hf : List.range n0 <+: ms) (k : K (.ret r) h0) : Body P fn n0 K .ret T h :=
  ⟨R, _, r, h0, hr, Weak.lit ms ⟨hv, trivial⟩ hk nd hf, k⟩

end
end Go.AH
namespace Go.AH
open Go
/-- Behind the first of two: N. -/
def Nx (N : List AV → Heap → Prop) (K : AExit → List AV → Heap → Prop) : AExit → List AV → Heap → Prop
  | .normal, T, h => N T h
  | e, T, h => K e T h

section
variable {P : Program} {n0 : Nat} {T : List AV} {h : Heap}
theorem aW_seq_k {x y : Code} {K : AExit → List AV → Heap → Prop} (a : ∀ N : List AV → Heap → Prop, (∀ T' h', aW P n0 y T' h' K → N T' h') → aW P n0 x T h (Nx N K)) : aW P n0 (.seq x y) T h K := by
  refine aW_seq (aW_mono (a (fun T' h' => aW P n0 y T' h' K) fun _ _ q => q) ?_)
  intro e T h _ q
  cases e <;> exact q
end
/-- An operation without what the walk does not ask for. -/
structure SOp where
  dst : Option Tmp
  op : Op
  g : Option (Option Tmp × Bool)

def slim1 (ds : List (Option Tmp)) (o : Oper) : SOp := ⟨o.dst, o.op, match o.guard with | none => none | some (j, w) => some (ds.getD j none, w)⟩
def slim (ops : List Oper) : List SOp := ops.map (slim1 (ops.map (·.dst)))

/-- Is a guarded operation wanted? -/
def sGuard (T : List AV) : Option (Option Tmp × Bool) → Option Bool
  | none => some true
  | some (none, _) => some false
  | some (some d, want) => match T[d]? with
    | none => some false
    | some (.bool b) => some (b == want)
    | some (.tup _) => some false
    | some _ => none

def sOp (P : Program) (o : Op) (T : List AV) (h : Heap) (next : AV → Heap → Prop) (pan : AV → Heap → Prop) : Prop := match o with
  | .call c => match c.callee with
    | .value f => match fnArgs (aEval T f) (c.args.toList.map (aEval T)) with
      | some (n, as) => ACalls P n as h fun r h' => match r with
        | .ret v => next v h'
        | .pan v => pan v h'
      | none => False
    | .builtin b => match bEv P h b c.argTypes (c.args.toList.map (aEval T)) with
      | some (v, h') => next v h'
      | none => False
    | .invoke _ _ => False
  | op => match ev P (aEval T) op h with
    | some (v, h') => next v h'
    | none => False

def sOps (P : Program) (K : AExit → List AV → Heap → Prop) : List SOp → List AV → Heap → Prop
  | [], T, h => K .normal T h
  | o :: os, T, h => match sGuard T o.g with
    | some true => sOp P o.op T h (fun v h' => sOps P K os (aPut T o.dst v) h') (fun v h' => K (.pan v) T h')
    | some false => sOps P K os (aPut T o.dst (.tup [])) h
    | none => False

theorem sGuard_eq (ops : Array Oper) (o : Oper) (T : List AV) : aGuard ops T o = sGuard T (slim1 (ops.toList.map (·.dst)) o).g := by
  unfold aGuard slim1
  simp only
  cases o.guard with
  | none => rfl
  | some jw =>
    obtain ⟨j, w⟩ := jw
    simp only
    have e : (ops.toList.map (·.dst)).getD j none = (ops[j]?).bind (·.dst) := by
      rw [List.getD, List.getElem?_map, Array.getElem?_toList]
      cases ops[j]? <;> rfl
    rw [e]
    cases (ops[j]?).bind (·.dst) with
    | none => rfl
    | some d =>
      simp only [sGuard]
      cases T[d]? with
      | none => rfl
      | some x => cases x <;> rfl

theorem sOp_aOp {P : Program} {o : Oper} {T : List AV} {h : Heap} {next pan : AV → Heap → Prop} (ho : sOp P o.op T h next pan) : aOp P o T h next pan := by
  unfold sOp at ho
  unfold aOp
  split at ho
  · rename_i c hc
    rw [hc]
    simp only
    split at ho
    · rename_i f hf
      rw [hf]
      simp only
      split at ho
      · rename_i hv; rw [hv]; exact ho
      · exact ho.elim
    · rename_i b hb
      rw [hb]
      simp only
      split at ho
      · rename_i hv; rw [hv]; exact ho
      · exact ho.elim
    · exact ho.elim
  · rename_i hc
    split
    · rename_i c hc2; exact absurd hc2 (hc c)
    · split at ho
      · rename_i hv; rw [hv]; exact ho
      · exact ho.elim

theorem sOps_aOps (P : Program) (ops : Array Oper) (K : AExit → List AV → Heap → Prop) : ∀ (os : List Oper) (T : List AV) (h : Heap), sOps P K (os.map (slim1 (ops.toList.map (·.dst)))) T h → aOps P ops K os T h
  | [], _, _, k => k
  | o :: os, T, h, k => by
    rw [List.map_cons, sOps] at k
    rw [aOps, sGuard_eq]
    have key : ∀ (next next' pan : AV → Heap → Prop), (∀ v h', next v h' → next' v h') → sOp P o.op T h next pan → aOp P o T h next' pan := by
      intro next next' pan hn ho
      unfold sOp at ho
      unfold aOp
      split at ho
      · rename_i c hc
        rw [hc]
        simp only
        split at ho
        · rename_i f hf
          rw [hf]
          simp only
          split at ho
          · rename_i hv
            rw [hv]
            refine ho.mono ?_
            intro r h' q
            cases r with
            | ret v => exact hn _ _ q
            | pan v => exact q
          · exact ho.elim
        · rename_i b hb
          rw [hb]
          simp only
          split at ho
          · rename_i hv; rw [hv]; exact hn _ _ ho
          · exact ho.elim
        · exact ho.elim
      · rename_i hc
        split
        · rename_i c hc2; exact absurd hc2 (hc c)
        · split at ho
          · rename_i hv; rw [hv]; exact hn _ _ ho
          · exact ho.elim
    split at k
    · rename_i hg
      rw [hg]
      simp only [if_true]
      exact key _ _ _ (fun v h' q => sOps_aOps P ops K os _ h' q) k
    · rename_i hg
      rw [hg]
      simp only [Bool.false_eq_true, if_false]
      exact sOps_aOps P ops K os _ h k
    · exact k.elim

section
variable {P : Program} {n0 : Nat} {T : List AV} {h : Heap}
/-- A region, and what stands behind it. -/
theorem aW_reg {id : Nat} {ops : Array Oper} {y : Code} {K : AExit → List AV → Heap → Prop} (a : ∀ N : List AV → Heap → Prop, (∀ T' h', aW P n0 y T' h' K → N T' h') → sOps P (Nx N K) (slim ops.toList) T h) : aW P n0 (.seq (.region id ops false) y) T h K :=
  aW_seq_k fun N hN => aW_region (sOps_aOps P ops _ _ T h (a N hN))
/-- A region that stands last. -/
theorem aW_reg1 {id : Nat} {ops : Array Oper} {K : AExit → List AV → Heap → Prop} (a : ∀ N : List AV → Heap → Prop, (∀ T' h', K .normal T' h' → N T' h') → sOps P (Nx N K) (slim ops.toList) T h) : aW P n0 (.region id ops false) T h K := by
  refine aW_mono (aW_region (sOps_aOps P ops _ _ T h (a (fun T' h' => K .normal T' h') fun _ _ q => q))) ?_
  intro e T h _ q
  cases e <;> exact q
end
end Go.AH
namespace Go.AH
open Go
attribute [go_sem] fnArgs orElse_some orB_some bEv ev0 slim slim1 List.map List.getD_cons_zero List.getD_cons_succ sGuard ev aEval aPut ofConst ofConst1 List.set_cons_zero List.set_cons_succ List.getElem?_cons_succ List.getElem?_cons_zero Nx aBin symb aInt aStr isLit Option.map_some Option.map_none decide_true decide_false beq_self_eq_true Bool.false_beq Bool.true_beq Bool.not_true Bool.not_false Bool.false_eq_true
attribute [go_sem] aConv aUn aGuardEq aNil nilOf nilFit aEq eqS eqF eqA aExtract aNilCheck aFieldAddr aField aIndexAddr aIndex aSlice sliceOf aBounds bound aLoad aStore rowAt acells oneC aFill setMany aBuildSlice aAppend lenOfA readSl aClear aCopy aConvert bEv aLen aMin aMax aMakeIface pick cut isSeq strOk toBytes zeroRow
attribute [go_sem] List.length_nil List.length_cons List.nil_append List.cons_append Nat.zero_add Nat.add_zero if_true if_false Nat.mul_one List.set_append List.append_assoc List.drop_zero List.take_zero Option.getD_some Option.getD_none Option.map List.replicate
attribute [go_sem] aResults aRess aRes1 Then Round InBlock
end Go.AH
namespace Go.AH
open Go
theorem aBuild_struct {P : Program} {t : TypeId} {fs : Array Field} {z : List AV} {pl : List (Nat × Nat)} (hu : P.underlying t = some (.struct fs)) (hz : zeroCellsOf P t = some z) (hp : fieldPlaces P fs.toList = some pl) (parts : List (Nat × AV)) :
    aBuild P t parts = (aFill (pl[·]?) z parts).map .agg := by
  simp only [aBuild, hz, hu, hp]
end Go.AH
namespace Go.AH
open Go
section
variable {P : Program} {h : Heap}
/-- A call of a function that owns nothing: its contract is over the empty heap. -/
theorem ACalls.pure {f : FuncId} {args0 args : List AV} {R : AV} {K : AEnd → Heap → Prop} (c : ACalls P f args0 [] (fun r h => r = .ret R ∧ h = [])) (B : List Nat)
    (hargs : LentL (mf [] h.length) h B args0 args) (hB : B = [] ∨ noIsl R = true) (hR : ren (mf [] h.length) R = R) (k : K (.ret R) h) : ACalls P f args h K := by
  refine c.frame [] B rfl List.nodup_nil (by simp) (by simp) hargs (by simp) ?_
  rintro r0 h0' _ ⟨rfl, rfl⟩
  refine ⟨hB.imp id fun q => ⟨q, rfl⟩, ?_⟩
  have : merge [] h [] = h := by simp [merge, upd]
  rw [this, renE, hR]
  exact k
/-- The same, at arguments that hold no ids. -/
theorem ACalls.plain {f : FuncId} {args : List AV} {R : AV} {K : AEnd → Heap → Prop} (c : ACalls P f args [] (fun r h => r = .ret R ∧ h = []))
    (ha : renL (mf [] h.length) args = args) (hR : ren (mf [] h.length) R = R) (k : K (.ret R) h) : ACalls P f args h K := by
  refine c.pure [] ?_ (.inl rfl) hR k
  clear c k hR
  generalize hl : args = l at ha ⊢
  clear hl
  induction l with
  | nil => trivial
  | cons x l ih =>
    simp only [renL, List.cons.injEq] at ha
    refine ⟨.inl ?_, ih ha.2⟩
    unfold LeV
    split
    · trivial
    · exact ha.1
end
attribute [go_sem] ren renL renE LeV LeL LeU

/-- What is next behind an operation. -/
def sNext (r : Option (AV × Heap)) (next : AV → Heap → Prop) : Prop := match r with
  | some (v, h) => next v h
  | none => False
def sStep (g : Option Bool) (A B : Prop) : Prop := match g with
  | some true => A
  | some false => B
  | none => False
def sCallV (P : Program) (fv : AV) (as : List AV) (h : Heap) (K : AEnd → Heap → Prop) : Prop := match fv with
  | .fn (.func n) caps => ACalls P n (as ++ caps) h K
  | .bfn (.func n) first => ACalls P n (first ++ as) h K
  | _ => False
section
variable {P : Program} {T : List AV} {h : Heap} {next pan : AV → Heap → Prop} {K : AExit → List AV → Heap → Prop}
theorem sNext_some (v : AV) (h : Heap) : sNext (some (v, h)) next = next v h := (Eq.refl _).trans (Eq.refl _)
theorem sNext_none : sNext none next = False := (Eq.refl _).trans (Eq.refl _)
theorem sStep_t (A B : Prop) : sStep (some true) A B = A := (Eq.refl _).trans (Eq.refl _)
theorem sStep_f (A B : Prop) : sStep (some false) A B = B := (Eq.refl _).trans (Eq.refl _)
theorem sCallV_fn (n : FuncId) (caps as : List AV) (K : AEnd → Heap → Prop) : sCallV P (.fn (.func n) caps) as h K = ACalls P n (as ++ caps) h K := (Eq.refl _).trans (Eq.refl _)
theorem sOps_nil : sOps P K [] T h = K .normal T h := (Eq.refl _).trans (Eq.refl _)
theorem sOps_cons (o : SOp) (os : List SOp) : sOps P K (o :: os) T h = sStep (sGuard T o.g) (sOp P o.op T h (fun v h' => sOps P K os (aPut T o.dst v) h') (fun v h' => K (.pan v) T h')) (sOps P K os (aPut T o.dst (.tup [])) h) := by
  rw [sOps]
  unfold sStep
  split <;> rename_i e <;> simp only [e]
/-- An operation, and the others behind it. -/
def sOpK (P : Program) (K : AExit → List AV → Heap → Prop) (d : Option Tmp) (op : Op) (os : List SOp) (T : List AV) (h : Heap) : Prop :=
  sOp P op T h (fun v h' => sOps P K os (aPut T d v) h') (fun v h' => K (.pan v) T h')
/-- What stands behind a call. -/
def Aft (P : Program) (K : AExit → List AV → Heap → Prop) (d : Option Tmp) (os : List SOp) (T : List AV) (r : AEnd) (h' : Heap) : Prop := match r with
  | .ret v => sOps P K os (aPut T d v) h'
  | .pan v => K (.pan v) T h'
/-- A guarded operation. -/
def sStepK (P : Program) (K : AExit → List AV → Heap → Prop) (d : Option Tmp) (op : Op) (os : List SOp) (T : List AV) (h : Heap) (g : Option Bool) : Prop := match g with
  | some true => sOpK P K d op os T h
  | some false => sOps P K os (aPut T d (.tup [])) h
  | none => False
/-- What stands behind an operation. -/
def sEvK (P : Program) (K : AExit → List AV → Heap → Prop) (d : Option Tmp) (os : List SOp) (T : List AV) (r : Option (AV × Heap)) : Prop := match r with
  | some (v, h') => sOps P K os (aPut T d v) h'
  | none => False
section
variable {d : Option Tmp} {os : List SOp}
theorem Aft_ret (v : AV) : Aft P K d os T (.ret v) h = sOps P K os (aPut T d v) h := (Eq.refl _).trans (Eq.refl _)
theorem Aft_pan (v : AV) : Aft P K d os T (.pan v) h = K (.pan v) T h := (Eq.refl _).trans (Eq.refl _)
theorem sOps_cons' (op : Op) (g : Option (Option Tmp × Bool)) : sOps P K (⟨d, op, g⟩ :: os) T h = sStepK P K d op os T h (sGuard T g) := (Eq.refl _).trans (Eq.refl _)
theorem sStepK_t (op : Op) : sStepK P K d op os T h (some true) = sOpK P K d op os T h := (Eq.refl _).trans (Eq.refl _)
theorem sStepK_f (op : Op) : sStepK P K d op os T h (some false) = sOps P K os (aPut T d (.tup [])) h := (Eq.refl _).trans (Eq.refl _)
theorem sEvK_some (v : AV) (h : Heap) : sEvK P K d os T (some (v, h)) = sOps P K os (aPut T d v) h := (Eq.refl _).trans (Eq.refl _)
theorem sOpK_move (x) : sOpK P K d (.move x) os T h = sOps P K os (aPut T d (aEval T x)) h := (Eq.refl _).trans (Eq.refl _)
theorem sOpK_assign (x) : sOpK P K d (.assign x) os T h = sOps P K os (aPut T d (aEval T x)) h := (Eq.refl _).trans (Eq.refl _)
theorem sOpK_alloc (x) : sOpK P K d (.alloc x) os T h = sEvK P K d os T (ev P (aEval T) (.alloc x) h) := (Eq.refl _).trans (Eq.refl _)
theorem sOpK_box (x y) : sOpK P K d (.box x y) os T h = sEvK P K d os T (ev P (aEval T) (.box x y) h) := (Eq.refl _).trans (Eq.refl _)
theorem sOpK_build (x y) : sOpK P K d (.build x y) os T h = sEvK P K d os T (ev P (aEval T) (.build x y) h) := (Eq.refl _).trans (Eq.refl _)
theorem sOpK_buildSlice (x y z) : sOpK P K d (.buildSlice x y z) os T h = sEvK P K d os T (ev P (aEval T) (.buildSlice x y z) h) := (Eq.refl _).trans (Eq.refl _)
theorem sOpK_load (x y) : sOpK P K d (.load x y) os T h = sEvK P K d os T (ev P (aEval T) (.load x y) h) := (Eq.refl _).trans (Eq.refl _)
theorem sOpK_store (x y z) : sOpK P K d (.store x y z) os T h = sEvK P K d os T (ev P (aEval T) (.store x y z) h) := (Eq.refl _).trans (Eq.refl _)
theorem sOpK_nilCheck (x) : sOpK P K d (.nilCheck x) os T h = sEvK P K d os T (ev P (aEval T) (.nilCheck x) h) := (Eq.refl _).trans (Eq.refl _)
theorem sOpK_binOp (a b c x e) : sOpK P K d (.binOp a b c x e) os T h = sEvK P K d os T (ev P (aEval T) (.binOp a b c x e) h) := (Eq.refl _).trans (Eq.refl _)
theorem sOpK_unOp (a b c) : sOpK P K d (.unOp a b c) os T h = sEvK P K d os T (ev P (aEval T) (.unOp a b c) h) := (Eq.refl _).trans (Eq.refl _)
theorem sOpK_convert (a b c) : sOpK P K d (.convert a b c) os T h = sEvK P K d os T (ev P (aEval T) (.convert a b c) h) := (Eq.refl _).trans (Eq.refl _)
theorem sOpK_makeInterface (a b) : sOpK P K d (.makeInterface a b) os T h = sEvK P K d os T (ev P (aEval T) (.makeInterface a b) h) := (Eq.refl _).trans (Eq.refl _)
theorem sOpK_makeFunc (a b c) : sOpK P K d (.makeFunc a b c) os T h = sEvK P K d os T (ev P (aEval T) (.makeFunc a b c) h) := (Eq.refl _).trans (Eq.refl _)
theorem sOpK_slice (a b c x e) : sOpK P K d (.slice a b c x e) os T h = sEvK P K d os T (ev P (aEval T) (.slice a b c x e) h) := (Eq.refl _).trans (Eq.refl _)
theorem sOpK_fieldAddr (a b c) : sOpK P K d (.fieldAddr a b c) os T h = sEvK P K d os T (ev P (aEval T) (.fieldAddr a b c) h) := (Eq.refl _).trans (Eq.refl _)
theorem sOpK_field (a b c) : sOpK P K d (.field a b c) os T h = sEvK P K d os T (ev P (aEval T) (.field a b c) h) := (Eq.refl _).trans (Eq.refl _)
theorem sOpK_indexAddr (a b c) : sOpK P K d (.indexAddr a b c) os T h = sEvK P K d os T (ev P (aEval T) (.indexAddr a b c) h) := (Eq.refl _).trans (Eq.refl _)
theorem sOpK_index (a b c) : sOpK P K d (.index a b c) os T h = sEvK P K d os T (ev P (aEval T) (.index a b c) h) := (Eq.refl _).trans (Eq.refl _)
theorem sOpK_extract (a b) : sOpK P K d (.extract a b) os T h = sEvK P K d os T (ev P (aEval T) (.extract a b) h) := (Eq.refl _).trans (Eq.refl _)
theorem sOpK_pick (x y z) : sOpK P K d (.pick x y z) os T h = sEvK P K d os T (ev P (aEval T) (.pick x y z) h) := (Eq.refl _).trans (Eq.refl _)
theorem sOpK_callF (n : FuncId) (as ts) : sOpK P K d (.call ⟨.value (.func n), as, ts⟩) os T h = ACalls P n (as.toList.map (aEval T)) h (Aft P K d os T) := by
  rw [← List.append_nil (List.map (aEval T) as.toList)]
  rfl
theorem sOpK_callT (t : Tmp) (as ts) : sOpK P K d (.call ⟨.value (.tmp t), as, ts⟩) os T h = sCallV P (aEval T (.tmp t)) (as.toList.map (aEval T)) h (Aft P K d os T) := by
  simp only [sOpK, sOp, sCallV]
  cases aEval T (.tmp t) with
  | bfn f caps => cases f <;> rfl
  | fn f caps => cases f <;> rfl
  | _ => rfl
theorem sOpK_callB (b) (as ts) : sOpK P K d (.call ⟨.builtin b, as, ts⟩) os T h = sEvK P K d os T (bEv P h b ts (as.toList.map (aEval T))) := (Eq.refl _).trans (Eq.refl _)
end
theorem sOp_plain (op : Op) (ho : (match op with | .call _ => false | _ => true) = true) : sOp P op T h next pan = sNext (ev P (aEval T) op h) next := by
  cases op <;> first | rfl | cases ho
theorem sOp_move (x) : sOp P (.move x) T h next pan = next (aEval T x) h := (Eq.refl _).trans (Eq.refl _)
theorem sOp_assign (x) : sOp P (.assign x) T h next pan = next (aEval T x) h := (Eq.refl _).trans (Eq.refl _)
theorem sOp_pick (x y z) : sOp P (.pick x y z) T h next pan = (match ev P (aEval T) (.pick x y z) h with | some (v, h') => next v h' | none => False) := (Eq.refl _).trans (Eq.refl _)
theorem sOp_alloc (x) : sOp P (.alloc x) T h next pan = (match ev P (aEval T) (.alloc x) h with | some (v, h') => next v h' | none => False) := (Eq.refl _).trans (Eq.refl _)
theorem sOp_box (x y) : sOp P (.box x y) T h next pan = (match ev P (aEval T) (.box x y) h with | some (v, h') => next v h' | none => False) := (Eq.refl _).trans (Eq.refl _)
theorem sOp_build (x y) : sOp P (.build x y) T h next pan = (match ev P (aEval T) (.build x y) h with | some (v, h') => next v h' | none => False) := (Eq.refl _).trans (Eq.refl _)
theorem sOp_buildSlice (x y z) : sOp P (.buildSlice x y z) T h next pan = (match ev P (aEval T) (.buildSlice x y z) h with | some (v, h') => next v h' | none => False) := (Eq.refl _).trans (Eq.refl _)
theorem sOp_load (x y) : sOp P (.load x y) T h next pan = (match ev P (aEval T) (.load x y) h with | some (v, h') => next v h' | none => False) := (Eq.refl _).trans (Eq.refl _)
theorem sOp_store (x y z) : sOp P (.store x y z) T h next pan = (match ev P (aEval T) (.store x y z) h with | some (v, h') => next v h' | none => False) := (Eq.refl _).trans (Eq.refl _)
theorem sOp_nilCheck (x) : sOp P (.nilCheck x) T h next pan = (match ev P (aEval T) (.nilCheck x) h with | some (v, h') => next v h' | none => False) := (Eq.refl _).trans (Eq.refl _)
theorem sOp_binOp (a b c d e) : sOp P (.binOp a b c d e) T h next pan = (match ev P (aEval T) (.binOp a b c d e) h with | some (v, h') => next v h' | none => False) := (Eq.refl _).trans (Eq.refl _)
theorem sOp_unOp (a b c) : sOp P (.unOp a b c) T h next pan = (match ev P (aEval T) (.unOp a b c) h with | some (v, h') => next v h' | none => False) := (Eq.refl _).trans (Eq.refl _)
theorem sOp_convert (a b c) : sOp P (.convert a b c) T h next pan = (match ev P (aEval T) (.convert a b c) h with | some (v, h') => next v h' | none => False) := (Eq.refl _).trans (Eq.refl _)
theorem sOp_makeInterface (a b) : sOp P (.makeInterface a b) T h next pan = (match ev P (aEval T) (.makeInterface a b) h with | some (v, h') => next v h' | none => False) := (Eq.refl _).trans (Eq.refl _)
theorem sOp_makeFunc (a b c) : sOp P (.makeFunc a b c) T h next pan = (match ev P (aEval T) (.makeFunc a b c) h with | some (v, h') => next v h' | none => False) := (Eq.refl _).trans (Eq.refl _)
theorem sOp_slice (a b c d e) : sOp P (.slice a b c d e) T h next pan = (match ev P (aEval T) (.slice a b c d e) h with | some (v, h') => next v h' | none => False) := (Eq.refl _).trans (Eq.refl _)
theorem sOp_fieldAddr (a b c) : sOp P (.fieldAddr a b c) T h next pan = (match ev P (aEval T) (.fieldAddr a b c) h with | some (v, h') => next v h' | none => False) := (Eq.refl _).trans (Eq.refl _)
theorem sOp_field (a b c) : sOp P (.field a b c) T h next pan = (match ev P (aEval T) (.field a b c) h with | some (v, h') => next v h' | none => False) := (Eq.refl _).trans (Eq.refl _)
theorem sOp_indexAddr (a b c) : sOp P (.indexAddr a b c) T h next pan = (match ev P (aEval T) (.indexAddr a b c) h with | some (v, h') => next v h' | none => False) := (Eq.refl _).trans (Eq.refl _)
theorem sOp_index (a b c) : sOp P (.index a b c) T h next pan = (match ev P (aEval T) (.index a b c) h with | some (v, h') => next v h' | none => False) := (Eq.refl _).trans (Eq.refl _)
theorem sOp_extract (a b) : sOp P (.extract a b) T h next pan = (match ev P (aEval T) (.extract a b) h with | some (v, h') => next v h' | none => False) := (Eq.refl _).trans (Eq.refl _)
theorem sOp_callF (n : FuncId) (as ts) : sOp P (.call ⟨.value (.func n), as, ts⟩) T h next pan = ACalls P n (as.toList.map (aEval T) ++ []) h fun r h' => match r with
        | .ret v => next v h'
        | .pan v => pan v h' := (Eq.refl _).trans (Eq.refl _)
theorem sOp_callT (t : Tmp) (as ts) : sOp P (.call ⟨.value (.tmp t), as, ts⟩) T h next pan = sCallV P (aEval T (.tmp t)) (as.toList.map (aEval T)) h fun r h' => match r with
        | .ret v => next v h'
        | .pan v => pan v h' := by
  simp only [sOp, sCallV]
  cases aEval T (.tmp t) with
  | bfn f caps => cases f <;> rfl
  | fn f caps => cases f <;> rfl
  | _ => rfl
theorem sOp_callB (b) (as ts) : sOp P (.call ⟨.builtin b, as, ts⟩) T h next pan = sNext (bEv P h b ts (as.toList.map (aEval T))) next := (Eq.refl _).trans (Eq.refl _)
theorem sNext.scongr {r r' : Option (AV × Heap)} (e : r = r') : sNext r next = sNext r' next := by rw [e]
theorem sStep.scongr {g g' : Option Bool} {A B : Prop} (e : g = g') : sStep g A B = sStep g' A B := by rw [e]
theorem sCallV.scongr {fv fv' : AV} {as as' : List AV} {h' : Heap} {K : AEnd → Heap → Prop} (e : fv = fv') (ea : as = as') (eh : h = h') : sCallV P fv as h K = sCallV P fv' as' h' K := by rw [e, ea, eh]
theorem sOps.scongr {l l' : List SOp} {T' : List AV} {h' : Heap} (e : l = l') (eT : T = T') (eh : h = h') : sOps P K l T h = sOps P K l' T' h' := by rw [e, eT, eh]
end
attribute [congr] sCallV.scongr sNext.scongr
attribute [go_sem] sOps_nil
attribute [go_sem] sStepK_t sStepK_f sEvK_some
attribute [go_sem ↓] sOps_nil sOps_cons' sOpK_move sOpK_assign sOpK_alloc sOpK_box sOpK_build sOpK_buildSlice sOpK_load sOpK_store sOpK_nilCheck sOpK_binOp sOpK_unOp sOpK_convert sOpK_makeInterface sOpK_makeFunc sOpK_slice sOpK_fieldAddr sOpK_field sOpK_indexAddr sOpK_index sOpK_extract sOpK_pick sOpK_callF sOpK_callT sOpK_callB Aft_ret Aft_pan sOp_move sOp_assign sOp_pick sOp_alloc sOp_box sOp_build sOp_buildSlice sOp_load sOp_store sOp_nilCheck sOp_binOp sOp_unOp sOp_convert sOp_makeInterface sOp_makeFunc sOp_slice sOp_fieldAddr sOp_field sOp_indexAddr sOp_index sOp_extract sOp_callF sOp_callT sOp_callB
attribute [go_sem] sNext_some sNext_none sCallV_fn List.append_nil
/-! ### eight slots at once -/
theorem set8 {α : Type} (a0 a1 a2 a3 a4 a5 a6 a7 : α) (l : List α) (n : Nat) (x : α) : (a0 :: a1 :: a2 :: a3 :: a4 :: a5 :: a6 :: a7 :: l).set (n + 8) x = a0 :: a1 :: a2 :: a3 :: a4 :: a5 :: a6 :: a7 :: l.set n x := rfl
theorem getD8 {α : Type} (a0 a1 a2 a3 a4 a5 a6 a7 : α) (l : List α) (n : Nat) (d : α) : (a0 :: a1 :: a2 :: a3 :: a4 :: a5 :: a6 :: a7 :: l).getD (n + 8) d = l.getD n d := rfl
theorem getQ8 {α : Type} (a0 a1 a2 a3 a4 a5 a6 a7 : α) (l : List α) (n : Nat) : (a0 :: a1 :: a2 :: a3 :: a4 :: a5 :: a6 :: a7 :: l)[n + 8]? = l[n]? := rfl
end Go.AH
