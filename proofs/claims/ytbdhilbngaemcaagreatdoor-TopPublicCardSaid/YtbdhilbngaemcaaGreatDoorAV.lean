/- Regions by runs; many parts of a body in one run. No condition. -/
import Derived.Test.YtbdhilbngaemcaaGreatDoorAT
import Derived.Test.YtbdhilbngaemcaaGreatDoorAU
set_option linter.unusedVariables false
set_option linter.unusedSimpArgs false
namespace Go.Proofs
open Go Go.AH
set_option maxRecDepth 100000
set_option linter.unusedVariables false
/-! ### more ways to know a call -/
theorem kok_split {E : List KCall} (he : ∀ e ∈ E, KOk e) (m : Nat) {f n esz : Nat} {rest : List AV} {cs : List AV} {ty : TypeId} {wh : Bool} {hr h1 : Heap} {r : AV} (hl : Nat.ble cs.length (n * esz) = true) (hp : Nat.ble 1 esz = true)
    (qa : okRun ((rAll Tryz.prog (IT (spL E)) m).body f (.sl 0 0 n (some n) :: rest) (some (.row cs ty wh) :: hr)) r h1 = true)
    (qb : okRun ((rAll Tryz.prog (IT (spL E)) m).body f (.gsl 0 n esz :: rest) (some (.row (cs ++ List.replicate esz .unk) ty wh) :: hr)) r h1 = true) :
    KOk ⟨f, .gsl 0 n esz :: rest, some (.row cs ty wh) :: hr, r, h1⟩ :=
  ACalls.split (Nat.le_of_ble_eq_true hl) (Nat.le_of_ble_eq_true hp) (run_call (IT_ok (spL_ok he)) m qa) (run_call (IT_ok (spL_ok he)) m qb)
noncomputable def allN (g : Int → Bool) (lo : Int) : Nat → Bool := fun k => Nat.rec true (fun i r => bif g (lo + i) then r else false) k
theorem allN_ok {g : Int → Bool} {lo : Int} : ∀ {k : Nat}, allN g lo k = true → ∀ x : Int, lo ≤ x → x < lo + k → g x = true
  | 0, _, x, h1, h2 => by omega
  | k + 1, h, x, h1, h2 => by
    have h : (bif g (lo + (k : Int)) then allN g lo k else false) = true := h
    cases hb : g (lo + (k : Int)) with
    | false => rw [hb] at h; cases h
    | true =>
      rw [hb] at h
      rcases (show x < lo + k ∨ lo + k ≤ x by omega) with q | q
      · exact allN_ok h x h1 q
      · rw [show x = lo + k by omega]; exact hb
theorem kok_enum {E : List KCall} (he : ∀ e ∈ E, KOk e) (m : Nat) {f : Nat} {x : AV} {k : IntKind} {e : List Int} {h h1 : Heap} {r : AV}
    (q : allN (fun n => okRun ((rAll Tryz.prog (IT (spL E)) m).body f [x, .int k n] h) r h1) (loV e) (hiV e - loV e + 1).toNat = true) : KOk ⟨f, [x, .lin k e], h, r, h1⟩ :=
  ACalls.enum fun n h1 h2 => run_call (IT_ok (spL_ok he)) m (allN_ok q n h1 (by omega))
/-! ### a region of a function's body -/
def leUB : List AV → List AV → Bool
  | [], [] => true
  | x0 :: l0, x :: l => bif (match x0 with | .unk => true | x0 => eqAV x0 x) then leUB l0 l else false
  | _, _ => false
theorem leUB_ok : ∀ {l0 l : List AV}, leUB l0 l = true → LeU l0 l
  | [], [], _ => trivial
  | [], _ :: _, h => by cases h
  | _ :: _, [], h => by cases h
  | x0 :: l0, x :: l, h => by
    unfold leUB at h
    cases hb : (match x0 with | .unk => true | x0 => eqAV x0 x) with
    | false => rw [hb] at h; cases h
    | true =>
      rw [hb] at h
      refine ⟨?_, leUB_ok h⟩
      split
      · trivial
      · split at hb
        · trivial
        · exact eqAV_eq hb
noncomputable def okOut (e : Option (TT × Heap)) (T : List AV) (h : Heap) : Bool := match e with
  | some o => bif leUB T (toL o.1) then eqH o.2 h else false
  | none => false
def opsC : Code → Array Oper
  | .region _ ops _ => ops
  | _ => #[]
def fstC : Code → Code
  | .seq a _ => a
  | c => c
def sndC : Code → Code
  | .seq _ b => b
  | c => c
def thenC : Code → Code
  | .cond _ a _ => a
  | c => c
def isReg : Code → Bool
  | .region _ _ d => !d
  | _ => false
def isSeq : Code → Bool
  | .seq _ _ => true
  | _ => false
noncomputable def okReg (c : Code) (E : List KCall) (T : List AV) (h : Heap) (T1 : List AV) (h1 : Heap) : Bool :=
  bif isReg c then okOut (rOps Tryz.prog (rAll Tryz.prog (IT (spL E)) 3000).call (slim (opsC c).toList) (targs T 0 (troot T.length)) h) T1 h1 else false
section
variable {V : Val} {n0 : Nat} {T : List AV} {h : Heap}
theorem aWV_forget {c : Code} {T0 : List AV} {K : AExit → List AV → Heap → Prop} (hv : LeU T0 T) (a : aWV Tryz.prog V n0 c T0 h K) : aWV Tryz.prog V n0 c T h K := by
  intro F β w act D hV hn s r hd
  have k : Weak n0 (fun i => i) T0 h T h := Weak.forget hv hn
  refine wp_mono (a F β w act D hV k.len (k.st s) (k.vals.rel k.via r) hd) ?_
  rintro e a' w' ⟨x, β', T', h', hk, g, he, hr, hd'⟩
  exact ⟨x, β', T', h', hk, ⟨g.st, g.step.weaken fun b => k.own, g.len, fun id hid => (g.β id hid).trans (by rw [k.fix id hid])⟩, he, hr, hd'⟩
theorem aWV_same {c : Code} {T' : List AV} {h' : Heap} {K : AExit → List AV → Heap → Prop}
    (hc : ∀ (F : Fr) (β : Nat → Nat) (w : World), F.V = V → ctx F β w h' = ctx F β w h) (hn : h'.length = h.length) (ho : ∀ β, Own β h' = Own β h)
    (hs : ∀ (F : Fr) (β : Nat → Nat) (w : World), F.V = V → St F β w h → St F β w h') (ht : ∀ (F : Fr) (β : Nat → Nat) (w : World) vs, F.V = V → RelL (ctx F β w h) T vs → RelL (ctx F β w h) T' vs)
    (a : aWV Tryz.prog V n0 c T' h' K) : aWV Tryz.prog V n0 c T h K := by
  intro F β w act D hV hn0 s r hd
  have := a F β w act D hV (by rw [hn]; exact hn0) (hs F β w hV s) (by rw [hc F β w hV]; exact ht F β w _ hV r) hd
  refine wp_mono this ?_
  rintro e a' w' ⟨x, β', T', h2, q, g, he, hr, hd'⟩
  exact ⟨x, β', T', h2, q, ⟨g.st, by rw [← ho]; exact g.step, g.len, g.β⟩, he, hr, hd'⟩
theorem aWV_sb {c : Code} {s : Nat → List Int} (hs : ∀ i, linV V.ρ (s i) = V.ρ i) {K : AExit → List AV → Heap → Prop} (a : aWV Tryz.prog V n0 c (sbL s T) (sbH s h) K) : aWV Tryz.prog V n0 c T h K :=
  aWV_same (fun F β w _ => ctx_sb s F β w h) (sbH_length s h) (fun β => funext fun b => propext (own_sb s β h b)) (fun F β w e st => (St.sb (by rw [e]; exact hs)).2 st)
    (fun F β w vs e r => (RelL.sb (c := ctx F β w h) (by show ∀ i, linV F.V.ρ (s i) = F.V.ρ i; rw [e]; exact hs) T vs).2 r) a
theorem aWV_bs {c : Code} {s : Nat → List Int} (hs : ∀ i, linV V.ρ (s i) = V.ρ i) {K : AExit → List AV → Heap → Prop} (a : aWV Tryz.prog V n0 c T h K) : aWV Tryz.prog V n0 c (sbL s T) (sbH s h) K :=
  aWV_same (fun F β w _ => (ctx_sb s F β w h).symm) (sbH_length s h).symm (fun β => (funext fun b => propext (own_sb s β h b)).symm) (fun F β w e st => (St.sb (by rw [e]; exact hs)).1 st)
    (fun F β w vs e r => by rw [ctx_sb] at r ⊢; exact (RelL.sb (c := ctx F β w h) (by show ∀ i, linV F.V.ρ (s i) = F.V.ρ i; rw [e]; exact hs) T vs).1 r) a
/-- A region, by a run, and what stands behind it. -/
theorem aWV_reg {c : Code} {E : List KCall} {T1 : List AV} {h1 : Heap} {K : AExit → List AV → Heap → Prop} (hc : isSeq c = true) (he : ∀ e ∈ E, KOk e) (hr : okReg (fstC c) E T h T1 h1 = true)
    (a : aWV Tryz.prog V n0 (sndC c) T1 h1 K) : aWV Tryz.prog V n0 c T h K := by
  cases c with
  | seq x y =>
    unfold okReg at hr
    cases x with
    | region id ops d =>
      cases d with
      | true => cases hr
      | false =>
        have hr : okOut (rOps Tryz.prog (rAll Tryz.prog (IT (spL E)) 3000).call (slim ops.toList) (targs T 0 (troot T.length)) h) T1 h1 = true := hr
        refine aWV_seq (aWV_mono (aWV_of (aW_region (K := fun e T' h' => e = .normal ∧ LeU T1 T' ∧ h' = h1) (sOps_aOps Tryz.prog ops _ _ T h ?_))) ?_)
        · obtain ⟨q1, q2⟩ := tstart_spec T.length T (Nat.le_refl _)
          rw [Nat.sub_self, List.replicate_zero, List.append_nil] at q2
          unfold okOut at hr
          split at hr <;> try (cases hr; done)
          rename_i o ho
          obtain ⟨t', h'⟩ := o
          have e1 : leUB T1 (toL t') = true ∧ eqH h' h1 = true := by
            cases hx : leUB T1 (toL t') with
            | true => rw [hx] at hr; exact ⟨rfl, hr⟩
            | false => rw [hx] at hr; cases hr
          rw [← q2]
          exact rOps_sound (run_ok (IT_ok (spL_ok he)) 3000).call q1 ho fun _ => ⟨rfl, leUB_ok e1.1, eqH_eq e1.2⟩
        · rintro e T' h' _ ⟨rfl, q1, rfl⟩
          exact aWV_forget q1 a
    | _ => cases hr
  | _ => cases hc
end
noncomputable def body3 : Code := Tryz.f3.body.getD .skip
/-- Slots by number. -/
def tf (l : List (Nat × AV)) : List AV := (List.range 152).map fun i => match l.find? fun x => Nat.beq x.1 i with
  | some x => x.2
  | none => .unk
abbrev uB (x : Int) : AV := .int .u8 x
abbrev nI (x : Int) : AV := .int .i64 x
end Go.Proofs
namespace Go.Proofs
open Go Go.AH
set_option maxRecDepth 100000
set_option linter.unusedVariables false
/-! ### many parts of a function's body in one run -/
def dropSeq : Nat → Code → Code
  | 0, c => c
  | n + 1, c => dropSeq n (sndC c)
noncomputable def runSeq (ih : IS) (f : FuncId) : Nat → Code → TT → Heap → (TT → Heap → Option OutH) → Option OutH
  | 0, _, t, h, k => k t h
  | n + 1, c, t, h, k => match c with
    | .seq a b => ih.code f a t h fun e t' h' => match e with
      | .normal => runSeq ih f n b t' h' k
      | _ => none
    | _ => none
section
variable {V : Val} {n0 : Nat} {K : AExit → List AV → Heap → Prop}
theorem plOk_seq {I : Itp} {f : FuncId} {a b : Code} (h : plOk I f (.seq a b) = true) : plOk I f a = true ∧ plOk I f b = true := by
  unfold plOk at h
  simpa using h
theorem plOk_drop {I : Itp} {f : FuncId} : ∀ (n : Nat) {c : Code}, plOk I f c = true → plOk I f (dropSeq n c) = true
  | 0, c, h => h
  | n + 1, c, h => by
    refine plOk_drop n ?_
    unfold sndC
    split
    · exact (plOk_seq h).2
    · exact h
theorem aWV_runSeq {I : Itp} {ih : IS} (hi : CodeOk Tryz.prog I ih) {f : FuncId} {k : TT → Heap → Option OutH} {R : OutH} : ∀ (n : Nat) {c : Code} {t : TT} {h : Heap}, plOk I f c = true → Root t → runSeq ih f n c t h k = some R →
    (∀ t' h', Root t' → k t' h' = some R → aWV Tryz.prog V n0 (dropSeq n c) (toL t') h' K) → aWV Tryz.prog V n0 c (toL t) h K
  | 0, c, t, h, _, ht, hr, q => q t h ht hr
  | n + 1, c, t, h, hp, ht, hr, q => by
    unfold runSeq at hr
    split at hr <;> try (cases hr; done)
    rename_i a b
    have hp2 := plOk_seq hp
    refine aWV_seq (aWV_mono (aWV_of (hi f a t h _ R n0 hp2.1 ht hr)) ?_)
    rintro e T' h' _ ⟨t', ht', rfl, hk⟩
    cases e with
    | normal => exact aWV_runSeq hi n hp2.2 ht' hk q
    | exit i => cases hk
    | ret => cases hk
    | pan v => cases hk
theorem aWV_weak {c : Code} {m : Nat → Nat} {T0 T : List AV} {h0 h : Heap} (k : Weak n0 m T0 h0 T h) (a : aWV Tryz.prog V n0 c T0 h0 K) : aWV Tryz.prog V n0 c T h K := by
  intro F β w act D hV hn s r hd
  refine wp_mono (a F (fun id => β (m id)) w act D hV k.len (k.st s) (k.vals.rel k.via r) hd) ?_
  rintro e a' w' ⟨x, β', T', h', hk, g, he, hr, hd'⟩
  exact ⟨x, β', T', h', hk, ⟨g.st, g.step.weaken fun b => k.own, g.len, fun id hid => (g.β id hid).trans (by rw [k.fix id hid])⟩, he, hr, hd'⟩
/-- The slots that are kept. -/
def keepM : List AV → List AV → List AV
  | x1 :: l1, x2 :: l2 => (match x1 with | .unk => .unk | _ => x2) :: keepM l1 l2
  | _, l2 => l2
theorem keepM_le {m : Nat → Nat} : ∀ {T1 T2 : List AV}, renL m T1 = keepM T1 T2 → LeL m T1 T2
  | [], [], _ => trivial
  | [], _ :: _, h => by simp [renL, keepM] at h
  | _ :: _, [], h => by simp [renL, keepM] at h
  | x1 :: l1, x2 :: l2, h => by
    simp only [renL, keepM, List.cons.injEq] at h
    refine ⟨?_, keepM_le h.2⟩
    unfold LeV
    split
    · trivial
    · rename_i hx
      have := h.1
      split at this
      · exact absurd rfl hx
      · exact this
def gcL (T : List AV) (h : Heap) : Option (List AV × Heap) :=
  let ks := reach (h.length + 1) h (addNew (idsL T []) []) 0
  match renOL ks T with
  | some T1 => match subH ks h ks with
    | some h1 => bif nodupB ks then some (T1, h1) else none
    | none => none
  | none => none
theorem gcL_weak {T T1 T2 : List AV} {h h1 : Heap} (hg : gcL T h = some (T1, h1)) (hT : T = keepM T1 T2) : ∃ m, Weak 0 m T1 h1 T2 h := by
  unfold gcL at hg
  simp only at hg
  generalize reach (h.length + 1) h (addNew (idsL T []) []) 0 = ks at hg
  split at hg <;> try (cases hg; done)
  rename_i T1' hr'
  split at hg <;> try (cases hg; done)
  rename_i h1' hh
  cases nd : nodupB ks with
  | false => rw [nd] at hg; cases hg
  | true =>
    rw [nd] at hg
    simp only [cond_true, Option.some.injEq, Prod.mk.injEq] at hg
    obtain ⟨rfl, rfl⟩ := hg
    have hm : ∀ p i, ks[p]? = some i → pf ks h.length p = i := by
      intro p i hp
      unfold pf
      rw [List.getD, hp]
      rfl
    refine ⟨_, Weak.lit ks (keepM_le ?_) (subH_keeps hm hh) (nodupB_nodup nd) (List.nil_prefix)⟩
    rw [renOL_ren hm hr', hT]
noncomputable def okSeq (a n : Nat) (E : List KCall) (T : List AV) (h : Heap) (T1 : List AV) (h1 : Heap) : Bool :=
  match runSeq (rAll Tryz.prog (IT (spL E)) 3000) 3 n (dropSeq a body3) (targs T 0 (troot T.length)) h (fun t h => some (.tup (toL t), h)) with
  | some (.tup T2, h2) => (match gcL (keepM T1 T2) h2 with
    | some (T3, h3) => bif eqAL T3 T1 then eqH h3 h1 else false
    | none => false)
  | _ => false
theorem aWV_okSeq {a n : Nat} {E : List KCall} {T T1 : List AV} {h h1 : Heap} (he : ∀ e ∈ E, KOk e) (hr : okSeq a n E T h T1 h1 = true) (k : aWV Tryz.prog V 0 (dropSeq n (dropSeq a body3)) T1 h1 K) : aWV Tryz.prog V 0 (dropSeq a body3) T h K := by
  unfold okSeq at hr
  split at hr <;> try (cases hr; done)
  rename_i T2 h2 hrun
  split at hr <;> try (cases hr; done)
  rename_i T3 h3 hg
  cases e1 : eqAL T3 T1 with
  | false => rw [e1] at hr; cases hr
  | true =>
    rw [e1] at hr
    have e1 := eqAL_eq e1
    have e2 := eqH_eq hr
    subst e1 e2
    have ok := IT_ok (spL_ok he)
    obtain ⟨q1, q2⟩ := tstart_spec T.length T (Nat.le_refl _)
    rw [Nat.sub_self, List.replicate_zero, List.append_nil] at q2
    rw [← q2]
    have hp : plOk (IT (spL E)) 3 body3 = true := ok.plan 3 Tryz.f3 body3 Tryz.func3 (by kernel_rfl)
    refine aWV_runSeq (run_ok ok 3000).code n (plOk_drop a hp) q1 hrun ?_
    intro t' h' ht' hk
    simp only [Option.some.injEq, Prod.mk.injEq, AV.tup.injEq] at hk
    obtain ⟨rfl, rfl⟩ := hk
    obtain ⟨m, w⟩ := gcL_weak hg rfl
    exact aWV_weak w k
end
end Go.Proofs
