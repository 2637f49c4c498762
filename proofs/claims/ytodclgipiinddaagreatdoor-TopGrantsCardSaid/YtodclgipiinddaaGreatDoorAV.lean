/- Regions by runs; the age and the ticks by their digits; Around; the start of TopGrants. No condition. -/
import Derived.Test.YtodclgipiinddaaGreatDoorAT
import Derived.Test.YtodclgipiinddaaGreatDoorAU
set_option linter.unusedVariables false
set_option linter.unusedSimpArgs false
namespace Go.Proofs
open Go Go.AH
set_option maxRecDepth 100000
set_option linter.unusedVariables false
/-! ### more ways to know a call -/
theorem kok_split {E : List KCall} (he : ∀ e ∈ E, KOk e) (m : Nat) {f n esz : Nat} {rest : List AV} {cs : List AV} {ty : TypeId} {wh : Bool} {hr h1 : Heap} {r : AV} (hl : Nat.ble cs.length (n * esz) = true) (hp : Nat.ble 1 esz = true)
    (qa : okRun ((rAll Tryz.prog (IT (spL E)) m).body f (.sl 0 0 n (some n) :: rest) (some (.row cs ty wh) :: hr)) r h1 = true)
    (qb : okRun ((rAll Tryz.prog (IT (spL E)) m).body f (.gsl 0 n esz :: rest) (some (.row (cs ++ List.replicate esz .unk) ty wh) :: hr)) r h1 = true) :
    KOk ⟨f, .gsl 0 n esz :: rest, some (.row cs ty wh) :: hr, r, h1⟩ :=
  ACalls.split (Nat.le_of_ble_eq_true hl) (Nat.le_of_ble_eq_true hp) (run_call (IT_ok (spL_ok he)) m qa) (run_call (IT_ok (spL_ok he)) m qb)
noncomputable def allN (g : Int → Bool) (lo : Int) : Nat → Bool := fun k => Nat.rec true (fun i r => bif g (lo + i) then r else false) k
theorem allN_ok {g : Int → Bool} {lo : Int} : ∀ {k : Nat}, allN g lo k = true → ∀ x : Int, lo ≤ x → x < lo + k → g x = true
  | 0, _, x, h1, h2 => by omega
  | k + 1, h, x, h1, h2 => by
    have h : (bif g (lo + (k : Int)) then allN g lo k else false) = true := h
    cases hb : g (lo + (k : Int)) with
    | false => rw [hb] at h; cases h
    | true =>
      rw [hb] at h
      rcases (show x < lo + k ∨ lo + k ≤ x by omega) with q | q
      · exact allN_ok h x h1 q
      · rw [show x = lo + k by omega]; exact hb
theorem kok_enum {E : List KCall} (he : ∀ e ∈ E, KOk e) (m : Nat) {f : Nat} {x : AV} {k : IntKind} {e : List Int} {h h1 : Heap} {r : AV}
    (q : allN (fun n => okRun ((rAll Tryz.prog (IT (spL E)) m).body f [x, .int k n] h) r h1) (loV e) (hiV e - loV e + 1).toNat = true) : KOk ⟨f, [x, .lin k e], h, r, h1⟩ :=
  ACalls.enum fun n h1 h2 => run_call (IT_ok (spL_ok he)) m (allN_ok q n h1 (by omega))
/-! ### a region of a function's body -/
def leUB : List AV → List AV → Bool
  | [], [] => true
  | x0 :: l0, x :: l => bif (match x0 with | .unk => true | x0 => eqAV x0 x) then leUB l0 l else false
  | _, _ => false
theorem leUB_ok : ∀ {l0 l : List AV}, leUB l0 l = true → LeU l0 l
  | [], [], _ => trivial
  | [], _ :: _, h => by cases h
  | _ :: _, [], h => by cases h
  | x0 :: l0, x :: l, h => by
    unfold leUB at h
    cases hb : (match x0 with | .unk => true | x0 => eqAV x0 x) with
    | false => rw [hb] at h; cases h
    | true =>
      rw [hb] at h
      refine ⟨?_, leUB_ok h⟩
      split
      · trivial
      · split at hb
        · trivial
        · exact eqAV_eq hb
noncomputable def okOut (e : Option (TT × Heap)) (T : List AV) (h : Heap) : Bool := match e with
  | some o => bif leUB T (toL o.1) then eqH o.2 h else false
  | none => false
def opsC : Code → Array Oper
  | .region _ ops _ => ops
  | _ => #[]
def fstC : Code → Code
  | .seq a _ => a
  | c => c
def sndC : Code → Code
  | .seq _ b => b
  | c => c
def thenC : Code → Code
  | .cond _ a _ => a
  | c => c
def isReg : Code → Bool
  | .region _ _ d => !d
  | _ => false
def isSeq : Code → Bool
  | .seq _ _ => true
  | _ => false
noncomputable def okReg (c : Code) (E : List KCall) (T : List AV) (h : Heap) (T1 : List AV) (h1 : Heap) : Bool :=
  bif isReg c then okOut (rOps Tryz.prog (rAll Tryz.prog (IT (spL E)) 3000).call (slim (opsC c).toList) (targs T 0 (troot T.length)) h) T1 h1 else false
section
variable {V : Val} {n0 : Nat} {T : List AV} {h : Heap}
theorem aWV_forget {c : Code} {T0 : List AV} {K : AExit → List AV → Heap → Prop} (hv : LeU T0 T) (a : aWV Tryz.prog V n0 c T0 h K) : aWV Tryz.prog V n0 c T h K := by
  intro F β w act D hV hn s r hd
  have k : Weak n0 (fun i => i) T0 h T h := Weak.forget hv hn
  refine wp_mono (a F β w act D hV k.len (k.st s) (k.vals.rel k.via r) hd) ?_
  rintro e a' w' ⟨x, β', T', h', hk, g, he, hr, hd'⟩
  exact ⟨x, β', T', h', hk, ⟨g.st, g.step.weaken fun b => k.own, g.len, fun id hid => (g.β id hid).trans (by rw [k.fix id hid])⟩, he, hr, hd'⟩
theorem aWV_same {c : Code} {T' : List AV} {h' : Heap} {K : AExit → List AV → Heap → Prop}
    (hc : ∀ (F : Fr) (β : Nat → Nat) (w : World), F.V = V → ctx F β w h' = ctx F β w h) (hn : h'.length = h.length) (ho : ∀ β, Own β h' = Own β h)
    (hs : ∀ (F : Fr) (β : Nat → Nat) (w : World), F.V = V → St F β w h → St F β w h') (ht : ∀ (F : Fr) (β : Nat → Nat) (w : World) vs, F.V = V → RelL (ctx F β w h) T vs → RelL (ctx F β w h) T' vs)
    (a : aWV Tryz.prog V n0 c T' h' K) : aWV Tryz.prog V n0 c T h K := by
  intro F β w act D hV hn0 s r hd
  have := a F β w act D hV (by rw [hn]; exact hn0) (hs F β w hV s) (by rw [hc F β w hV]; exact ht F β w _ hV r) hd
  refine wp_mono this ?_
  rintro e a' w' ⟨x, β', T', h2, q, g, he, hr, hd'⟩
  exact ⟨x, β', T', h2, q, ⟨g.st, by rw [← ho]; exact g.step, g.len, g.β⟩, he, hr, hd'⟩
theorem aWV_sb {c : Code} {s : Nat → List Int} (hs : ∀ i, linV V.ρ (s i) = V.ρ i) {K : AExit → List AV → Heap → Prop} (a : aWV Tryz.prog V n0 c (sbL s T) (sbH s h) K) : aWV Tryz.prog V n0 c T h K :=
  aWV_same (fun F β w _ => ctx_sb s F β w h) (sbH_length s h) (fun β => funext fun b => propext (own_sb s β h b)) (fun F β w e st => (St.sb (by rw [e]; exact hs)).2 st)
    (fun F β w vs e r => (RelL.sb (c := ctx F β w h) (by show ∀ i, linV F.V.ρ (s i) = F.V.ρ i; rw [e]; exact hs) T vs).2 r) a
theorem aWV_bs {c : Code} {s : Nat → List Int} (hs : ∀ i, linV V.ρ (s i) = V.ρ i) {K : AExit → List AV → Heap → Prop} (a : aWV Tryz.prog V n0 c T h K) : aWV Tryz.prog V n0 c (sbL s T) (sbH s h) K :=
  aWV_same (fun F β w _ => (ctx_sb s F β w h).symm) (sbH_length s h).symm (fun β => (funext fun b => propext (own_sb s β h b)).symm) (fun F β w e st => (St.sb (by rw [e]; exact hs)).1 st)
    (fun F β w vs e r => by rw [ctx_sb] at r ⊢; exact (RelL.sb (c := ctx F β w h) (by show ∀ i, linV F.V.ρ (s i) = F.V.ρ i; rw [e]; exact hs) T vs).1 r) a
/-- A region, by a run, and what stands behind it. -/
theorem aWV_reg {c : Code} {E : List KCall} {T1 : List AV} {h1 : Heap} {K : AExit → List AV → Heap → Prop} (hc : isSeq c = true) (he : ∀ e ∈ E, KOk e) (hr : okReg (fstC c) E T h T1 h1 = true)
    (a : aWV Tryz.prog V n0 (sndC c) T1 h1 K) : aWV Tryz.prog V n0 c T h K := by
  cases c with
  | seq x y =>
    unfold okReg at hr
    cases x with
    | region id ops d =>
      cases d with
      | true => cases hr
      | false =>
        have hr : okOut (rOps Tryz.prog (rAll Tryz.prog (IT (spL E)) 3000).call (slim ops.toList) (targs T 0 (troot T.length)) h) T1 h1 = true := hr
        refine aWV_seq (aWV_mono (aWV_of (aW_region (K := fun e T' h' => e = .normal ∧ LeU T1 T' ∧ h' = h1) (sOps_aOps Tryz.prog ops _ _ T h ?_))) ?_)
        · obtain ⟨q1, q2⟩ := tstart_spec T.length T (Nat.le_refl _)
          rw [Nat.sub_self, List.replicate_zero, List.append_nil] at q2
          unfold okOut at hr
          split at hr <;> try (cases hr; done)
          rename_i o ho
          obtain ⟨t', h'⟩ := o
          have e1 : leUB T1 (toL t') = true ∧ eqH h' h1 = true := by
            cases hx : leUB T1 (toL t') with
            | true => rw [hx] at hr; exact ⟨rfl, hr⟩
            | false => rw [hx] at hr; cases hr
          rw [← q2]
          exact rOps_sound (run_ok (IT_ok (spL_ok he)) 3000).call q1 ho fun _ => ⟨rfl, leUB_ok e1.1, eqH_eq e1.2⟩
        · rintro e T' h' _ ⟨rfl, q1, rfl⟩
          exact aWV_forget q1 a
    | _ => cases hr
  | _ => cases hc
end
noncomputable def body3 : Code := Tryz.f3.body.getD .skip
/-- Slots by number. -/
def tf (l : List (Nat × AV)) : List AV := (List.range 66).map fun i => match l.find? fun x => Nat.beq x.1 i with
  | some x => x.2
  | none => .unk
/-! ### other names for the age, and for the ticks -/
def sOne (k : Nat) (e : List Int) : Nat → List Int := fun i => bif Nat.beq i k then e else unitL i
/-- The age, less one, by its digits. -/
def sA (c : Nat) : Nat → List Int := sOne 4 (match c with
  | 0 => [0, 0, 0, 0, 1]
  | 1 => [9, 1, 0, 0, 10]
  | 2 => [99, 10, 1, 0, 100]
  | 3 => [999, 100, 10, 1, 0, 0, 0, 0, 0, 1000]
  | 4 => [6999, 0, 10, 1, 0, 0, 0, 0, 0, 0, 100]
  | _ => [7199])
/-- The ticks by their digits. -/
def sN (c : Nat) : Nat → List Int := sOne 5 (match c with
  | 0 => [0, 0, 0, 0, 0, 0, 0, 0, 0, 0, 0, 1]
  | 1 => [10, 0, 0, 0, 0, 0, 0, 0, 0, 0, 0, 1, 0, 0, 10]
  | 2 => [100, 0, 0, 0, 0, 0, 0, 0, 0, 0, 0, 10, 1, 0, 100]
  | _ => [1000, 0, 0, 0, 0, 0, 0, 0, 0, 0, 0, 100, 10, 1, 1000])
/-- The grant holds yet; it holds no more. -/
def sCt : Nat → List Int := sOne 4 [0, 0, 0, 0, 0, 0, 1, 1]
def sCf : Nat → List Int := sOne 5 [1, 0, 0, 0, 0, 1, 0, 0, 1]
abbrev uB (x : Int) : AV := .int .u8 x
abbrev nI (x : Int) : AV := .int .i64 x
end Go.Proofs
namespace Go.Proofs
open Go Go.AH
set_option linter.unusedVariables false
set_option linter.unusedSimpArgs false
theorem sOne_val {ρ : Nat → Int} {k : Nat} {e : List Int} (h : linV ρ e = ρ k) : ∀ i, linV ρ (sOne k e i) = ρ i := by
  intro i
  unfold sOne
  cases hb : Nat.beq i k with
  | false => exact linV_unit ρ i
  | true => rw [Nat.eq_of_beq_eq_true hb]; exact h
theorem ageParts (a : Int) (h1 : 1 ≤ a) (h2 : a ≤ 7200) : ∃ d0 d1 d2 l k h : Int, (0 ≤ d0 ∧ d0 ≤ 9) ∧ (0 ≤ d1 ∧ d1 ≤ 9) ∧ (0 ≤ d2 ∧ d2 ≤ 9) ∧ (0 ≤ l ∧ l ≤ 8) ∧ (0 ≤ k ∧ k ≤ 5) ∧ (0 ≤ h ∧ h ≤ 1) ∧
    (a - 1 = l ∨ a - 1 = 9 + d0 + 10 * l ∨ a - 1 = 99 + 10 * d0 + d1 + 100 * l ∨ a - 1 = 999 + 100 * d0 + 10 * d1 + d2 + 1000 * k ∨ a - 1 = 6999 + 10 * d1 + d2 + 100 * h ∨ a - 1 = 7199) := by
  by_cases q1 : a < 10
  · exact ⟨0, 0, 0, a - 1, 0, 0, by omega, by omega, by omega, by omega, by omega, by omega, .inl rfl⟩
  by_cases q2 : a < 100
  · exact ⟨a % 10, 0, 0, a / 10 - 1, 0, 0, by omega, by omega, by omega, by omega, by omega, by omega, .inr (.inl (by omega))⟩
  by_cases q3 : a < 1000
  · exact ⟨a / 10 % 10, a % 10, 0, a / 100 - 1, 0, 0, by omega, by omega, by omega, by omega, by omega, by omega, .inr (.inr (.inl (by omega)))⟩
  by_cases q4 : a < 7000
  · exact ⟨a / 100 % 10, a / 10 % 10, a % 10, 0, a / 1000 - 1, 0, by omega, by omega, by omega, by omega, by omega, by omega, .inr (.inr (.inr (.inl (by omega))))⟩
  by_cases q5 : a < 7200
  · exact ⟨0, a / 10 % 10, a % 10, 0, 0, a / 100 - 70, by omega, by omega, by omega, by omega, by omega, by omega, .inr (.inr (.inr (.inr (.inl (by omega)))))⟩
  · exact ⟨0, 0, 0, 0, 0, 0, by omega, by omega, by omega, by omega, by omega, by omega, .inr (.inr (.inr (.inr (.inr (by omega)))))⟩
theorem tickParts (n : Int) (h1 : 0 ≤ n) (h2 : n ≤ 8000) : ∃ d0 d1 d2 l : Int, (0 ≤ d0 ∧ d0 ≤ 9) ∧ (0 ≤ d1 ∧ d1 ≤ 9) ∧ (0 ≤ d2 ∧ d2 ≤ 9) ∧ (0 ≤ l ∧ l ≤ 8) ∧
    (n = d0 ∨ n = 10 + d0 + 10 * l ∨ n = 100 + 10 * d0 + d1 + 100 * l ∨ n = 1000 + 100 * d0 + 10 * d1 + d2 + 1000 * l) := by
  by_cases q1 : n < 10
  · exact ⟨n, 0, 0, 0, by omega, by omega, by omega, by omega, .inl rfl⟩
  by_cases q2 : n < 100
  · exact ⟨n % 10, 0, 0, n / 10 - 1, by omega, by omega, by omega, by omega, .inr (.inl (by omega))⟩
  by_cases q3 : n < 1000
  · exact ⟨n / 10 % 10, n % 10, 0, n / 100 - 1, by omega, by omega, by omega, by omega, .inr (.inr (.inl (by omega)))⟩
  · exact ⟨n / 100 % 10, n / 10 % 10, n % 10, n / 1000 - 1, by omega, by omega, by omega, by omega, .inr (.inr (.inr (by omega)))⟩
/-- Values of the names for an age and a number of ticks. -/
theorem vals (a n : Int) (ha : 1 ≤ a) (ha2 : a ≤ 7200) (hn : 0 ≤ n) (hn2 : n ≤ 8000) : ∃ V : Val, V.ρ 4 = a - 1 ∧ V.ρ 5 = n ∧
    (∃ c, c < 6 ∧ ∀ i, linV V.ρ (sA c i) = V.ρ i) ∧ (∃ c, c < 4 ∧ ∀ i, linV V.ρ (sN c i) = V.ρ i) ∧ ((∀ i, linV V.ρ (sCt i) = V.ρ i) ∨ (∀ i, linV V.ρ (sCf i) = V.ρ i)) := by
  obtain ⟨d0, d1, d2, l, k, h, p0, p1, p2, p3, p4, p5, pa⟩ := ageParts a ha ha2
  obtain ⟨e0, e1, e2, m, q0, q1, q2, q3, pn⟩ := tickParts n hn hn2
  obtain ⟨x, y, hx, hy, hxy⟩ : ∃ x y : Int, (0 ≤ x ∧ x ≤ 7199) ∧ (0 ≤ y ∧ y ≤ 7999) ∧ (a - 1 = n + x ∨ n = 1 + (a - 1) + y) := by
    by_cases c : n < a
    · exact ⟨a - 1 - n, 0, by omega, by omega, .inl (by omega)⟩
    · exact ⟨0, n - a, by omega, by omega, .inr (by omega)⟩
  have ok : okVals 0 [d0, d1, d2, l, a - 1, n, x, y, k, h, e0, e1, e2, m] := by
    refine ⟨p0, p1, p2, p3, ⟨by omega, ?_⟩, ⟨hn, ?_⟩, hx, hy, p4, p5, q0, q1, q2, q3, trivial⟩
    · show a - 1 ≤ 7199; omega
    · show n ≤ 8000; omega
  refine ⟨mkVal _ fun i v hv => by have := okVals_get ok i v hv; rwa [Nat.zero_add] at this, rfl, rfl, ?_, ?_, ?_⟩
  · rcases pa with q | q | q | q | q | q
    · refine ⟨0, by omega, sOne_val ?_⟩
      show linV (valL _) _ = a - 1
      rw [q]; simp [linV, linS, valL]
    · refine ⟨1, by omega, sOne_val ?_⟩
      show linV (valL _) _ = a - 1
      rw [q]; simp [linV, linS, valL]; omega
    · refine ⟨2, by omega, sOne_val ?_⟩
      show linV (valL _) _ = a - 1
      rw [q]; simp [linV, linS, valL]; omega
    · refine ⟨3, by omega, sOne_val ?_⟩
      show linV (valL _) _ = a - 1
      rw [q]; simp [linV, linS, valL]; omega
    · refine ⟨4, by omega, sOne_val ?_⟩
      show linV (valL _) _ = a - 1
      rw [q]; simp [linV, linS, valL]; omega
    · refine ⟨5, by omega, sOne_val ?_⟩
      show linV (valL _) _ = a - 1
      rw [q]; simp [linV, linS, valL]
  · rcases pn with q | q | q | q
    · refine ⟨0, by omega, sOne_val ?_⟩
      show linV (valL _) _ = n
      simp [linV, linS, valL]; omega
    · refine ⟨1, by omega, sOne_val ?_⟩
      show linV (valL _) _ = n
      simp [linV, linS, valL]; omega
    · refine ⟨2, by omega, sOne_val ?_⟩
      show linV (valL _) _ = n
      simp [linV, linS, valL]; omega
    · refine ⟨3, by omega, sOne_val ?_⟩
      show linV (valL _) _ = n
      simp [linV, linS, valL]; omega
  · rcases hxy with q | q
    · left
      refine sOne_val ?_
      show linV (valL _) _ = a - 1
      simp [linV, linS, valL]; omega
    · right
      refine sOne_val ?_
      show linV (valL _) _ = n
      simp [linV, linS, valL]; omega
end Go.Proofs
namespace Go.Proofs
open Go Go.AH
set_option linter.unusedSimpArgs false
set_option linter.unusedVariables false
set_option maxRecDepth 10000
/-! ### Around, and the values of the names -/
def arnd (n k : Int) : Int := (if n < 0 then -(n + 1) else n).tmod k
theorem around_c (n k : Int) (h0 : 0 < k) (h1 : k < 100000) (hn : -9223372036854775808 ≤ n) (hn2 : n ≤ 9223372036854775807) : ACalls Tryz.prog 4 [.int .i64 n, .int .i64 k] [] (fun r h => r = .ret (.int .i64 (arnd n k)) ∧ h = []) := by
  have hk0 : (k = 0) = False := by simp; omega
  refine acalls_body Tryz.func4 rfl (by decide +kernel) ?_
  simp only [List.length_nil, List.length_cons, List.length_append, Nat.zero_add, Tryz.ntmps4, List.replicate, List.cons_append, List.nil_append, List.append_assoc, Nat.reduceSub, Nat.reduceAdd]
  refine aW_reg fun N hN => ?_
  simp (config := {maxSteps := 10000000}) only [go_sem, Nat.reduceAdd, Nat.reduceSub, Nat.reduceMul, Nat.reduceLT, Nat.reduceLeDiff, Nat.lt_irrefl, Nat.le_refl, List.getElem?_toArray, bne_self_eq_false, Int.le_refl, Int.reduceLE, Int.reduceLT, Int.toNat_zero, Nat.zero_mul, List.all_cons, List.all_nil, Bool.and_self, Bool.and_true, Bool.true_and, Nat.reduceEqDiff, Nat.one_ne_zero, true_and, and_true, and_self, List.drop_succ_cons, List.drop_nil, List.take_succ_cons, List.take_nil]
  refine hN _ _ ?_; clear hN N
  refine aW_seq_k fun N hN => ?_
  refine aW_reg fun N hN => ?_
  simp (config := {maxSteps := 10000000}) only [go_sem, Nat.reduceAdd, Nat.reduceSub, Nat.reduceMul, Nat.reduceLT, Nat.reduceLeDiff, Nat.lt_irrefl, Nat.le_refl, List.getElem?_toArray, bne_self_eq_false, Int.le_refl, Int.reduceLE, Int.reduceLT, Int.toNat_zero, Nat.zero_mul, List.all_cons, List.all_nil, Bool.and_self, Bool.and_true, Bool.true_and, Nat.reduceEqDiff, Nat.one_ne_zero, true_and, and_true, and_self, List.drop_succ_cons, List.drop_nil, List.take_succ_cons, List.take_nil]
  refine hN _ _ ?_; clear hN N
  by_cases h : n < 0
  · have hw1 : IntKind.i64.wrap (n + 1) = n + 1 := IntWalk.i64_in _ (by omega)
    have hw2 : IntKind.i64.wrap (0 - (n + 1)) = -(n + 1) := by
      rw [IntWalk.i64_in _ (by omega)]; omega
    have hw2' : IntKind.i64.wrap (-(n + 1)) = -(n + 1) := IntWalk.i64_in _ (by omega)
    refine aW_cond (b := true) (by simp only [go_sem, h]) (fun _ => ?_) (fun h => by cases h)
    refine aW_reg1 fun N hN => ?_
    simp (config := {maxSteps := 10000000}) only [go_sem, Nat.reduceAdd, Nat.reduceSub, Nat.reduceMul, Nat.reduceLT, Nat.reduceLeDiff, Nat.lt_irrefl, Nat.le_refl, List.getElem?_toArray, bne_self_eq_false, Int.le_refl, Int.reduceLE, Int.reduceLT, Int.toNat_zero, Nat.zero_mul, List.all_cons, List.all_nil, Bool.and_self, Bool.and_true, Bool.true_and, Nat.reduceEqDiff, Nat.one_ne_zero, true_and, and_true, and_self, List.drop_succ_cons, List.drop_nil, List.take_succ_cons, List.take_nil, hw1, hw2]
    refine hN _ _ ?_; clear hN N
    refine hN _ _ ?_; clear hN N
    have hb := Int.tmod_lt_of_pos (-(n + 1)) h0
    have hb0 := Int.tmod_nonneg k (show 0 ≤ -(n + 1) by omega)
    have hw3 : IntKind.i64.wrap ((-(n + 1)).tmod k) = (-(n + 1)).tmod k := IntWalk.i64_in _ (by omega)
    refine aW_reg fun N hN => ?_
    simp (config := {maxSteps := 10000000}) only [go_sem, Nat.reduceAdd, Nat.reduceSub, Nat.reduceMul, Nat.reduceLT, Nat.reduceLeDiff, Nat.lt_irrefl, Nat.le_refl, List.getElem?_toArray, bne_self_eq_false, Int.le_refl, Int.reduceLE, Int.reduceLT, Int.toNat_zero, Nat.zero_mul, List.all_cons, List.all_nil, Bool.and_self, Bool.and_true, Bool.true_and, Nat.reduceEqDiff, Nat.one_ne_zero, true_and, and_true, and_self, List.drop_succ_cons, List.drop_nil, List.take_succ_cons, List.take_nil, hw3, hk0]
    refine hN _ _ ?_; clear hN N
    refine aW_ret (Body.done rfl (Nat.le_refl _) ⟨?_, rfl⟩)
    simp only [arnd, h, hw1, hw2, if_true, go_sem]
  · refine aW_cond (b := false) (by simp only [go_sem, h]) (fun h => by cases h) (fun _ => aW_skip ?_)
    refine hN _ _ ?_; clear hN N
    have hb := Int.tmod_lt_of_pos n h0
    have hb0 := Int.tmod_nonneg k (show 0 ≤ n by omega)
    have hw3 : IntKind.i64.wrap (n.tmod k) = n.tmod k := IntWalk.i64_in _ (by omega)
    refine aW_reg fun N hN => ?_
    simp (config := {maxSteps := 10000000}) only [go_sem, Nat.reduceAdd, Nat.reduceSub, Nat.reduceMul, Nat.reduceLT, Nat.reduceLeDiff, Nat.lt_irrefl, Nat.le_refl, List.getElem?_toArray, bne_self_eq_false, Int.le_refl, Int.reduceLE, Int.reduceLT, Int.toNat_zero, Nat.zero_mul, List.all_cons, List.all_nil, Bool.and_self, Bool.and_true, Bool.true_and, Nat.reduceEqDiff, Nat.one_ne_zero, true_and, and_true, and_self, List.drop_succ_cons, List.drop_nil, List.take_succ_cons, List.take_nil, hw3, hk0]
    refine hN _ _ ?_; clear hN N
    refine aW_ret (Body.done rfl (Nat.le_refl _) ⟨?_, rfl⟩)
    simp [arnd, h]
theorem arnd_nonneg (n k : Int) (h0 : 0 < k) : 0 ≤ arnd n k := Int.tmod_nonneg k (by split <;> omega)
theorem arnd_lt (n k : Int) (h0 : 0 < k) : arnd n k < k := Int.tmod_lt_of_pos _ h0
end Go.Proofs

namespace Go.Proofs
open Go Go.AH
set_option linter.unusedVariables false
set_option linter.unusedSimpArgs false
set_option maxRecDepth 100000
def condC : Code → Operand
  | .cond x _ _ => x
  | _ => .const (.bool false)
def elseC : Code → Code
  | .cond _ _ b => b
  | c => c
def isSkip : Code → Bool
  | .skip => true
  | _ => false
def isRet : Code → Bool
  | .ret => true
  | _ => false
def isCond : Code → Bool
  | .cond _ _ _ => true
  | _ => false
section
variable {V : Val} {n0 : Nat} {T : List AV} {h : Heap}
/-- A region, and a condition that is not met. -/
theorem aWV_regIf {c : Code} {E : List KCall} {T1 : List AV} {h1 : Heap} {K : AExit → List AV → Heap → Prop} (hc : isSeq c = true) (hc2 : isSeq (fstC c) = true) (hc3 : isCond (sndC (fstC c)) = true) (hs : isSkip (elseC (sndC (fstC c))) = true) (he : ∀ e ∈ E, KOk e)
    (hr : okReg (fstC (fstC c)) E T h T1 h1 = true) (hb : aEval T1 (condC (sndC (fstC c))) = .bool false) (a : aWV Tryz.prog V n0 (sndC c) T1 h1 K) : aWV Tryz.prog V n0 c T h K := by
  cases c with
  | seq x y =>
    refine aWV_seq ?_
    have hc2 : isSeq x = true := hc2
    refine aWV_reg hc2 he hr ?_
    cases x with
    | seq r i =>
      show aWV Tryz.prog V n0 i T1 h1 _
      have hc3 : isCond i = true := hc3
      cases i with
      | cond x0 p q =>
        refine aWV_cond (b := false) hb (fun e => by cases e) (fun _ => ?_)
        have hs : isSkip q = true := hs
        cases q with
        | skip => exact aWV_skip a
        | _ => cases hs
      | _ => cases hc3
    | _ => cases hc2
  | _ => cases hc
/-- A region, and a condition that is met: what stands there returns. -/
theorem aWV_regThen {c : Code} {E : List KCall} {T1 T2 : List AV} {h1 h2 : Heap} {E2 : List KCall} {K : AExit → List AV → Heap → Prop} (hc : isSeq c = true) (hc2 : isSeq (fstC c) = true) (hc3 : isCond (sndC (fstC c)) = true) (hs : isSeq (thenC (sndC (fstC c))) = true)
    (hs2 : isRet (sndC (thenC (sndC (fstC c)))) = true) (he : ∀ e ∈ E, KOk e) (he2 : ∀ e ∈ E2, KOk e)
    (hr : okReg (fstC (fstC c)) E T h T1 h1 = true) (hb : aEval T1 (condC (sndC (fstC c))) = .bool true) (hr2 : okReg (fstC (thenC (sndC (fstC c)))) E2 T1 h1 T2 h2 = true) (k : K .ret T2 h2) : aWV Tryz.prog V n0 c T h K := by
  cases c with
  | seq x y =>
    refine aWV_seq ?_
    have hc2 : isSeq x = true := hc2
    refine aWV_reg hc2 he hr ?_
    cases x with
    | seq r i =>
      show aWV Tryz.prog V n0 i T1 h1 _
      have hc3 : isCond i = true := hc3
      cases i with
      | cond x0 p q =>
        refine aWV_cond (b := true) hb (fun _ => ?_) (fun e => by cases e)
        have hs : isSeq p = true := hs
        refine aWV_reg hs he2 hr2 ?_
        have hs2 : isRet (sndC p) = true := hs2
        cases hp : sndC p with
        | ret => exact aWV_ret k
        | _ => rw [hp] at hs2; cases hs2
      | _ => cases hc3
    | _ => cases hc2
  | _ => cases hc
/-- A region, and the end. -/
theorem aWV_regRet {c : Code} {E : List KCall} {T1 : List AV} {h1 : Heap} {K : AExit → List AV → Heap → Prop} (hc : isSeq c = true) (hs : isRet (sndC c) = true) (he : ∀ e ∈ E, KOk e) (hr : okReg (fstC c) E T h T1 h1 = true) (k : K .ret T1 h1) : aWV Tryz.prog V n0 c T h K := by
  refine aWV_reg hc he hr ?_
  cases hp : sndC c with
  | ret => exact aWV_ret k
  | _ => rw [hp] at hs; cases hs
end
end Go.Proofs
namespace Go.Proofs
open Go Go.AH
set_option linter.unusedVariables false
set_option linter.unusedSimpArgs false
set_option maxRecDepth 100000
theorem aWV_regW {V : Val} {n0 : Nat} {T : List AV} {h : Heap} {c : Code} {K : AExit → List AV → Heap → Prop} (hc : isSeq c = true) (ha : aW Tryz.prog n0 (fstC c) T h (fun e T' h' => e = .normal ∧ aWV Tryz.prog V n0 (sndC c) T' h' K)) : aWV Tryz.prog V n0 c T h K := by
  cases c with
  | seq x y =>
    refine aWV_seq (aWV_mono (aWV_of ha) ?_)
    rintro e T' h' _ ⟨rfl, q⟩
    exact q
  | _ => cases hc
theorem start {V : Val} {K : AExit → List AV → Heap → Prop} (a0 n0 : Int) (b : Bool) (h1 : -9223372036854775808 ≤ a0) (h2 : a0 ≤ 9223372036854775807) (h3 : -9223372036854775808 ≤ n0) (h4 : n0 ≤ 9223372036854775807)
    (k : ∀ T, T.length = 66 → T[0]? = some (.int .i64 (1 + arnd a0 7200)) → T[1]? = some (.int .i64 (arnd n0 8001)) → T[7]? = some (.str (if b then [80, 85, 84] else [71, 69, 84])) → aWV Tryz.prog V 0 (sndC (sndC (sndC (sndC (sndC body3))))) T [] K) :
    aWV Tryz.prog V 0 body3 ([.int .i64 a0, .int .i64 n0, .bool b] ++ List.replicate 63 (.tup [])) [] K := by
  have ca := around_c a0 7200 (by decide) (by decide) h1 h2
  have cn := around_c n0 8001 (by decide) (by decide) h3 h4
  have l1 := arnd_nonneg a0 7200 (by decide)
  have l2 := arnd_lt a0 7200 (by decide)
  have hw : IntKind.i64.wrap (1 + arnd a0 7200) = 1 + arnd a0 7200 := IntWalk.i64_in _ (by omega)
  simp only [List.replicate, List.cons_append, List.nil_append]
  refine aWV_regW (by decide +kernel) ?_
  show aW _ _ (.region 0 _ false) _ _ _
  refine aW_reg1 fun N hN => ?_
  simp (config := {maxSteps := 10000000}) only [go_sem, Nat.reduceAdd, Nat.reduceSub, Nat.reduceMul, Nat.reduceLT, Nat.reduceLeDiff, Nat.lt_irrefl, Nat.le_refl, List.getElem?_toArray, bne_self_eq_false, Int.le_refl, Int.reduceLE, Int.reduceLT, Int.toNat_zero, Nat.zero_mul, List.all_cons, List.all_nil, Bool.and_self, Bool.and_true, Bool.true_and, Nat.reduceEqDiff, Nat.one_ne_zero, true_and, and_true, and_self, List.drop_succ_cons, List.drop_nil, List.take_succ_cons, List.take_nil]
  refine hN _ _ ⟨rfl, ?_⟩; clear hN N
  refine aWV_regW (by decide +kernel) ?_
  show aW _ _ (.region 1 _ false) _ _ _
  refine aW_reg1 fun N hN => ?_
  simp (config := {maxSteps := 10000000}) only [go_sem, Nat.reduceAdd, Nat.reduceSub, Nat.reduceMul, Nat.reduceLT, Nat.reduceLeDiff, Nat.lt_irrefl, Nat.le_refl, List.getElem?_toArray, bne_self_eq_false, Int.le_refl, Int.reduceLE, Int.reduceLT, Int.toNat_zero, Nat.zero_mul, List.all_cons, List.all_nil, Bool.and_self, Bool.and_true, Bool.true_and, Nat.reduceEqDiff, Nat.one_ne_zero, true_and, and_true, and_self, List.drop_succ_cons, List.drop_nil, List.take_succ_cons, List.take_nil]
  refine ca.plain rfl rfl ?_
  simp (config := {maxSteps := 10000000}) only [go_sem, Nat.reduceAdd, Nat.reduceSub, Nat.reduceMul, Nat.reduceLT, Nat.reduceLeDiff, Nat.lt_irrefl, Nat.le_refl, List.getElem?_toArray, bne_self_eq_false, Int.le_refl, Int.reduceLE, Int.reduceLT, Int.toNat_zero, Nat.zero_mul, List.all_cons, List.all_nil, Bool.and_self, Bool.and_true, Bool.true_and, Nat.reduceEqDiff, Nat.one_ne_zero, true_and, and_true, and_self, List.drop_succ_cons, List.drop_nil, List.take_succ_cons, List.take_nil, hw]
  refine hN _ _ ⟨rfl, ?_⟩; clear hN N
  refine aWV_regW (by decide +kernel) ?_
  show aW _ _ (.region 2 _ false) _ _ _
  refine aW_reg1 fun N hN => ?_
  simp (config := {maxSteps := 10000000}) only [go_sem, Nat.reduceAdd, Nat.reduceSub, Nat.reduceMul, Nat.reduceLT, Nat.reduceLeDiff, Nat.lt_irrefl, Nat.le_refl, List.getElem?_toArray, bne_self_eq_false, Int.le_refl, Int.reduceLE, Int.reduceLT, Int.toNat_zero, Nat.zero_mul, List.all_cons, List.all_nil, Bool.and_self, Bool.and_true, Bool.true_and, Nat.reduceEqDiff, Nat.one_ne_zero, true_and, and_true, and_self, List.drop_succ_cons, List.drop_nil, List.take_succ_cons, List.take_nil]
  refine cn.plain rfl rfl ?_
  simp (config := {maxSteps := 10000000}) only [go_sem, Nat.reduceAdd, Nat.reduceSub, Nat.reduceMul, Nat.reduceLT, Nat.reduceLeDiff, Nat.lt_irrefl, Nat.le_refl, List.getElem?_toArray, bne_self_eq_false, Int.le_refl, Int.reduceLE, Int.reduceLT, Int.toNat_zero, Nat.zero_mul, List.all_cons, List.all_nil, Bool.and_self, Bool.and_true, Bool.true_and, Nat.reduceEqDiff, Nat.one_ne_zero, true_and, and_true, and_self, List.drop_succ_cons, List.drop_nil, List.take_succ_cons, List.take_nil]
  refine hN _ _ ⟨rfl, ?_⟩; clear hN N
  refine aWV_regW (by decide +kernel) ?_
  show aW _ _ (.region 3 _ false) _ _ _
  refine aW_reg1 fun N hN => ?_
  simp (config := {maxSteps := 10000000}) only [go_sem, Nat.reduceAdd, Nat.reduceSub, Nat.reduceMul, Nat.reduceLT, Nat.reduceLeDiff, Nat.lt_irrefl, Nat.le_refl, List.getElem?_toArray, bne_self_eq_false, Int.le_refl, Int.reduceLE, Int.reduceLT, Int.toNat_zero, Nat.zero_mul, List.all_cons, List.all_nil, Bool.and_self, Bool.and_true, Bool.true_and, Nat.reduceEqDiff, Nat.one_ne_zero, true_and, and_true, and_self, List.drop_succ_cons, List.drop_nil, List.take_succ_cons, List.take_nil]
  refine hN _ _ ⟨rfl, ?_⟩; clear hN N
  refine aWV_regW (c := sndC (sndC (sndC (sndC body3)))) (by decide +kernel) ?_
  show aW _ _ (.seq (.region 4 _ false) (.cond _ (.region 5 _ false) .skip)) _ _ _
  refine aW_reg fun N hN => ?_
  simp (config := {maxSteps := 10000000}) only [go_sem, Nat.reduceAdd, Nat.reduceSub, Nat.reduceMul, Nat.reduceLT, Nat.reduceLeDiff, Nat.lt_irrefl, Nat.le_refl, List.getElem?_toArray, bne_self_eq_false, Int.le_refl, Int.reduceLE, Int.reduceLT, Int.toNat_zero, Nat.zero_mul, List.all_cons, List.all_nil, Bool.and_self, Bool.and_true, Bool.true_and, Nat.reduceEqDiff, Nat.one_ne_zero, true_and, and_true, and_self, List.drop_succ_cons, List.drop_nil, List.take_succ_cons, List.take_nil]
  refine hN _ _ ?_; clear hN N
  cases b with
  | true =>
    refine aW_cond (b := true) rfl (fun _ => ?_) (fun h => by cases h)
    refine aW_reg1 fun N hN => ?_
    simp (config := {maxSteps := 10000000}) only [go_sem, Nat.reduceAdd, Nat.reduceSub, Nat.reduceMul, Nat.reduceLT, Nat.reduceLeDiff, Nat.lt_irrefl, Nat.le_refl, List.getElem?_toArray, bne_self_eq_false, Int.le_refl, Int.reduceLE, Int.reduceLT, Int.toNat_zero, Nat.zero_mul, List.all_cons, List.all_nil, Bool.and_self, Bool.and_true, Bool.true_and, Nat.reduceEqDiff, Nat.one_ne_zero, true_and, and_true, and_self, List.drop_succ_cons, List.drop_nil, List.take_succ_cons, List.take_nil]
    refine hN _ _ ⟨rfl, ?_⟩; clear hN N
    exact k _ rfl rfl rfl rfl
  | false =>
    refine aW_cond (b := false) rfl (fun h => by cases h) (fun _ => ?_)
    exact aW_skip ⟨rfl, k _ rfl rfl rfl rfl⟩
end Go.Proofs
