/- The walk through TopGrants, and that its call returns true. No condition. -/
import Derived.Test.YtodclgipiinddaaGreatDoorAV
import Derived.Test.YtodclgipiinddaaGreatDoorKR
set_option linter.unusedVariables false
set_option linter.unusedSimpArgs false
namespace Go.Proofs
open Go Go.AH
set_option maxRecDepth 100000
abbrev Kfin : AExit → List AV → Heap → Prop := Body Tryz.prog Tryz.f3 0 fun r _ => r = .ret (.bool true)
theorem walk_g {V : Val} (hA : ∃ c, c < 6 ∧ ∀ i, linV V.ρ (sA c i) = V.ρ i) (hN : ∃ c, c < 4 ∧ ∀ i, linV V.ρ (sN c i) = V.ρ i) (hC : (∀ i, linV V.ρ (sCt i) = V.ρ i) ∨ (∀ i, linV V.ρ (sCf i) = V.ρ i)) : aWV Tryz.prog V 0 C6 T5g h5g Kfin := by
  have k15 : aWV Tryz.prog V 0 C15 T14g h14g Kfin := by
    rcases hC with hs | hs
    · refine aWV_sb hs ?_
      refine aWV_reg (by decide +kernel) r15gt_k r15gt ?_
      refine aWV_reg (by decide +kernel) r16gt_k r16gt ?_
      exact aWV_regThen (by decide +kernel) (by decide +kernel) (by decide +kernel) (by decide +kernel) (by decide +kernel) r17gt_k r18gt_k r17gt (by kernel_rfl) r18gt (Body.done (R := .bool true) (by kernel_rfl) (Nat.zero_le _) rfl)
    · refine aWV_sb hs ?_
      refine aWV_reg (by decide +kernel) r15gf_k r15gf ?_
      refine aWV_reg (by decide +kernel) r16gf_k r16gf ?_
      refine aWV_regIf (by decide +kernel) (by decide +kernel) (by decide +kernel) (by decide +kernel) r17gf_k r17gf (by kernel_rfl) ?_
      exact aWV_regRet (by decide +kernel) (by decide +kernel) r19gf_k r19gf (Body.done (R := .bool true) (by kernel_rfl) (Nat.zero_le _) rfl)
  have k14 : aWV Tryz.prog V 0 C14 T13g h13g Kfin := by
    obtain ⟨c, hc, hs⟩ := hN
    refine aWV_sb hs ?_
    match c, hc, hs with
    | 0, _, hs => exact aWV_reg (by decide +kernel) r14g0_k r14g0 (aWV_bs hs k15)
    | 1, _, hs => exact aWV_reg (by decide +kernel) r14g1_k r14g1 (aWV_bs hs k15)
    | 2, _, hs => exact aWV_reg (by decide +kernel) r14g2_k r14g2 (aWV_bs hs k15)
    | 3, _, hs => exact aWV_reg (by decide +kernel) r14g3_k r14g3 (aWV_bs hs k15)
  have k13 : aWV Tryz.prog V 0 C13 T12g h12g Kfin := by
    exact aWV_reg (by decide +kernel) r13g_k r13g k14
  have k12 : aWV Tryz.prog V 0 C12 T11g h11g Kfin := by
    obtain ⟨c, hc, hs⟩ := hA
    refine aWV_sb hs ?_
    match c, hc, hs with
    | 0, _, hs => exact aWV_reg (by decide +kernel) r12g0_k r12g0 (aWV_bs hs k13)
    | 1, _, hs => exact aWV_reg (by decide +kernel) r12g1_k r12g1 (aWV_bs hs k13)
    | 2, _, hs => exact aWV_reg (by decide +kernel) r12g2_k r12g2 (aWV_bs hs k13)
    | 3, _, hs => exact aWV_reg (by decide +kernel) r12g3_k r12g3 (aWV_bs hs k13)
    | 4, _, hs => exact aWV_reg (by decide +kernel) r12g4_k r12g4 (aWV_bs hs k13)
    | 5, _, hs => exact aWV_reg (by decide +kernel) r12g5_k r12g5 (aWV_bs hs k13)
  refine aWV_reg (by decide +kernel) r6g_k r6g ?_
  refine aWV_regIf (by decide +kernel) (by decide +kernel) (by decide +kernel) (by decide +kernel) r7g_k r7g (by kernel_rfl) ?_
  refine aWV_reg (by decide +kernel) r9g_k r9g ?_
  refine aWV_reg (by decide +kernel) r10g_k r10g ?_
  refine aWV_reg (by decide +kernel) r11g_k r11g ?_
  exact k12
theorem walk_p {V : Val} (hA : ∃ c, c < 6 ∧ ∀ i, linV V.ρ (sA c i) = V.ρ i) (hN : ∃ c, c < 4 ∧ ∀ i, linV V.ρ (sN c i) = V.ρ i) (hC : (∀ i, linV V.ρ (sCt i) = V.ρ i) ∨ (∀ i, linV V.ρ (sCf i) = V.ρ i)) : aWV Tryz.prog V 0 C6 T5p h5p Kfin := by
  have k15 : aWV Tryz.prog V 0 C15 T14p h14p Kfin := by
    rcases hC with hs | hs
    · refine aWV_sb hs ?_
      refine aWV_reg (by decide +kernel) r15pt_k r15pt ?_
      refine aWV_reg (by decide +kernel) r16pt_k r16pt ?_
      exact aWV_regThen (by decide +kernel) (by decide +kernel) (by decide +kernel) (by decide +kernel) (by decide +kernel) r17pt_k r18pt_k r17pt (by kernel_rfl) r18pt (Body.done (R := .bool true) (by kernel_rfl) (Nat.zero_le _) rfl)
    · refine aWV_sb hs ?_
      refine aWV_reg (by decide +kernel) r15pf_k r15pf ?_
      refine aWV_reg (by decide +kernel) r16pf_k r16pf ?_
      refine aWV_regIf (by decide +kernel) (by decide +kernel) (by decide +kernel) (by decide +kernel) r17pf_k r17pf (by kernel_rfl) ?_
      exact aWV_regRet (by decide +kernel) (by decide +kernel) r19pf_k r19pf (Body.done (R := .bool true) (by kernel_rfl) (Nat.zero_le _) rfl)
  have k14 : aWV Tryz.prog V 0 C14 T13p h13p Kfin := by
    obtain ⟨c, hc, hs⟩ := hN
    refine aWV_sb hs ?_
    match c, hc, hs with
    | 0, _, hs => exact aWV_reg (by decide +kernel) r14p0_k r14p0 (aWV_bs hs k15)
    | 1, _, hs => exact aWV_reg (by decide +kernel) r14p1_k r14p1 (aWV_bs hs k15)
    | 2, _, hs => exact aWV_reg (by decide +kernel) r14p2_k r14p2 (aWV_bs hs k15)
    | 3, _, hs => exact aWV_reg (by decide +kernel) r14p3_k r14p3 (aWV_bs hs k15)
  have k13 : aWV Tryz.prog V 0 C13 T12p h12p Kfin := by
    exact aWV_reg (by decide +kernel) r13p_k r13p k14
  have k12 : aWV Tryz.prog V 0 C12 T11p h11p Kfin := by
    obtain ⟨c, hc, hs⟩ := hA
    refine aWV_sb hs ?_
    match c, hc, hs with
    | 0, _, hs => exact aWV_reg (by decide +kernel) r12p0_k r12p0 (aWV_bs hs k13)
    | 1, _, hs => exact aWV_reg (by decide +kernel) r12p1_k r12p1 (aWV_bs hs k13)
    | 2, _, hs => exact aWV_reg (by decide +kernel) r12p2_k r12p2 (aWV_bs hs k13)
    | 3, _, hs => exact aWV_reg (by decide +kernel) r12p3_k r12p3 (aWV_bs hs k13)
    | 4, _, hs => exact aWV_reg (by decide +kernel) r12p4_k r12p4 (aWV_bs hs k13)
    | 5, _, hs => exact aWV_reg (by decide +kernel) r12p5_k r12p5 (aWV_bs hs k13)
  refine aWV_reg (by decide +kernel) r6p_k r6p ?_
  refine aWV_regIf (by decide +kernel) (by decide +kernel) (by decide +kernel) (by decide +kernel) r7p_k r7p (by kernel_rfl) ?_
  refine aWV_reg (by decide +kernel) r9p_k r9p ?_
  refine aWV_reg (by decide +kernel) r10p_k r10p ?_
  refine aWV_reg (by decide +kernel) r11p_k r11p ?_
  exact k12
end Go.Proofs
namespace Go.Proofs
open Go Go.AH
set_option linter.unusedVariables false
set_option linter.unusedSimpArgs false
set_option maxRecDepth 100000
theorem tf_rel {c : Ctx} {l : List (Nat × AV)} {T : List AV} {vs : List Value} (hT : RelL c T vs) (hlen : T.length = 66) (hl : ∀ p ∈ l, ∃ x, T[p.1]? = some x ∧ ∀ v, Rel c x v → Rel c p.2 v) : RelL c (tf l) vs := by
  have hvs : vs.length = 66 := by rw [← hT.length]; exact hlen
  refine relL_of_get (by simp [tf, hvs]) ?_
  intro i x y hx hy
  unfold tf at hx
  rw [List.getElem?_map] at hx
  have hi : i < 66 := by
    rcases Nat.lt_or_ge i 66 with q | q
    · exact q
    · rw [List.getElem?_eq_none (by omega)] at hy; cases hy
  rw [List.getElem?_range hi] at hx
  simp only [Option.map_some, Option.some.injEq] at hx
  cases hf : l.find? fun x => Nat.beq x.1 i with
  | none => rw [hf] at hx; simp only at hx; subst hx; exact trivial
  | some p =>
    rw [hf] at hx
    simp only at hx
    subst hx
    have hm := List.mem_of_find?_eq_some hf
    have hb := List.find?_some hf
    have hb := Nat.eq_of_beq_eq_true hb
    obtain ⟨x, h1, h2⟩ := hl p hm
    rw [hb] at h1
    obtain ⟨y', h3, h4⟩ := hT.get h1
    rw [hy] at h3
    cases h3
    exact h2 _ h4
/-- The law's call returns true. -/
theorem law3 (a0 n0 : Int) (b : Bool) (h1 : -9223372036854775808 ≤ a0) (h2 : a0 ≤ 9223372036854775807) (h3 : -9223372036854775808 ≤ n0) (h4 : n0 ≤ 9223372036854775807) (w : World) (hg : GSt (fun _ => False) w) :
    Calls Tryz.prog 3 #[.int .i64 a0, .int .i64 n0, .bool b] w fun e w' => e = .returned (.bool true) ∧ Go.RowKit.Below w.heap.size w w' := by
  have l1 := arnd_nonneg a0 7200 (by decide)
  have l2 := arnd_lt a0 7200 (by decide)
  have l3 := arnd_nonneg n0 8001 (by decide)
  have l4 := arnd_lt n0 8001 (by decide)
  obtain ⟨V, v4, v5, hA, hN, hC⟩ := vals (1 + arnd a0 7200) (arnd n0 8001) (by omega) (by omega) l3 (by omega)
  have hb : Tryz.f3.body = some body3 := by kernel_rfl
  refine lawV (args := [.int .i64 a0, .int .i64 n0, .bool b]) V Tryz.func3 hb (by decide +kernel) ?_ w _ hg ⟨_, _, rfl, rfl, _, _, rfl, rfl, _, _, rfl, rfl, rfl⟩
  have hn : Tryz.f3.ntmps - [AV.int .i64 a0, AV.int .i64 n0, AV.bool b].length = 63 := by rw [Tryz.ntmps3]; rfl
  rw [hn]
  refine start a0 n0 b h1 h2 h3 h4 ?_
  intro T hl t0 t1 t7
  have e4 : linV V.ρ [1, 0, 0, 0, 0, 1] = 1 + arnd a0 7200 := by simp [linV, linS]; omega
  have e5 : linV V.ρ [0, 0, 0, 0, 0, 0, 1] = arnd n0 8001 := by simp [linV, linS]; omega
  have fit : ∀ (s : List UInt8), T[7]? = some (.str s) → ∀ (F : Fr) (β : Nat → Nat) (w : World) vs, F.V = V → RelL (ctx F β w []) T vs → RelL (ctx F β w []) (tf [(0, .lin .i64 [1, 0, 0, 0, 0, 1]), (1, .lin .i64 [0, 0, 0, 0, 0, 0, 1]), (7, .str s)]) vs := by
    intro s h7 F β w vs e r
    refine tf_rel r hl ?_
    intro p hp
    simp only [List.mem_cons, List.mem_nil_iff, or_false] at hp
    rcases hp with rfl | rfl | rfl
    · refine ⟨_, t0, fun v q => ?_⟩
      have q : v = .int .i64 (1 + arnd a0 7200) := q
      show v = .int .i64 (linV F.V.ρ _)
      rw [e, e4]; exact q
    · refine ⟨_, t1, fun v q => ?_⟩
      have q : v = .int .i64 (arnd n0 8001) := q
      show v = .int .i64 (linV F.V.ρ _)
      rw [e, e5]; exact q
    · exact ⟨_, h7, fun v q => q⟩
  cases b with
  | true => exact aWV_same (T' := T5p) (h' := h5p) (fun _ _ _ _ => rfl) rfl (fun _ => rfl) (fun _ _ _ _ s => s) (fit _ t7) (walk_p hA hN hC)
  | false => exact aWV_same (T' := T5g) (h' := h5g) (fun _ _ _ _ => rfl) rfl (fun _ => rfl) (fun _ _ _ _ s => s) (fit _ t7) (walk_g hA hN hC)
end Go.Proofs
