/- The walk through TopPublic, and that its call returns true. No condition. -/
import Derived.Test.YtbdhilbngaemcaaGreatDoorAV
import Derived.Test.YtbdhilbngaemcaaGreatDoorMD
import Derived.Test.YtbdhilbngaemcaaGreatDoorKRA
import Derived.Test.YtbdhilbngaemcaaGreatDoorKRB
import Derived.Test.YtbdhilbngaemcaaGreatDoorKRC
import Derived.Test.YtbdhilbngaemcaaGreatDoorKRD
set_option linter.unusedVariables false
set_option linter.unusedSimpArgs false
namespace Go.Proofs
open Go Go.AH
set_option maxRecDepth 100000
set_option linter.unusedVariables false
/-! ### a region in two runs, between which values are told otherwise -/
theorem dropSeq_succ : ∀ (n : Nat) (c : Code), dropSeq (n + 1) c = sndC (dropSeq n c)
  | 0, c => rfl
  | n + 1, c => by
    show dropSeq (n + 1) (sndC c) = sndC (dropSeq n (sndC c))
    exact dropSeq_succ n (sndC c)
theorem dropSeq_add : ∀ (n m : Nat) (c : Code), dropSeq n (dropSeq m c) = dropSeq (m + n) c
  | 0, m, c => rfl
  | n + 1, m, c => by
    rw [dropSeq_succ, dropSeq_add n m c, show m + (n + 1) = (m + n) + 1 by omega, dropSeq_succ]
section
variable {V : Val} {K : AExit → List AV → Heap → Prop}
theorem aWV_ops2 {el k n : Nat} {E1 E2 : List KCall} {T Ta Tb Tc Td : List AV} {h ha : Heap} (hc : isSeq (dropSeq el body3) = true) (hg : isReg (fstC (dropSeq el body3)) = true) (hk : Nat.beq (k + n) (opsC (fstC (dropSeq el body3))).size = true)
    (he1 : ∀ e ∈ E1, KOk e) (r1 : okOps (runOps Tryz.prog (rAll Tryz.prog (IT (spL E1)) 3000).call (opsC (fstC (dropSeq el body3))) 0 k T h) Ta ha = true)
    (conv : ∀ (F : Fr) (β : Nat → Nat) (w : World) vs, F.V = V → RelL (ctx F β w ha) Ta vs → RelL (ctx F β w ha) Tb vs)
    (he2 : ∀ e ∈ E2, KOk e) (r2 : okOps (runOps Tryz.prog (rAll Tryz.prog (IT (spL E2)) 3000).call (opsC (fstC (dropSeq el body3))) k n Tb ha) Tc ha = true) (hd : leUB Td Tc = true)
    (a : aWV Tryz.prog V 0 (dropSeq (el + 1) body3) Td ha K) : aWV Tryz.prog V 0 (dropSeq el body3) T h K := by
  rw [dropSeq_succ] at a
  generalize dropSeq el body3 = c at *
  cases c with
  | seq x y =>
    have hg : isReg x = true := hg
    cases x with
    | region id ops d =>
      cases d with
      | true => cases hg
      | false =>
        have hk := Nat.eq_of_beq_eq_true hk
        have hk : k + n = ops.size := hk
        have r1 : okOps (runOps Tryz.prog (rAll Tryz.prog (IT (spL E1)) 3000).call ops 0 k T h) Ta ha = true := r1
        have r2 : okOps (runOps Tryz.prog (rAll Tryz.prog (IT (spL E2)) 3000).call ops k n Tb ha) Tc ha = true := r2
        refine aWV_seq (aWV_region ?_)
        rw [← hk, range_split (k + n) k (by omega), show k + n - k = n by omega]
        refine aOV_run (run_ok (IT_ok (spL_ok he1)) 3000).call (by omega) r1 ?_
        refine aOV_same (T' := Tb) (h' := ha) (fun _ _ _ _ => rfl) rfl (fun _ => rfl) (fun _ _ _ _ s => s) conv ?_
        rw [← List.append_nil (List.range' k n)]
        refine aOV_run (run_ok (IT_ok (spL_ok he2)) 3000).call (by omega) r2 (aOV_nil ?_)
        exact aWV_forget (leUB_ok hd) a
    | _ => cases hg
  | _ => cases hc
theorem relL_set {c : Ctx} {x' : AV} : ∀ {i : Nat} {T : List AV} {vs : List Value}, (∀ v, Rel c (T.getD i .unk) v → Rel c x' v) → RelL c T vs → RelL c (T.set i x') vs
  | _, [], vs, _, r => r
  | 0, x :: T, vs, h, r => by
    obtain ⟨v, ws, rfl, h1, h2⟩ := relL_cons.1 r
    exact relL_cons.2 ⟨v, ws, rfl, h v h1, h2⟩
  | i + 1, x :: T, vs, h, r => by
    obtain ⟨v, ws, rfl, h1, h2⟩ := relL_cons.1 r
    exact relL_cons.2 ⟨v, ws, rfl, h1, relL_set (i := i) (T := T) h h2⟩
/-- Four named bytes. -/
def aggN (i : Nat) : AV := .agg (.int .i64 4 :: .lin .u8 (nC 0 i) :: .lin .u8 (nC 0 (i + 1)) :: .lin .u8 (nC 0 (i + 2)) :: .lin .u8 (nC 0 (i + 3)) :: z12)
theorem octs_conv {c : Ctx} {i j : Nat} (h : ∀ k, k < 4 → c.V.ρ (i + k) = (c.V.oct j k : Nat)) (v : Value) (r : Rel c (aggN i) v) : Rel c (octsJ j) v := by
  obtain ⟨ul, rfl, q⟩ := r
  have key : ∀ k u, k < 4 → Rel c (.lin .u8 (nC 0 (i + k))) u → Rel c (.oct j k) u := by
    intro k u hk r
    have r : u = .int .u8 (linV c.V.ρ (nC 0 (i + k))) := r
    rw [nC_val, Int.zero_add, h k hk] at r
    exact r
  obtain ⟨u4, us, e4, r4, q⟩ := relL_cons.1 q
  obtain ⟨u0, us, e0, r0, q⟩ := relL_cons.1 q
  obtain ⟨u1, us, e1, r1, q⟩ := relL_cons.1 q
  obtain ⟨u2, us, e2, r2, q⟩ := relL_cons.1 q
  obtain ⟨u3, us, e3, r3, qz⟩ := relL_cons.1 q
  subst e0 e1 e2 e3
  refine ⟨ul, rfl, ?_⟩
  rw [e4]
  exact ⟨_, _, rfl, r4, _, _, rfl, key 0 u0 (by omega) r0, _, _, rfl, key 1 u1 (by omega) r1, _, _, rfl, key 2 u2 (by omega) r2, _, _, rfl, key 3 u3 (by omega) r3, qz⟩
/-- The last region, and the end. -/
theorem aWV_last {el : Nat} {E : List KCall} {T T1 : List AV} {h h1 : Heap} (hc : isSeq (dropSeq el body3) = true) (hs : (match sndC (dropSeq el body3) with | .ret => true | _ => false) = true) (he : ∀ e ∈ E, KOk e) (hr : okReg (fstC (dropSeq el body3)) E T h T1 h1 = true) (k : K .ret T1 h1) : aWV Tryz.prog V 0 (dropSeq el body3) T h K := by
  refine aWV_reg hc he hr ?_
  cases hp : sndC (dropSeq el body3) with
  | ret => exact aWV_ret k
  | _ => rw [hp] at hs; cases hs
/-! ### values of the names that the arguments give -/
def byteN (n k : Nat) : Nat := n / 256 ^ (3 - k) % 256
def spcN (n : Nat) : Nat := spaceF (byteN n 0) (byteN n 1) (byteN n 2) (byteN n 3)
theorem spaceF_le (a b c d : Nat) : spaceF a b c d ≤ 2 := by unfold spaceF; repeat' split <;> try omega
theorem byteN_lt (n k : Nat) : byteN n k ≤ 255 := by unfold byteN; omega
def argV (a b : Nat) : Val where
  ρ i := if 60 ≤ i ∧ i < 64 then (byteN a (i - 60) : Nat) else if 64 ≤ i ∧ i < 68 then (byteN b (i - 64) : Nat) else val0.ρ i
  lo i := by split; exact Int.natCast_nonneg _; split; exact Int.natCast_nonneg _; exact val0.lo i
  hi i := by
    split
    · rename_i h
      have hd := dom_byte ⟨i - 60, by omega⟩
      simp only [show 60 + (i - 60) = i by omega] at hd
      rw [hd]
      exact Int.ofNat_le.2 (byteN_lt _ _)
    · split
      · rename_i h
        have hd := dom_byte ⟨i - 60, by omega⟩
        simp only [show 60 + (i - 60) = i by omega] at hd
        rw [hd]
        exact Int.ofNat_le.2 (byteN_lt _ _)
      · exact val0.hi i
  thr j hj := by
    simp only [show ¬ (60 ≤ 5 * j + 4 ∧ 5 * j + 4 < 64) by omega, show ¬ (64 ≤ 5 * j + 4 ∧ 5 * j + 4 < 68) by omega, show ¬ (60 ≤ 5 * j ∧ 5 * j < 64) by omega, show ¬ (64 ≤ 5 * j ∧ 5 * j < 68) by omega,
      show ¬ (60 ≤ 5 * j + 1 ∧ 5 * j + 1 < 64) by omega, show ¬ (64 ≤ 5 * j + 1 ∧ 5 * j + 1 < 68) by omega, show ¬ (60 ≤ 5 * j + 2 ∧ 5 * j + 2 < 64) by omega, show ¬ (64 ≤ 5 * j + 2 ∧ 5 * j + 2 < 68) by omega, if_false]
    exact val0.thr j hj
  oct j k := if j = spcN a then byteN a k else if j = 3 + spcN b then byteN b k else val0.oct j k
  ob j k := by split; exact byteN_lt _ _; split; exact byteN_lt _ _; exact val0.ob j k
  spc j hj := by
    have ha := spaceF_le (byteN a 0) (byteN a 1) (byteN a 2) (byteN a 3)
    have hb := spaceF_le (byteN b 0) (byteN b 1) (byteN b 2) (byteN b 3)
    by_cases h1 : j = spcN a
    · simp only [h1, if_true]
      show spcN a = spcN a % 3
      have : spcN a ≤ 2 := ha
      omega
    · by_cases h2 : j = 3 + spcN b
      · simp only [h1, h2, if_true, if_false]
        have e : ¬ (3 + spcN b = spcN a) := by
          have : spcN a ≤ 2 := ha
          omega
        simp only [e, if_false]
        show spcN b = (3 + spcN b) % 3
        have : spcN b ≤ 2 := hb
        omega
      · simp only [h1, h2, if_false]
        exact val0.spc j hj
theorem argV_a (a b k : Nat) (hk : k < 4) : (argV a b).ρ (60 + k) = ((argV a b).oct (spcN a) k : Nat) := by
  show (if 60 ≤ 60 + k ∧ 60 + k < 64 then ((byteN a (60 + k - 60) : Nat) : Int) else _) = ((if spcN a = spcN a then byteN a k else _ : Nat) : Int)
  rw [if_pos (by omega), if_pos rfl, show 60 + k - 60 = k by omega]
theorem argV_b (a b k : Nat) (hk : k < 4) : (argV a b).ρ (64 + k) = ((argV a b).oct (3 + spcN b) k : Nat) := by
  have ha : spcN a ≤ 2 := spaceF_le _ _ _ _
  show (if 60 ≤ 64 + k ∧ 64 + k < 64 then _ else if 64 ≤ 64 + k ∧ 64 + k < 68 then ((byteN b (64 + k - 64) : Nat) : Int) else _) = ((if 3 + spcN b = spcN a then _ else if 3 + spcN b = 3 + spcN b then byteN b k else _ : Nat) : Int)
  rw [if_neg (by omega), if_pos (by omega), if_neg (by omega), if_pos rfl, show 64 + k - 64 = k by omega]
def fourE (i : Nat) : List Int := 0 :: (List.replicate i 0 ++ [16777216, 65536, 256, 1])
theorem fourE_val (ρ : Nat → Int) (i : Nat) : linV ρ (fourE i) = 16777216 * ρ i + 65536 * ρ (i + 1) + 256 * ρ (i + 2) + ρ (i + 3) := by
  unfold fourE
  simp only [linV]
  rw [linS_zeros]
  simp [linS, Nat.add_assoc]
  omega
theorem byteN_sum (n : Nat) (h : n < 4294967296) : 16777216 * byteN n 0 + 65536 * byteN n 1 + 256 * byteN n 2 + byteN n 3 = n := by
  unfold byteN
  simp only [show 3 - 0 = 3 from rfl, show 3 - 1 = 2 from rfl, show 3 - 2 = 1 from rfl, show 3 - 3 = 0 from rfl, Nat.reducePow]
  omega
theorem argV_eA (a b : Nat) (h : a < 4294967296) : linV (argV a b).ρ (fourE 60) = (a : Int) := by
  have e : ∀ k, k < 4 → (argV a b).ρ (60 + k) = (byteN a k : Nat) := fun k hk => by
    show (if 60 ≤ 60 + k ∧ 60 + k < 64 then ((byteN a (60 + k - 60) : Nat) : Int) else _) = _
    rw [if_pos (by omega), show 60 + k - 60 = k by omega]
  rw [fourE_val, e 0 (by omega), e 1 (by omega), e 2 (by omega), e 3 (by omega)]
  have := byteN_sum a h
  omega
theorem argV_eB (a b : Nat) (h : b < 4294967296) : linV (argV a b).ρ (fourE 64) = (b : Int) := by
  have e : ∀ k, k < 4 → (argV a b).ρ (64 + k) = (byteN b k : Nat) := fun k hk => by
    show (if 60 ≤ 64 + k ∧ 64 + k < 64 then _ else if 64 ≤ 64 + k ∧ 64 + k < 68 then ((byteN b (64 + k - 64) : Nat) : Int) else _) = _
    rw [if_neg (by omega), if_pos (by omega), show 64 + k - 64 = k by omega]
  rw [fourE_val, e 0 (by omega), e 1 (by omega), e 2 (by omega), e 3 (by omega)]
  have := byteN_sum b h
  omega
end
end Go.Proofs
namespace Go.Proofs
open Go Go.AH
set_option maxRecDepth 100000
set_option linter.unusedVariables false
abbrev Kfin : AExit → List AV → Heap → Prop := Body Tryz.prog Tryz.f3 0 fun r _ => r = .ret (.bool true)
theorem T7Ap0_s : T7Ap0.getD 22 .unk = aggN 60 := by kernel_rfl
theorem T8Ap00_s : T8Ap00.getD 25 .unk = aggN 64 := by kernel_rfl
theorem T25Ap00_s : T25Ap00.getD 106 .unk = aggN 64 := by kernel_rfl
theorem walk_p00 {V : Val} (hA : ∀ k, k < 4 → V.ρ (60 + k) = (V.oct 0 k : Nat)) (hB : ∀ k, k < 4 → V.ρ (64 + k) = (V.oct 3 k : Nat)) : aWV Tryz.prog V 0 body3 T0p [] Kfin := by
  refine aWV_okSeq (a := 0) (n := 5) r0p_k r0p ?_
  rw [dropSeq_add]
  refine aWV_ops2 (el := 5) (by decide +kernel) (by decide +kernel) (by decide +kernel) r7Ap0_k r7Ap0 (fun F β w vs e r => relL_set (i := 22) (fun v q => octs_conv (c := ctx F β w h1) (i := 60) (j := 0) (fun k hk => by show F.V.ρ (60 + k) = (F.V.oct 0 k : Nat); rw [e]; exact hA k hk) v (by rw [T7Ap0_s] at q; exact q)) r) r7Bp0_k r7Bp0 (by decide +kernel) ?_ (Td := T7p0)
  refine aWV_ops2 (el := 6) (by decide +kernel) (by decide +kernel) (by decide +kernel) r8Ap00_k r8Ap00 (fun F β w vs e r => relL_set (i := 25) (fun v q => octs_conv (c := ctx F β w h1) (i := 64) (j := 3) (fun k hk => by show F.V.ρ (64 + k) = (F.V.oct 3 k : Nat); rw [e]; exact hB k hk) v (by rw [T8Ap00_s] at q; exact q)) r) r8Bp00_k r8Bp00 (by decide +kernel) ?_ (Td := T8p00)
  refine aWV_okSeq (a := 7) (n := 10) r9p00_k r9p00 ?_
  rw [dropSeq_add]
  refine aWV_ops2 (el := 17) (by decide +kernel) (by decide +kernel) (by decide +kernel) r25Ap00_k r25Ap00 (fun F β w vs e r => relL_set (i := 106) (fun v q => octs_conv (c := ctx F β w h25p00) (i := 64) (j := 3) (fun k hk => by show F.V.ρ (64 + k) = (F.V.oct 3 k : Nat); rw [e]; exact hB k hk) v (by rw [T25Ap00_s] at q; exact q)) r) r25Bp00_k r25Bp00 (by decide +kernel) ?_ (Td := T25p00)
  exact aWV_last (el := 18) (by decide +kernel) (by decide +kernel) r26p00_k r26p00 (Body.done (R := .bool true) (by kernel_rfl) (Nat.zero_le _) rfl)
theorem T8Ap01_s : T8Ap01.getD 25 .unk = aggN 64 := by kernel_rfl
theorem T25Ap01_s : T25Ap01.getD 106 .unk = aggN 64 := by kernel_rfl
theorem walk_p01 {V : Val} (hA : ∀ k, k < 4 → V.ρ (60 + k) = (V.oct 0 k : Nat)) (hB : ∀ k, k < 4 → V.ρ (64 + k) = (V.oct 4 k : Nat)) : aWV Tryz.prog V 0 body3 T0p [] Kfin := by
  refine aWV_okSeq (a := 0) (n := 5) r0p_k r0p ?_
  rw [dropSeq_add]
  refine aWV_ops2 (el := 5) (by decide +kernel) (by decide +kernel) (by decide +kernel) r7Ap0_k r7Ap0 (fun F β w vs e r => relL_set (i := 22) (fun v q => octs_conv (c := ctx F β w h1) (i := 60) (j := 0) (fun k hk => by show F.V.ρ (60 + k) = (F.V.oct 0 k : Nat); rw [e]; exact hA k hk) v (by rw [T7Ap0_s] at q; exact q)) r) r7Bp0_k r7Bp0 (by decide +kernel) ?_ (Td := T7p0)
  refine aWV_ops2 (el := 6) (by decide +kernel) (by decide +kernel) (by decide +kernel) r8Ap01_k r8Ap01 (fun F β w vs e r => relL_set (i := 25) (fun v q => octs_conv (c := ctx F β w h1) (i := 64) (j := 4) (fun k hk => by show F.V.ρ (64 + k) = (F.V.oct 4 k : Nat); rw [e]; exact hB k hk) v (by rw [T8Ap01_s] at q; exact q)) r) r8Bp01_k r8Bp01 (by decide +kernel) ?_ (Td := T8p01)
  refine aWV_okSeq (a := 7) (n := 10) r9p01_k r9p01 ?_
  rw [dropSeq_add]
  refine aWV_ops2 (el := 17) (by decide +kernel) (by decide +kernel) (by decide +kernel) r25Ap01_k r25Ap01 (fun F β w vs e r => relL_set (i := 106) (fun v q => octs_conv (c := ctx F β w h25p01) (i := 64) (j := 4) (fun k hk => by show F.V.ρ (64 + k) = (F.V.oct 4 k : Nat); rw [e]; exact hB k hk) v (by rw [T25Ap01_s] at q; exact q)) r) r25Bp01_k r25Bp01 (by decide +kernel) ?_ (Td := T25p01)
  exact aWV_last (el := 18) (by decide +kernel) (by decide +kernel) r26p01_k r26p01 (Body.done (R := .bool true) (by kernel_rfl) (Nat.zero_le _) rfl)
theorem T8Ap02_s : T8Ap02.getD 25 .unk = aggN 64 := by kernel_rfl
theorem T25Ap02_s : T25Ap02.getD 106 .unk = aggN 64 := by kernel_rfl
theorem walk_p02 {V : Val} (hA : ∀ k, k < 4 → V.ρ (60 + k) = (V.oct 0 k : Nat)) (hB : ∀ k, k < 4 → V.ρ (64 + k) = (V.oct 5 k : Nat)) : aWV Tryz.prog V 0 body3 T0p [] Kfin := by
  refine aWV_okSeq (a := 0) (n := 5) r0p_k r0p ?_
  rw [dropSeq_add]
  refine aWV_ops2 (el := 5) (by decide +kernel) (by decide +kernel) (by decide +kernel) r7Ap0_k r7Ap0 (fun F β w vs e r => relL_set (i := 22) (fun v q => octs_conv (c := ctx F β w h1) (i := 60) (j := 0) (fun k hk => by show F.V.ρ (60 + k) = (F.V.oct 0 k : Nat); rw [e]; exact hA k hk) v (by rw [T7Ap0_s] at q; exact q)) r) r7Bp0_k r7Bp0 (by decide +kernel) ?_ (Td := T7p0)
  refine aWV_ops2 (el := 6) (by decide +kernel) (by decide +kernel) (by decide +kernel) r8Ap02_k r8Ap02 (fun F β w vs e r => relL_set (i := 25) (fun v q => octs_conv (c := ctx F β w h1) (i := 64) (j := 5) (fun k hk => by show F.V.ρ (64 + k) = (F.V.oct 5 k : Nat); rw [e]; exact hB k hk) v (by rw [T8Ap02_s] at q; exact q)) r) r8Bp02_k r8Bp02 (by decide +kernel) ?_ (Td := T8p02)
  refine aWV_okSeq (a := 7) (n := 10) r9p02_k r9p02 ?_
  rw [dropSeq_add]
  refine aWV_ops2 (el := 17) (by decide +kernel) (by decide +kernel) (by decide +kernel) r25Ap02_k r25Ap02 (fun F β w vs e r => relL_set (i := 106) (fun v q => octs_conv (c := ctx F β w h25p02) (i := 64) (j := 5) (fun k hk => by show F.V.ρ (64 + k) = (F.V.oct 5 k : Nat); rw [e]; exact hB k hk) v (by rw [T25Ap02_s] at q; exact q)) r) r25Bp02_k r25Bp02 (by decide +kernel) ?_ (Td := T25p02)
  exact aWV_last (el := 18) (by decide +kernel) (by decide +kernel) r26p02_k r26p02 (Body.done (R := .bool true) (by kernel_rfl) (Nat.zero_le _) rfl)
theorem T7Ap1_s : T7Ap1.getD 22 .unk = aggN 60 := by kernel_rfl
theorem T8Ap10_s : T8Ap10.getD 25 .unk = aggN 64 := by kernel_rfl
theorem T25Ap10_s : T25Ap10.getD 106 .unk = aggN 64 := by kernel_rfl
theorem walk_p10 {V : Val} (hA : ∀ k, k < 4 → V.ρ (60 + k) = (V.oct 1 k : Nat)) (hB : ∀ k, k < 4 → V.ρ (64 + k) = (V.oct 3 k : Nat)) : aWV Tryz.prog V 0 body3 T0p [] Kfin := by
  refine aWV_okSeq (a := 0) (n := 5) r0p_k r0p ?_
  rw [dropSeq_add]
  refine aWV_ops2 (el := 5) (by decide +kernel) (by decide +kernel) (by decide +kernel) r7Ap1_k r7Ap1 (fun F β w vs e r => relL_set (i := 22) (fun v q => octs_conv (c := ctx F β w h1) (i := 60) (j := 1) (fun k hk => by show F.V.ρ (60 + k) = (F.V.oct 1 k : Nat); rw [e]; exact hA k hk) v (by rw [T7Ap1_s] at q; exact q)) r) r7Bp1_k r7Bp1 (by decide +kernel) ?_ (Td := T7p1)
  refine aWV_ops2 (el := 6) (by decide +kernel) (by decide +kernel) (by decide +kernel) r8Ap10_k r8Ap10 (fun F β w vs e r => relL_set (i := 25) (fun v q => octs_conv (c := ctx F β w h1) (i := 64) (j := 3) (fun k hk => by show F.V.ρ (64 + k) = (F.V.oct 3 k : Nat); rw [e]; exact hB k hk) v (by rw [T8Ap10_s] at q; exact q)) r) r8Bp10_k r8Bp10 (by decide +kernel) ?_ (Td := T8p10)
  refine aWV_okSeq (a := 7) (n := 10) r9p10_k r9p10 ?_
  rw [dropSeq_add]
  refine aWV_ops2 (el := 17) (by decide +kernel) (by decide +kernel) (by decide +kernel) r25Ap10_k r25Ap10 (fun F β w vs e r => relL_set (i := 106) (fun v q => octs_conv (c := ctx F β w h25p10) (i := 64) (j := 3) (fun k hk => by show F.V.ρ (64 + k) = (F.V.oct 3 k : Nat); rw [e]; exact hB k hk) v (by rw [T25Ap10_s] at q; exact q)) r) r25Bp10_k r25Bp10 (by decide +kernel) ?_ (Td := T25p10)
  exact aWV_last (el := 18) (by decide +kernel) (by decide +kernel) r26p10_k r26p10 (Body.done (R := .bool true) (by kernel_rfl) (Nat.zero_le _) rfl)
theorem T8Ap11_s : T8Ap11.getD 25 .unk = aggN 64 := by kernel_rfl
theorem T25Ap11_s : T25Ap11.getD 106 .unk = aggN 64 := by kernel_rfl
theorem walk_p11 {V : Val} (hA : ∀ k, k < 4 → V.ρ (60 + k) = (V.oct 1 k : Nat)) (hB : ∀ k, k < 4 → V.ρ (64 + k) = (V.oct 4 k : Nat)) : aWV Tryz.prog V 0 body3 T0p [] Kfin := by
  refine aWV_okSeq (a := 0) (n := 5) r0p_k r0p ?_
  rw [dropSeq_add]
  refine aWV_ops2 (el := 5) (by decide +kernel) (by decide +kernel) (by decide +kernel) r7Ap1_k r7Ap1 (fun F β w vs e r => relL_set (i := 22) (fun v q => octs_conv (c := ctx F β w h1) (i := 60) (j := 1) (fun k hk => by show F.V.ρ (60 + k) = (F.V.oct 1 k : Nat); rw [e]; exact hA k hk) v (by rw [T7Ap1_s] at q; exact q)) r) r7Bp1_k r7Bp1 (by decide +kernel) ?_ (Td := T7p1)
  refine aWV_ops2 (el := 6) (by decide +kernel) (by decide +kernel) (by decide +kernel) r8Ap11_k r8Ap11 (fun F β w vs e r => relL_set (i := 25) (fun v q => octs_conv (c := ctx F β w h1) (i := 64) (j := 4) (fun k hk => by show F.V.ρ (64 + k) = (F.V.oct 4 k : Nat); rw [e]; exact hB k hk) v (by rw [T8Ap11_s] at q; exact q)) r) r8Bp11_k r8Bp11 (by decide +kernel) ?_ (Td := T8p11)
  refine aWV_okSeq (a := 7) (n := 10) r9p11_k r9p11 ?_
  rw [dropSeq_add]
  refine aWV_ops2 (el := 17) (by decide +kernel) (by decide +kernel) (by decide +kernel) r25Ap11_k r25Ap11 (fun F β w vs e r => relL_set (i := 106) (fun v q => octs_conv (c := ctx F β w h25p11) (i := 64) (j := 4) (fun k hk => by show F.V.ρ (64 + k) = (F.V.oct 4 k : Nat); rw [e]; exact hB k hk) v (by rw [T25Ap11_s] at q; exact q)) r) r25Bp11_k r25Bp11 (by decide +kernel) ?_ (Td := T25p11)
  exact aWV_last (el := 18) (by decide +kernel) (by decide +kernel) r26p11_k r26p11 (Body.done (R := .bool true) (by kernel_rfl) (Nat.zero_le _) rfl)
theorem T8Ap12_s : T8Ap12.getD 25 .unk = aggN 64 := by kernel_rfl
theorem T25Ap12_s : T25Ap12.getD 106 .unk = aggN 64 := by kernel_rfl
theorem walk_p12 {V : Val} (hA : ∀ k, k < 4 → V.ρ (60 + k) = (V.oct 1 k : Nat)) (hB : ∀ k, k < 4 → V.ρ (64 + k) = (V.oct 5 k : Nat)) : aWV Tryz.prog V 0 body3 T0p [] Kfin := by
  refine aWV_okSeq (a := 0) (n := 5) r0p_k r0p ?_
  rw [dropSeq_add]
  refine aWV_ops2 (el := 5) (by decide +kernel) (by decide +kernel) (by decide +kernel) r7Ap1_k r7Ap1 (fun F β w vs e r => relL_set (i := 22) (fun v q => octs_conv (c := ctx F β w h1) (i := 60) (j := 1) (fun k hk => by show F.V.ρ (60 + k) = (F.V.oct 1 k : Nat); rw [e]; exact hA k hk) v (by rw [T7Ap1_s] at q; exact q)) r) r7Bp1_k r7Bp1 (by decide +kernel) ?_ (Td := T7p1)
  refine aWV_ops2 (el := 6) (by decide +kernel) (by decide +kernel) (by decide +kernel) r8Ap12_k r8Ap12 (fun F β w vs e r => relL_set (i := 25) (fun v q => octs_conv (c := ctx F β w h1) (i := 64) (j := 5) (fun k hk => by show F.V.ρ (64 + k) = (F.V.oct 5 k : Nat); rw [e]; exact hB k hk) v (by rw [T8Ap12_s] at q; exact q)) r) r8Bp12_k r8Bp12 (by decide +kernel) ?_ (Td := T8p12)
  refine aWV_okSeq (a := 7) (n := 10) r9p12_k r9p12 ?_
  rw [dropSeq_add]
  refine aWV_ops2 (el := 17) (by decide +kernel) (by decide +kernel) (by decide +kernel) r25Ap12_k r25Ap12 (fun F β w vs e r => relL_set (i := 106) (fun v q => octs_conv (c := ctx F β w h25p12) (i := 64) (j := 5) (fun k hk => by show F.V.ρ (64 + k) = (F.V.oct 5 k : Nat); rw [e]; exact hB k hk) v (by rw [T25Ap12_s] at q; exact q)) r) r25Bp12_k r25Bp12 (by decide +kernel) ?_ (Td := T25p12)
  exact aWV_last (el := 18) (by decide +kernel) (by decide +kernel) r26p12_k r26p12 (Body.done (R := .bool true) (by kernel_rfl) (Nat.zero_le _) rfl)
theorem T7Ap2_s : T7Ap2.getD 22 .unk = aggN 60 := by kernel_rfl
theorem T8Ap20_s : T8Ap20.getD 25 .unk = aggN 64 := by kernel_rfl
theorem T25Ap20_s : T25Ap20.getD 106 .unk = aggN 64 := by kernel_rfl
theorem walk_p20 {V : Val} (hA : ∀ k, k < 4 → V.ρ (60 + k) = (V.oct 2 k : Nat)) (hB : ∀ k, k < 4 → V.ρ (64 + k) = (V.oct 3 k : Nat)) : aWV Tryz.prog V 0 body3 T0p [] Kfin := by
  refine aWV_okSeq (a := 0) (n := 5) r0p_k r0p ?_
  rw [dropSeq_add]
  refine aWV_ops2 (el := 5) (by decide +kernel) (by decide +kernel) (by decide +kernel) r7Ap2_k r7Ap2 (fun F β w vs e r => relL_set (i := 22) (fun v q => octs_conv (c := ctx F β w h1) (i := 60) (j := 2) (fun k hk => by show F.V.ρ (60 + k) = (F.V.oct 2 k : Nat); rw [e]; exact hA k hk) v (by rw [T7Ap2_s] at q; exact q)) r) r7Bp2_k r7Bp2 (by decide +kernel) ?_ (Td := T7p2)
  refine aWV_ops2 (el := 6) (by decide +kernel) (by decide +kernel) (by decide +kernel) r8Ap20_k r8Ap20 (fun F β w vs e r => relL_set (i := 25) (fun v q => octs_conv (c := ctx F β w h1) (i := 64) (j := 3) (fun k hk => by show F.V.ρ (64 + k) = (F.V.oct 3 k : Nat); rw [e]; exact hB k hk) v (by rw [T8Ap20_s] at q; exact q)) r) r8Bp20_k r8Bp20 (by decide +kernel) ?_ (Td := T8p20)
  refine aWV_okSeq (a := 7) (n := 10) r9p20_k r9p20 ?_
  rw [dropSeq_add]
  refine aWV_ops2 (el := 17) (by decide +kernel) (by decide +kernel) (by decide +kernel) r25Ap20_k r25Ap20 (fun F β w vs e r => relL_set (i := 106) (fun v q => octs_conv (c := ctx F β w h25p20) (i := 64) (j := 3) (fun k hk => by show F.V.ρ (64 + k) = (F.V.oct 3 k : Nat); rw [e]; exact hB k hk) v (by rw [T25Ap20_s] at q; exact q)) r) r25Bp20_k r25Bp20 (by decide +kernel) ?_ (Td := T25p20)
  exact aWV_last (el := 18) (by decide +kernel) (by decide +kernel) r26p20_k r26p20 (Body.done (R := .bool true) (by kernel_rfl) (Nat.zero_le _) rfl)
theorem T8Ap21_s : T8Ap21.getD 25 .unk = aggN 64 := by kernel_rfl
theorem T25Ap21_s : T25Ap21.getD 106 .unk = aggN 64 := by kernel_rfl
theorem walk_p21 {V : Val} (hA : ∀ k, k < 4 → V.ρ (60 + k) = (V.oct 2 k : Nat)) (hB : ∀ k, k < 4 → V.ρ (64 + k) = (V.oct 4 k : Nat)) : aWV Tryz.prog V 0 body3 T0p [] Kfin := by
  refine aWV_okSeq (a := 0) (n := 5) r0p_k r0p ?_
  rw [dropSeq_add]
  refine aWV_ops2 (el := 5) (by decide +kernel) (by decide +kernel) (by decide +kernel) r7Ap2_k r7Ap2 (fun F β w vs e r => relL_set (i := 22) (fun v q => octs_conv (c := ctx F β w h1) (i := 60) (j := 2) (fun k hk => by show F.V.ρ (60 + k) = (F.V.oct 2 k : Nat); rw [e]; exact hA k hk) v (by rw [T7Ap2_s] at q; exact q)) r) r7Bp2_k r7Bp2 (by decide +kernel) ?_ (Td := T7p2)
  refine aWV_ops2 (el := 6) (by decide +kernel) (by decide +kernel) (by decide +kernel) r8Ap21_k r8Ap21 (fun F β w vs e r => relL_set (i := 25) (fun v q => octs_conv (c := ctx F β w h1) (i := 64) (j := 4) (fun k hk => by show F.V.ρ (64 + k) = (F.V.oct 4 k : Nat); rw [e]; exact hB k hk) v (by rw [T8Ap21_s] at q; exact q)) r) r8Bp21_k r8Bp21 (by decide +kernel) ?_ (Td := T8p21)
  refine aWV_okSeq (a := 7) (n := 10) r9p21_k r9p21 ?_
  rw [dropSeq_add]
  refine aWV_ops2 (el := 17) (by decide +kernel) (by decide +kernel) (by decide +kernel) r25Ap21_k r25Ap21 (fun F β w vs e r => relL_set (i := 106) (fun v q => octs_conv (c := ctx F β w h25p21) (i := 64) (j := 4) (fun k hk => by show F.V.ρ (64 + k) = (F.V.oct 4 k : Nat); rw [e]; exact hB k hk) v (by rw [T25Ap21_s] at q; exact q)) r) r25Bp21_k r25Bp21 (by decide +kernel) ?_ (Td := T25p21)
  exact aWV_last (el := 18) (by decide +kernel) (by decide +kernel) r26p21_k r26p21 (Body.done (R := .bool true) (by kernel_rfl) (Nat.zero_le _) rfl)
theorem T8Ap22_s : T8Ap22.getD 25 .unk = aggN 64 := by kernel_rfl
theorem T25Ap22_s : T25Ap22.getD 106 .unk = aggN 64 := by kernel_rfl
theorem walk_p22 {V : Val} (hA : ∀ k, k < 4 → V.ρ (60 + k) = (V.oct 2 k : Nat)) (hB : ∀ k, k < 4 → V.ρ (64 + k) = (V.oct 5 k : Nat)) : aWV Tryz.prog V 0 body3 T0p [] Kfin := by
  refine aWV_okSeq (a := 0) (n := 5) r0p_k r0p ?_
  rw [dropSeq_add]
  refine aWV_ops2 (el := 5) (by decide +kernel) (by decide +kernel) (by decide +kernel) r7Ap2_k r7Ap2 (fun F β w vs e r => relL_set (i := 22) (fun v q => octs_conv (c := ctx F β w h1) (i := 60) (j := 2) (fun k hk => by show F.V.ρ (60 + k) = (F.V.oct 2 k : Nat); rw [e]; exact hA k hk) v (by rw [T7Ap2_s] at q; exact q)) r) r7Bp2_k r7Bp2 (by decide +kernel) ?_ (Td := T7p2)
  refine aWV_ops2 (el := 6) (by decide +kernel) (by decide +kernel) (by decide +kernel) r8Ap22_k r8Ap22 (fun F β w vs e r => relL_set (i := 25) (fun v q => octs_conv (c := ctx F β w h1) (i := 64) (j := 5) (fun k hk => by show F.V.ρ (64 + k) = (F.V.oct 5 k : Nat); rw [e]; exact hB k hk) v (by rw [T8Ap22_s] at q; exact q)) r) r8Bp22_k r8Bp22 (by decide +kernel) ?_ (Td := T8p22)
  refine aWV_okSeq (a := 7) (n := 10) r9p22_k r9p22 ?_
  rw [dropSeq_add]
  refine aWV_ops2 (el := 17) (by decide +kernel) (by decide +kernel) (by decide +kernel) r25Ap22_k r25Ap22 (fun F β w vs e r => relL_set (i := 106) (fun v q => octs_conv (c := ctx F β w h25p22) (i := 64) (j := 5) (fun k hk => by show F.V.ρ (64 + k) = (F.V.oct 5 k : Nat); rw [e]; exact hB k hk) v (by rw [T25Ap22_s] at q; exact q)) r) r25Bp22_k r25Bp22 (by decide +kernel) ?_ (Td := T25p22)
  exact aWV_last (el := 18) (by decide +kernel) (by decide +kernel) r26p22_k r26p22 (Body.done (R := .bool true) (by kernel_rfl) (Nat.zero_le _) rfl)
theorem T7As0_s : T7As0.getD 22 .unk = aggN 60 := by kernel_rfl
theorem T8As00_s : T8As00.getD 25 .unk = aggN 64 := by kernel_rfl
theorem T25As00_s : T25As00.getD 106 .unk = aggN 64 := by kernel_rfl
theorem walk_s00 {V : Val} (hA : ∀ k, k < 4 → V.ρ (60 + k) = (V.oct 0 k : Nat)) (hB : ∀ k, k < 4 → V.ρ (64 + k) = (V.oct 3 k : Nat)) : aWV Tryz.prog V 0 body3 T0s [] Kfin := by
  refine aWV_okSeq (a := 0) (n := 5) r0s_k r0s ?_
  rw [dropSeq_add]
  refine aWV_ops2 (el := 5) (by decide +kernel) (by decide +kernel) (by decide +kernel) r7As0_k r7As0 (fun F β w vs e r => relL_set (i := 22) (fun v q => octs_conv (c := ctx F β w h1) (i := 60) (j := 0) (fun k hk => by show F.V.ρ (60 + k) = (F.V.oct 0 k : Nat); rw [e]; exact hA k hk) v (by rw [T7As0_s] at q; exact q)) r) r7Bs0_k r7Bs0 (by decide +kernel) ?_ (Td := T7s0)
  refine aWV_ops2 (el := 6) (by decide +kernel) (by decide +kernel) (by decide +kernel) r8As00_k r8As00 (fun F β w vs e r => relL_set (i := 25) (fun v q => octs_conv (c := ctx F β w h1) (i := 64) (j := 3) (fun k hk => by show F.V.ρ (64 + k) = (F.V.oct 3 k : Nat); rw [e]; exact hB k hk) v (by rw [T8As00_s] at q; exact q)) r) r8Bs00_k r8Bs00 (by decide +kernel) ?_ (Td := T8s00)
  refine aWV_okSeq (a := 7) (n := 10) r9s00_k r9s00 ?_
  rw [dropSeq_add]
  refine aWV_ops2 (el := 17) (by decide +kernel) (by decide +kernel) (by decide +kernel) r25As00_k r25As00 (fun F β w vs e r => relL_set (i := 106) (fun v q => octs_conv (c := ctx F β w h25s00) (i := 64) (j := 3) (fun k hk => by show F.V.ρ (64 + k) = (F.V.oct 3 k : Nat); rw [e]; exact hB k hk) v (by rw [T25As00_s] at q; exact q)) r) r25Bs00_k r25Bs00 (by decide +kernel) ?_ (Td := T25s00)
  exact aWV_last (el := 18) (by decide +kernel) (by decide +kernel) r26s00_k r26s00 (Body.done (R := .bool true) (by kernel_rfl) (Nat.zero_le _) rfl)
theorem T8As01_s : T8As01.getD 25 .unk = aggN 64 := by kernel_rfl
theorem T25As01_s : T25As01.getD 106 .unk = aggN 64 := by kernel_rfl
theorem walk_s01 {V : Val} (hA : ∀ k, k < 4 → V.ρ (60 + k) = (V.oct 0 k : Nat)) (hB : ∀ k, k < 4 → V.ρ (64 + k) = (V.oct 4 k : Nat)) : aWV Tryz.prog V 0 body3 T0s [] Kfin := by
  refine aWV_okSeq (a := 0) (n := 5) r0s_k r0s ?_
  rw [dropSeq_add]
  refine aWV_ops2 (el := 5) (by decide +kernel) (by decide +kernel) (by decide +kernel) r7As0_k r7As0 (fun F β w vs e r => relL_set (i := 22) (fun v q => octs_conv (c := ctx F β w h1) (i := 60) (j := 0) (fun k hk => by show F.V.ρ (60 + k) = (F.V.oct 0 k : Nat); rw [e]; exact hA k hk) v (by rw [T7As0_s] at q; exact q)) r) r7Bs0_k r7Bs0 (by decide +kernel) ?_ (Td := T7s0)
  refine aWV_ops2 (el := 6) (by decide +kernel) (by decide +kernel) (by decide +kernel) r8As01_k r8As01 (fun F β w vs e r => relL_set (i := 25) (fun v q => octs_conv (c := ctx F β w h1) (i := 64) (j := 4) (fun k hk => by show F.V.ρ (64 + k) = (F.V.oct 4 k : Nat); rw [e]; exact hB k hk) v (by rw [T8As01_s] at q; exact q)) r) r8Bs01_k r8Bs01 (by decide +kernel) ?_ (Td := T8s01)
  refine aWV_okSeq (a := 7) (n := 10) r9s01_k r9s01 ?_
  rw [dropSeq_add]
  refine aWV_ops2 (el := 17) (by decide +kernel) (by decide +kernel) (by decide +kernel) r25As01_k r25As01 (fun F β w vs e r => relL_set (i := 106) (fun v q => octs_conv (c := ctx F β w h25s01) (i := 64) (j := 4) (fun k hk => by show F.V.ρ (64 + k) = (F.V.oct 4 k : Nat); rw [e]; exact hB k hk) v (by rw [T25As01_s] at q; exact q)) r) r25Bs01_k r25Bs01 (by decide +kernel) ?_ (Td := T25s01)
  exact aWV_last (el := 18) (by decide +kernel) (by decide +kernel) r26s01_k r26s01 (Body.done (R := .bool true) (by kernel_rfl) (Nat.zero_le _) rfl)
theorem T8As02_s : T8As02.getD 25 .unk = aggN 64 := by kernel_rfl
theorem T25As02_s : T25As02.getD 106 .unk = aggN 64 := by kernel_rfl
theorem walk_s02 {V : Val} (hA : ∀ k, k < 4 → V.ρ (60 + k) = (V.oct 0 k : Nat)) (hB : ∀ k, k < 4 → V.ρ (64 + k) = (V.oct 5 k : Nat)) : aWV Tryz.prog V 0 body3 T0s [] Kfin := by
  refine aWV_okSeq (a := 0) (n := 5) r0s_k r0s ?_
  rw [dropSeq_add]
  refine aWV_ops2 (el := 5) (by decide +kernel) (by decide +kernel) (by decide +kernel) r7As0_k r7As0 (fun F β w vs e r => relL_set (i := 22) (fun v q => octs_conv (c := ctx F β w h1) (i := 60) (j := 0) (fun k hk => by show F.V.ρ (60 + k) = (F.V.oct 0 k : Nat); rw [e]; exact hA k hk) v (by rw [T7As0_s] at q; exact q)) r) r7Bs0_k r7Bs0 (by decide +kernel) ?_ (Td := T7s0)
  refine aWV_ops2 (el := 6) (by decide +kernel) (by decide +kernel) (by decide +kernel) r8As02_k r8As02 (fun F β w vs e r => relL_set (i := 25) (fun v q => octs_conv (c := ctx F β w h1) (i := 64) (j := 5) (fun k hk => by show F.V.ρ (64 + k) = (F.V.oct 5 k : Nat); rw [e]; exact hB k hk) v (by rw [T8As02_s] at q; exact q)) r) r8Bs02_k r8Bs02 (by decide +kernel) ?_ (Td := T8s02)
  refine aWV_okSeq (a := 7) (n := 10) r9s02_k r9s02 ?_
  rw [dropSeq_add]
  refine aWV_ops2 (el := 17) (by decide +kernel) (by decide +kernel) (by decide +kernel) r25As02_k r25As02 (fun F β w vs e r => relL_set (i := 106) (fun v q => octs_conv (c := ctx F β w h25s02) (i := 64) (j := 5) (fun k hk => by show F.V.ρ (64 + k) = (F.V.oct 5 k : Nat); rw [e]; exact hB k hk) v (by rw [T25As02_s] at q; exact q)) r) r25Bs02_k r25Bs02 (by decide +kernel) ?_ (Td := T25s02)
  exact aWV_last (el := 18) (by decide +kernel) (by decide +kernel) r26s02_k r26s02 (Body.done (R := .bool true) (by kernel_rfl) (Nat.zero_le _) rfl)
theorem T7As1_s : T7As1.getD 22 .unk = aggN 60 := by kernel_rfl
theorem T8As10_s : T8As10.getD 25 .unk = aggN 64 := by kernel_rfl
theorem T25As10_s : T25As10.getD 106 .unk = aggN 64 := by kernel_rfl
theorem walk_s10 {V : Val} (hA : ∀ k, k < 4 → V.ρ (60 + k) = (V.oct 1 k : Nat)) (hB : ∀ k, k < 4 → V.ρ (64 + k) = (V.oct 3 k : Nat)) : aWV Tryz.prog V 0 body3 T0s [] Kfin := by
  refine aWV_okSeq (a := 0) (n := 5) r0s_k r0s ?_
  rw [dropSeq_add]
  refine aWV_ops2 (el := 5) (by decide +kernel) (by decide +kernel) (by decide +kernel) r7As1_k r7As1 (fun F β w vs e r => relL_set (i := 22) (fun v q => octs_conv (c := ctx F β w h1) (i := 60) (j := 1) (fun k hk => by show F.V.ρ (60 + k) = (F.V.oct 1 k : Nat); rw [e]; exact hA k hk) v (by rw [T7As1_s] at q; exact q)) r) r7Bs1_k r7Bs1 (by decide +kernel) ?_ (Td := T7s1)
  refine aWV_ops2 (el := 6) (by decide +kernel) (by decide +kernel) (by decide +kernel) r8As10_k r8As10 (fun F β w vs e r => relL_set (i := 25) (fun v q => octs_conv (c := ctx F β w h1) (i := 64) (j := 3) (fun k hk => by show F.V.ρ (64 + k) = (F.V.oct 3 k : Nat); rw [e]; exact hB k hk) v (by rw [T8As10_s] at q; exact q)) r) r8Bs10_k r8Bs10 (by decide +kernel) ?_ (Td := T8s10)
  refine aWV_okSeq (a := 7) (n := 10) r9s10_k r9s10 ?_
  rw [dropSeq_add]
  refine aWV_ops2 (el := 17) (by decide +kernel) (by decide +kernel) (by decide +kernel) r25As10_k r25As10 (fun F β w vs e r => relL_set (i := 106) (fun v q => octs_conv (c := ctx F β w h25s10) (i := 64) (j := 3) (fun k hk => by show F.V.ρ (64 + k) = (F.V.oct 3 k : Nat); rw [e]; exact hB k hk) v (by rw [T25As10_s] at q; exact q)) r) r25Bs10_k r25Bs10 (by decide +kernel) ?_ (Td := T25s10)
  exact aWV_last (el := 18) (by decide +kernel) (by decide +kernel) r26s10_k r26s10 (Body.done (R := .bool true) (by kernel_rfl) (Nat.zero_le _) rfl)
theorem T8As11_s : T8As11.getD 25 .unk = aggN 64 := by kernel_rfl
theorem T25As11_s : T25As11.getD 106 .unk = aggN 64 := by kernel_rfl
theorem walk_s11 {V : Val} (hA : ∀ k, k < 4 → V.ρ (60 + k) = (V.oct 1 k : Nat)) (hB : ∀ k, k < 4 → V.ρ (64 + k) = (V.oct 4 k : Nat)) : aWV Tryz.prog V 0 body3 T0s [] Kfin := by
  refine aWV_okSeq (a := 0) (n := 5) r0s_k r0s ?_
  rw [dropSeq_add]
  refine aWV_ops2 (el := 5) (by decide +kernel) (by decide +kernel) (by decide +kernel) r7As1_k r7As1 (fun F β w vs e r => relL_set (i := 22) (fun v q => octs_conv (c := ctx F β w h1) (i := 60) (j := 1) (fun k hk => by show F.V.ρ (60 + k) = (F.V.oct 1 k : Nat); rw [e]; exact hA k hk) v (by rw [T7As1_s] at q; exact q)) r) r7Bs1_k r7Bs1 (by decide +kernel) ?_ (Td := T7s1)
  refine aWV_ops2 (el := 6) (by decide +kernel) (by decide +kernel) (by decide +kernel) r8As11_k r8As11 (fun F β w vs e r => relL_set (i := 25) (fun v q => octs_conv (c := ctx F β w h1) (i := 64) (j := 4) (fun k hk => by show F.V.ρ (64 + k) = (F.V.oct 4 k : Nat); rw [e]; exact hB k hk) v (by rw [T8As11_s] at q; exact q)) r) r8Bs11_k r8Bs11 (by decide +kernel) ?_ (Td := T8s11)
  refine aWV_okSeq (a := 7) (n := 10) r9s11_k r9s11 ?_
  rw [dropSeq_add]
  refine aWV_ops2 (el := 17) (by decide +kernel) (by decide +kernel) (by decide +kernel) r25As11_k r25As11 (fun F β w vs e r => relL_set (i := 106) (fun v q => octs_conv (c := ctx F β w h25s11) (i := 64) (j := 4) (fun k hk => by show F.V.ρ (64 + k) = (F.V.oct 4 k : Nat); rw [e]; exact hB k hk) v (by rw [T25As11_s] at q; exact q)) r) r25Bs11_k r25Bs11 (by decide +kernel) ?_ (Td := T25s11)
  exact aWV_last (el := 18) (by decide +kernel) (by decide +kernel) r26s11_k r26s11 (Body.done (R := .bool true) (by kernel_rfl) (Nat.zero_le _) rfl)
theorem T8As12_s : T8As12.getD 25 .unk = aggN 64 := by kernel_rfl
theorem T25As12_s : T25As12.getD 106 .unk = aggN 64 := by kernel_rfl
theorem walk_s12 {V : Val} (hA : ∀ k, k < 4 → V.ρ (60 + k) = (V.oct 1 k : Nat)) (hB : ∀ k, k < 4 → V.ρ (64 + k) = (V.oct 5 k : Nat)) : aWV Tryz.prog V 0 body3 T0s [] Kfin := by
  refine aWV_okSeq (a := 0) (n := 5) r0s_k r0s ?_
  rw [dropSeq_add]
  refine aWV_ops2 (el := 5) (by decide +kernel) (by decide +kernel) (by decide +kernel) r7As1_k r7As1 (fun F β w vs e r => relL_set (i := 22) (fun v q => octs_conv (c := ctx F β w h1) (i := 60) (j := 1) (fun k hk => by show F.V.ρ (60 + k) = (F.V.oct 1 k : Nat); rw [e]; exact hA k hk) v (by rw [T7As1_s] at q; exact q)) r) r7Bs1_k r7Bs1 (by decide +kernel) ?_ (Td := T7s1)
  refine aWV_ops2 (el := 6) (by decide +kernel) (by decide +kernel) (by decide +kernel) r8As12_k r8As12 (fun F β w vs e r => relL_set (i := 25) (fun v q => octs_conv (c := ctx F β w h1) (i := 64) (j := 5) (fun k hk => by show F.V.ρ (64 + k) = (F.V.oct 5 k : Nat); rw [e]; exact hB k hk) v (by rw [T8As12_s] at q; exact q)) r) r8Bs12_k r8Bs12 (by decide +kernel) ?_ (Td := T8s12)
  refine aWV_okSeq (a := 7) (n := 10) r9s12_k r9s12 ?_
  rw [dropSeq_add]
  refine aWV_ops2 (el := 17) (by decide +kernel) (by decide +kernel) (by decide +kernel) r25As12_k r25As12 (fun F β w vs e r => relL_set (i := 106) (fun v q => octs_conv (c := ctx F β w h25s12) (i := 64) (j := 5) (fun k hk => by show F.V.ρ (64 + k) = (F.V.oct 5 k : Nat); rw [e]; exact hB k hk) v (by rw [T25As12_s] at q; exact q)) r) r25Bs12_k r25Bs12 (by decide +kernel) ?_ (Td := T25s12)
  exact aWV_last (el := 18) (by decide +kernel) (by decide +kernel) r26s12_k r26s12 (Body.done (R := .bool true) (by kernel_rfl) (Nat.zero_le _) rfl)
theorem T7As2_s : T7As2.getD 22 .unk = aggN 60 := by kernel_rfl
theorem T8As20_s : T8As20.getD 25 .unk = aggN 64 := by kernel_rfl
theorem T25As20_s : T25As20.getD 106 .unk = aggN 64 := by kernel_rfl
theorem walk_s20 {V : Val} (hA : ∀ k, k < 4 → V.ρ (60 + k) = (V.oct 2 k : Nat)) (hB : ∀ k, k < 4 → V.ρ (64 + k) = (V.oct 3 k : Nat)) : aWV Tryz.prog V 0 body3 T0s [] Kfin := by
  refine aWV_okSeq (a := 0) (n := 5) r0s_k r0s ?_
  rw [dropSeq_add]
  refine aWV_ops2 (el := 5) (by decide +kernel) (by decide +kernel) (by decide +kernel) r7As2_k r7As2 (fun F β w vs e r => relL_set (i := 22) (fun v q => octs_conv (c := ctx F β w h1) (i := 60) (j := 2) (fun k hk => by show F.V.ρ (60 + k) = (F.V.oct 2 k : Nat); rw [e]; exact hA k hk) v (by rw [T7As2_s] at q; exact q)) r) r7Bs2_k r7Bs2 (by decide +kernel) ?_ (Td := T7s2)
  refine aWV_ops2 (el := 6) (by decide +kernel) (by decide +kernel) (by decide +kernel) r8As20_k r8As20 (fun F β w vs e r => relL_set (i := 25) (fun v q => octs_conv (c := ctx F β w h1) (i := 64) (j := 3) (fun k hk => by show F.V.ρ (64 + k) = (F.V.oct 3 k : Nat); rw [e]; exact hB k hk) v (by rw [T8As20_s] at q; exact q)) r) r8Bs20_k r8Bs20 (by decide +kernel) ?_ (Td := T8s20)
  refine aWV_okSeq (a := 7) (n := 10) r9s20_k r9s20 ?_
  rw [dropSeq_add]
  refine aWV_ops2 (el := 17) (by decide +kernel) (by decide +kernel) (by decide +kernel) r25As20_k r25As20 (fun F β w vs e r => relL_set (i := 106) (fun v q => octs_conv (c := ctx F β w h25s20) (i := 64) (j := 3) (fun k hk => by show F.V.ρ (64 + k) = (F.V.oct 3 k : Nat); rw [e]; exact hB k hk) v (by rw [T25As20_s] at q; exact q)) r) r25Bs20_k r25Bs20 (by decide +kernel) ?_ (Td := T25s20)
  exact aWV_last (el := 18) (by decide +kernel) (by decide +kernel) r26s20_k r26s20 (Body.done (R := .bool true) (by kernel_rfl) (Nat.zero_le _) rfl)
theorem T8As21_s : T8As21.getD 25 .unk = aggN 64 := by kernel_rfl
theorem T25As21_s : T25As21.getD 106 .unk = aggN 64 := by kernel_rfl
theorem walk_s21 {V : Val} (hA : ∀ k, k < 4 → V.ρ (60 + k) = (V.oct 2 k : Nat)) (hB : ∀ k, k < 4 → V.ρ (64 + k) = (V.oct 4 k : Nat)) : aWV Tryz.prog V 0 body3 T0s [] Kfin := by
  refine aWV_okSeq (a := 0) (n := 5) r0s_k r0s ?_
  rw [dropSeq_add]
  refine aWV_ops2 (el := 5) (by decide +kernel) (by decide +kernel) (by decide +kernel) r7As2_k r7As2 (fun F β w vs e r => relL_set (i := 22) (fun v q => octs_conv (c := ctx F β w h1) (i := 60) (j := 2) (fun k hk => by show F.V.ρ (60 + k) = (F.V.oct 2 k : Nat); rw [e]; exact hA k hk) v (by rw [T7As2_s] at q; exact q)) r) r7Bs2_k r7Bs2 (by decide +kernel) ?_ (Td := T7s2)
  refine aWV_ops2 (el := 6) (by decide +kernel) (by decide +kernel) (by decide +kernel) r8As21_k r8As21 (fun F β w vs e r => relL_set (i := 25) (fun v q => octs_conv (c := ctx F β w h1) (i := 64) (j := 4) (fun k hk => by show F.V.ρ (64 + k) = (F.V.oct 4 k : Nat); rw [e]; exact hB k hk) v (by rw [T8As21_s] at q; exact q)) r) r8Bs21_k r8Bs21 (by decide +kernel) ?_ (Td := T8s21)
  refine aWV_okSeq (a := 7) (n := 10) r9s21_k r9s21 ?_
  rw [dropSeq_add]
  refine aWV_ops2 (el := 17) (by decide +kernel) (by decide +kernel) (by decide +kernel) r25As21_k r25As21 (fun F β w vs e r => relL_set (i := 106) (fun v q => octs_conv (c := ctx F β w h25s21) (i := 64) (j := 4) (fun k hk => by show F.V.ρ (64 + k) = (F.V.oct 4 k : Nat); rw [e]; exact hB k hk) v (by rw [T25As21_s] at q; exact q)) r) r25Bs21_k r25Bs21 (by decide +kernel) ?_ (Td := T25s21)
  exact aWV_last (el := 18) (by decide +kernel) (by decide +kernel) r26s21_k r26s21 (Body.done (R := .bool true) (by kernel_rfl) (Nat.zero_le _) rfl)
theorem T8As22_s : T8As22.getD 25 .unk = aggN 64 := by kernel_rfl
theorem T25As22_s : T25As22.getD 106 .unk = aggN 64 := by kernel_rfl
theorem walk_s22 {V : Val} (hA : ∀ k, k < 4 → V.ρ (60 + k) = (V.oct 2 k : Nat)) (hB : ∀ k, k < 4 → V.ρ (64 + k) = (V.oct 5 k : Nat)) : aWV Tryz.prog V 0 body3 T0s [] Kfin := by
  refine aWV_okSeq (a := 0) (n := 5) r0s_k r0s ?_
  rw [dropSeq_add]
  refine aWV_ops2 (el := 5) (by decide +kernel) (by decide +kernel) (by decide +kernel) r7As2_k r7As2 (fun F β w vs e r => relL_set (i := 22) (fun v q => octs_conv (c := ctx F β w h1) (i := 60) (j := 2) (fun k hk => by show F.V.ρ (60 + k) = (F.V.oct 2 k : Nat); rw [e]; exact hA k hk) v (by rw [T7As2_s] at q; exact q)) r) r7Bs2_k r7Bs2 (by decide +kernel) ?_ (Td := T7s2)
  refine aWV_ops2 (el := 6) (by decide +kernel) (by decide +kernel) (by decide +kernel) r8As22_k r8As22 (fun F β w vs e r => relL_set (i := 25) (fun v q => octs_conv (c := ctx F β w h1) (i := 64) (j := 5) (fun k hk => by show F.V.ρ (64 + k) = (F.V.oct 5 k : Nat); rw [e]; exact hB k hk) v (by rw [T8As22_s] at q; exact q)) r) r8Bs22_k r8Bs22 (by decide +kernel) ?_ (Td := T8s22)
  refine aWV_okSeq (a := 7) (n := 10) r9s22_k r9s22 ?_
  rw [dropSeq_add]
  refine aWV_ops2 (el := 17) (by decide +kernel) (by decide +kernel) (by decide +kernel) r25As22_k r25As22 (fun F β w vs e r => relL_set (i := 106) (fun v q => octs_conv (c := ctx F β w h25s22) (i := 64) (j := 5) (fun k hk => by show F.V.ρ (64 + k) = (F.V.oct 5 k : Nat); rw [e]; exact hB k hk) v (by rw [T25As22_s] at q; exact q)) r) r25Bs22_k r25Bs22 (by decide +kernel) ?_ (Td := T25s22)
  exact aWV_last (el := 18) (by decide +kernel) (by decide +kernel) r26s22_k r26s22 (Body.done (R := .bool true) (by kernel_rfl) (Nat.zero_le _) rfl)
theorem tf_rel {c : Ctx} {l : List (Nat × AV)} {T : List AV} {vs : List Value} (hT : RelL c T vs) (hlen : T.length = 152) (hl : ∀ p ∈ l, ∃ x, T[p.1]? = some x ∧ ∀ v, Rel c x v → Rel c p.2 v) : RelL c (tf l) vs := by
  have hvs : vs.length = 152 := by rw [← hT.length]; exact hlen
  refine relL_of_get (by simp [tf, hvs]) ?_
  intro i x y hx hy
  unfold tf at hx
  rw [List.getElem?_map] at hx
  have hi : i < 152 := by
    rcases Nat.lt_or_ge i 152 with q | q
    · exact q
    · rw [List.getElem?_eq_none (by omega)] at hy; cases hy
  rw [List.getElem?_range hi] at hx
  simp only [Option.map_some, Option.some.injEq] at hx
  cases hf : l.find? fun x => Nat.beq x.1 i with
  | none => rw [hf] at hx; simp only at hx; subst hx; exact trivial
  | some p =>
    rw [hf] at hx
    simp only at hx
    subst hx
    have hm := List.mem_of_find?_eq_some hf
    have hb := List.find?_some hf
    have hb := Nat.eq_of_beq_eq_true hb
    obtain ⟨x, h1, h2⟩ := hl p hm
    rw [hb] at h1
    obtain ⟨y', h3, h4⟩ := hT.get h1
    rw [hy] at h3
    cases h3
    exact h2 _ h4
theorem eA_is : eA = fourE 60 := by kernel_rfl
theorem eB_is : eB = fourE 64 := by kernel_rfl
theorem walk_all (a b : Nat) (sec : Bool) : aWV Tryz.prog (argV a b) 0 body3 (if sec then T0s else T0p) [] Kfin := by
  have ha : spcN a ≤ 2 := spaceF_le _ _ _ _
  have hb : spcN b ≤ 2 := spaceF_le _ _ _ _
  have hA := argV_a a b
  have hB := argV_b a b
  rcases (show spcN a = 0 ∨ spcN a = 1 ∨ spcN a = 2 by omega) with h1 | h1 | h1 <;> rcases (show spcN b = 0 ∨ spcN b = 1 ∨ spcN b = 2 by omega) with h2 | h2 | h2 <;> rw [h1] at hA <;> rw [h2] at hB <;> cases sec
  · exact walk_p00 hA hB
  · exact walk_s00 hA hB
  · exact walk_p01 hA hB
  · exact walk_s01 hA hB
  · exact walk_p02 hA hB
  · exact walk_s02 hA hB
  · exact walk_p10 hA hB
  · exact walk_s10 hA hB
  · exact walk_p11 hA hB
  · exact walk_s11 hA hB
  · exact walk_p12 hA hB
  · exact walk_s12 hA hB
  · exact walk_p20 hA hB
  · exact walk_s20 hA hB
  · exact walk_p21 hA hB
  · exact walk_s21 hA hB
  · exact walk_p22 hA hB
  · exact walk_s22 hA hB
/-- The law's call returns true. -/
theorem law3 (a b : Nat) (sec : Bool) (ha : a < 4294967296) (hb : b < 4294967296) (w : World) (hg : GSt (fun _ => False) w) :
    Calls Tryz.prog 3 #[.int .u32 a, .int .u32 b, .bool sec] w fun e w' => e = .returned (.bool true) ∧ Go.RowKit.Below w.heap.size w w' := by
  have hbd : Tryz.f3.body = some body3 := by kernel_rfl
  refine lawV (args := [.int .u32 a, .int .u32 b, .bool sec]) (argV a b) Tryz.func3 hbd (by decide +kernel) ?_ w _ hg ⟨_, _, rfl, rfl, _, _, rfl, rfl, _, _, rfl, rfl, rfl⟩
  have hn : Tryz.f3.ntmps - [AV.int .u32 a, AV.int .u32 b, AV.bool sec].length = 149 := by rw [Tryz.ntmps3]; rfl
  rw [hn]
  have fit : ∀ (F : Fr) (β : Nat → Nat) (w : World) vs, F.V = argV a b → RelL (ctx F β w []) ([AV.int .u32 a, AV.int .u32 b, AV.bool sec] ++ List.replicate 149 (.tup [])) vs → RelL (ctx F β w []) (tf [(0, .lin .u32 eA), (1, .lin .u32 eB), (2, .bool sec)]) vs := by
    intro F β w vs e r
    refine tf_rel r rfl ?_
    intro p hp
    simp only [List.mem_cons, List.mem_nil_iff, or_false] at hp
    rcases hp with rfl | rfl | rfl
    · refine ⟨_, rfl, fun v q => ?_⟩
      have q : v = .int .u32 a := q
      show v = .int .u32 (linV F.V.ρ eA)
      rw [e, eA_is, argV_eA a b ha]; exact q
    · refine ⟨_, rfl, fun v q => ?_⟩
      have q : v = .int .u32 b := q
      show v = .int .u32 (linV F.V.ρ eB)
      rw [e, eB_is, argV_eB a b hb]; exact q
    · exact ⟨_, rfl, fun v q => q⟩
  have wk := walk_all a b sec
  cases sec with
  | true => exact aWV_same (T' := T0s) (h' := []) (fun _ _ _ _ => rfl) rfl (fun _ => rfl) (fun _ _ _ _ s => s) fit wk
  | false => exact aWV_same (T' := T0p) (h' := []) (fun _ _ _ _ => rfl) rfl (fun _ => rfl) (fun _ _ _ _ s => s) fit wk
end Go.Proofs
