/- The regions of TopGrants, each by a run in the kernel. No condition. -/
import Derived.Test.YtodclgipiinddaaGreatDoorK9
set_option linter.unusedVariables false
set_option linter.unusedSimpArgs false
namespace Go.Proofs
open Go Go.AH
set_option maxRecDepth 100000
noncomputable def C6 : Code := sndC (sndC (sndC (sndC (sndC body3))))
noncomputable def C7 : Code := sndC C6
noncomputable def C9 : Code := sndC C7
noncomputable def C10 : Code := sndC C9
noncomputable def C11 : Code := sndC C10
noncomputable def C12 : Code := sndC C11
noncomputable def C13 : Code := sndC C12
noncomputable def C14 : Code := sndC C13
noncomputable def C15 : Code := sndC C14
noncomputable def C16 : Code := sndC C15
noncomputable def C17 : Code := sndC C16
noncomputable def C19 : Code := sndC C17
theorem r6g : okReg (fstC C6) [e592] T5g h5g T6g h6g = true := by decide +kernel
theorem r6g_k : ∀ e ∈ [e592], KOk e := (kok_cons k592 kok_nil)
theorem r7g : okReg (fstC (fstC C7)) [] T6g h6g T7g h7g = true := by decide +kernel
theorem r7g_k : ∀ e ∈ ([] : List KCall), KOk e := kok_nil
theorem r9g : okReg (fstC C9) [e1375] T7g h7g T9g h9g = true := by decide +kernel
theorem r9g_k : ∀ e ∈ [e1375], KOk e := (kok_cons k1375 kok_nil)
theorem r10g : okReg (fstC C10) [e2009] T9g h9g T10g h10g = true := by decide +kernel
theorem r10g_k : ∀ e ∈ [e2009], KOk e := (kok_cons k2009 kok_nil)
theorem r11g : okReg (fstC C11) [e2726] T10g h10g T11g h11g = true := by decide +kernel
theorem r11g_k : ∀ e ∈ [e2726], KOk e := (kok_cons k2726 kok_nil)
theorem r12g2 : okReg (fstC C12) [e3416, e2729] (sbL (sA 2) T11g) (sbH (sA 2) h11g) (sbL (sA 2) T12g) (sbH (sA 2) h12g) = true := by decide +kernel
theorem r12g2_k : ∀ e ∈ [e3416, e2729], KOk e := (kok_cons k3416 (kok_cons k2729 kok_nil))
theorem r12g0 : okReg (fstC C12) [e3499, e2727] (sbL (sA 0) T11g) (sbH (sA 0) h11g) (sbL (sA 0) T12g) (sbH (sA 0) h12g) = true := by decide +kernel
theorem r12g0_k : ∀ e ∈ [e3499, e2727], KOk e := (kok_cons k3499 (kok_cons k2727 kok_nil))
theorem r12g1 : okReg (fstC C12) [e3583, e2728] (sbL (sA 1) T11g) (sbH (sA 1) h11g) (sbL (sA 1) T12g) (sbH (sA 1) h12g) = true := by decide +kernel
theorem r12g1_k : ∀ e ∈ [e3583, e2728], KOk e := (kok_cons k3583 (kok_cons k2728 kok_nil))
theorem r12g3 : okReg (fstC C12) [e3680, e3587] (sbL (sA 3) T11g) (sbH (sA 3) h11g) (sbL (sA 3) T12g) (sbH (sA 3) h12g) = true := by decide +kernel
theorem r12g3_k : ∀ e ∈ [e3680, e3587], KOk e := (kok_cons k3680 (kok_cons k3587 kok_nil))
theorem r12g4 : okReg (fstC C12) [e3770, e3684] (sbL (sA 4) T11g) (sbH (sA 4) h11g) (sbL (sA 4) T12g) (sbH (sA 4) h12g) = true := by decide +kernel
theorem r12g4_k : ∀ e ∈ [e3770, e3684], KOk e := (kok_cons k3770 (kok_cons k3684 kok_nil))
theorem r12g5 : okReg (fstC C12) [e3863, e3773] (sbL (sA 5) T11g) (sbH (sA 5) h11g) (sbL (sA 5) T12g) (sbH (sA 5) h12g) = true := by decide +kernel
theorem r12g5_k : ∀ e ∈ [e3863, e3773], KOk e := (kok_cons k3863 (kok_cons k3773 kok_nil))
theorem r13g : okReg (fstC C13) [e3959] T12g h12g T13g h13g = true := by decide +kernel
theorem r13g_k : ∀ e ∈ [e3959], KOk e := (kok_cons k3959 kok_nil)
theorem r14g2 : okReg (fstC C14) [e3985, e3962] (sbL (sN 2) T13g) (sbH (sN 2) h13g) (sbL (sN 2) T14g) (sbH (sN 2) h14g) = true := by decide +kernel
theorem r14g2_k : ∀ e ∈ [e3985, e3962], KOk e := (kok_cons k3985 (kok_cons k3962 kok_nil))
theorem r14g0 : okReg (fstC C14) [e3997, e3986] (sbL (sN 0) T13g) (sbH (sN 0) h13g) (sbL (sN 0) T14g) (sbH (sN 0) h14g) = true := by decide +kernel
theorem r14g0_k : ∀ e ∈ [e3997, e3986], KOk e := (kok_cons k3997 (kok_cons k3986 kok_nil))
theorem r14g1 : okReg (fstC C14) [e4008, e3961] (sbL (sN 1) T13g) (sbH (sN 1) h13g) (sbL (sN 1) T14g) (sbH (sN 1) h14g) = true := by decide +kernel
theorem r14g1_k : ∀ e ∈ [e4008, e3961], KOk e := (kok_cons k4008 (kok_cons k3961 kok_nil))
theorem r14g3 : okReg (fstC C14) [e4023, e4009] (sbL (sN 3) T13g) (sbH (sN 3) h13g) (sbL (sN 3) T14g) (sbH (sN 3) h14g) = true := by decide +kernel
theorem r14g3_k : ∀ e ∈ [e4023, e4009], KOk e := (kok_cons k4023 (kok_cons k4009 kok_nil))
theorem r15gt : okReg (fstC C15) [e5039] (sbL sCt T14g) (sbH sCt h14g) T15gt h15gt = true := by decide +kernel
theorem r15gt_k : ∀ e ∈ [e5039], KOk e := (kok_cons k5039 kok_nil)
theorem r16gt : okReg (fstC C16) [] T15gt h15gt T16gt h16gt = true := by decide +kernel
theorem r16gt_k : ∀ e ∈ ([] : List KCall), KOk e := kok_nil
theorem r17gt : okReg (fstC (fstC C17)) [] T16gt h16gt T17gt h17gt = true := by decide +kernel
theorem r17gt_k : ∀ e ∈ ([] : List KCall), KOk e := kok_nil
theorem r18gt : okReg (fstC (thenC (sndC (fstC C17)))) [e5155] T17gt h17gt T18gt h18gt = true := by decide +kernel
theorem r18gt_k : ∀ e ∈ [e5155], KOk e := (kok_cons k5155 kok_nil)
theorem r15gf : okReg (fstC C15) [e5194] (sbL sCf T14g) (sbH sCf h14g) T15gf h15gf = true := by decide +kernel
theorem r15gf_k : ∀ e ∈ [e5194], KOk e := (kok_cons k5194 kok_nil)
theorem r16gf : okReg (fstC C16) [] T15gf h15gf T16gf h16gf = true := by decide +kernel
theorem r16gf_k : ∀ e ∈ ([] : List KCall), KOk e := kok_nil
theorem r17gf : okReg (fstC (fstC C17)) [] T16gf h16gf T17gf h17gf = true := by decide +kernel
theorem r17gf_k : ∀ e ∈ ([] : List KCall), KOk e := kok_nil
theorem r19gf : okReg (fstC C19) [e5155] T17gf h17gf T19gf h19gf = true := by decide +kernel
theorem r19gf_k : ∀ e ∈ [e5155], KOk e := (kok_cons k5155 kok_nil)
theorem r6p : okReg (fstC C6) [e592] T5p h5p T6p h6p = true := by decide +kernel
theorem r6p_k : ∀ e ∈ [e592], KOk e := (kok_cons k592 kok_nil)
theorem r7p : okReg (fstC (fstC C7)) [] T6p h6p T7p h7p = true := by decide +kernel
theorem r7p_k : ∀ e ∈ ([] : List KCall), KOk e := kok_nil
theorem r9p : okReg (fstC C9) [e1375] T7p h7p T9p h9p = true := by decide +kernel
theorem r9p_k : ∀ e ∈ [e1375], KOk e := (kok_cons k1375 kok_nil)
theorem r10p : okReg (fstC C10) [e5219] T9p h9p T10p h10p = true := by decide +kernel
theorem r10p_k : ∀ e ∈ [e5219], KOk e := (kok_cons k5219 kok_nil)
theorem r11p : okReg (fstC C11) [e5238] T10p h10p T11p h11p = true := by decide +kernel
theorem r11p_k : ∀ e ∈ [e5238], KOk e := (kok_cons k5238 kok_nil)
theorem r12p2 : okReg (fstC C12) [e5345, e2729] (sbL (sA 2) T11p) (sbH (sA 2) h11p) (sbL (sA 2) T12p) (sbH (sA 2) h12p) = true := by decide +kernel
theorem r12p2_k : ∀ e ∈ [e5345, e2729], KOk e := (kok_cons k5345 (kok_cons k2729 kok_nil))
theorem r12p0 : okReg (fstC C12) [e5400, e2727] (sbL (sA 0) T11p) (sbH (sA 0) h11p) (sbL (sA 0) T12p) (sbH (sA 0) h12p) = true := by decide +kernel
theorem r12p0_k : ∀ e ∈ [e5400, e2727], KOk e := (kok_cons k5400 (kok_cons k2727 kok_nil))
theorem r12p1 : okReg (fstC C12) [e5455, e2728] (sbL (sA 1) T11p) (sbH (sA 1) h11p) (sbL (sA 1) T12p) (sbH (sA 1) h12p) = true := by decide +kernel
theorem r12p1_k : ∀ e ∈ [e5455, e2728], KOk e := (kok_cons k5455 (kok_cons k2728 kok_nil))
theorem r12p3 : okReg (fstC C12) [e5510, e3587] (sbL (sA 3) T11p) (sbH (sA 3) h11p) (sbL (sA 3) T12p) (sbH (sA 3) h12p) = true := by decide +kernel
theorem r12p3_k : ∀ e ∈ [e5510, e3587], KOk e := (kok_cons k5510 (kok_cons k3587 kok_nil))
theorem r12p4 : okReg (fstC C12) [e5565, e3684] (sbL (sA 4) T11p) (sbH (sA 4) h11p) (sbL (sA 4) T12p) (sbH (sA 4) h12p) = true := by decide +kernel
theorem r12p4_k : ∀ e ∈ [e5565, e3684], KOk e := (kok_cons k5565 (kok_cons k3684 kok_nil))
theorem r12p5 : okReg (fstC C12) [e5620, e3773] (sbL (sA 5) T11p) (sbH (sA 5) h11p) (sbL (sA 5) T12p) (sbH (sA 5) h12p) = true := by decide +kernel
theorem r12p5_k : ∀ e ∈ [e5620, e3773], KOk e := (kok_cons k5620 (kok_cons k3773 kok_nil))
theorem r13p : okReg (fstC C13) [e5632] T12p h12p T13p h13p = true := by decide +kernel
theorem r13p_k : ∀ e ∈ [e5632], KOk e := (kok_cons k5632 kok_nil)
theorem r14p2 : okReg (fstC C14) [e5638, e3962] (sbL (sN 2) T13p) (sbH (sN 2) h13p) (sbL (sN 2) T14p) (sbH (sN 2) h14p) = true := by decide +kernel
theorem r14p2_k : ∀ e ∈ [e5638, e3962], KOk e := (kok_cons k5638 (kok_cons k3962 kok_nil))
theorem r14p0 : okReg (fstC C14) [e5644, e3986] (sbL (sN 0) T13p) (sbH (sN 0) h13p) (sbL (sN 0) T14p) (sbH (sN 0) h14p) = true := by decide +kernel
theorem r14p0_k : ∀ e ∈ [e5644, e3986], KOk e := (kok_cons k5644 (kok_cons k3986 kok_nil))
theorem r14p1 : okReg (fstC C14) [e5650, e3961] (sbL (sN 1) T13p) (sbH (sN 1) h13p) (sbL (sN 1) T14p) (sbH (sN 1) h14p) = true := by decide +kernel
theorem r14p1_k : ∀ e ∈ [e5650, e3961], KOk e := (kok_cons k5650 (kok_cons k3961 kok_nil))
theorem r14p3 : okReg (fstC C14) [e5656, e4009] (sbL (sN 3) T13p) (sbH (sN 3) h13p) (sbL (sN 3) T14p) (sbH (sN 3) h14p) = true := by decide +kernel
theorem r14p3_k : ∀ e ∈ [e5656, e4009], KOk e := (kok_cons k5656 (kok_cons k4009 kok_nil))
theorem r15pt : okReg (fstC C15) [e5690] (sbL sCt T14p) (sbH sCt h14p) T15pt h15pt = true := by decide +kernel
theorem r15pt_k : ∀ e ∈ [e5690], KOk e := (kok_cons k5690 kok_nil)
theorem r16pt : okReg (fstC C16) [] T15pt h15pt T16pt h16pt = true := by decide +kernel
theorem r16pt_k : ∀ e ∈ ([] : List KCall), KOk e := kok_nil
theorem r17pt : okReg (fstC (fstC C17)) [] T16pt h16pt T17pt h17pt = true := by decide +kernel
theorem r17pt_k : ∀ e ∈ ([] : List KCall), KOk e := kok_nil
theorem r18pt : okReg (fstC (thenC (sndC (fstC C17)))) [e5155] T17pt h17pt T18pt h18pt = true := by decide +kernel
theorem r18pt_k : ∀ e ∈ [e5155], KOk e := (kok_cons k5155 kok_nil)
theorem r15pf : okReg (fstC C15) [e5711] (sbL sCf T14p) (sbH sCf h14p) T15pf h15pf = true := by decide +kernel
theorem r15pf_k : ∀ e ∈ [e5711], KOk e := (kok_cons k5711 kok_nil)
theorem r16pf : okReg (fstC C16) [] T15pf h15pf T16pf h16pf = true := by decide +kernel
theorem r16pf_k : ∀ e ∈ ([] : List KCall), KOk e := kok_nil
theorem r17pf : okReg (fstC (fstC C17)) [] T16pf h16pf T17pf h17pf = true := by decide +kernel
theorem r17pf_k : ∀ e ∈ ([] : List KCall), KOk e := kok_nil
theorem r19pf : okReg (fstC C19) [e5155] T17pf h17pf T19pf h19pf = true := by decide +kernel
theorem r19pf_k : ∀ e ∈ [e5155], KOk e := (kok_cons k5155 kok_nil)
end Go.Proofs
