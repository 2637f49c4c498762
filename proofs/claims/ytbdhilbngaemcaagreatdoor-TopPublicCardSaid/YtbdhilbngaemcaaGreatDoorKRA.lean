/- The parts of TopPublic, each by a run in the kernel. No condition. -/
import Derived.Test.YtbdhilbngaemcaaGreatDoorK8
import Derived.Test.YtbdhilbngaemcaaGreatDoorAV
set_option linter.unusedVariables false
set_option linter.unusedSimpArgs false
namespace Go.Proofs
open Go Go.AH
set_option maxRecDepth 100000
theorem r0p : okSeq 0 5 [n592] T0p [] T5p h1 = true := by decide +kernel
theorem r0p_k : ∀ e ∈ ([n592] : List KCall), KOk e := (kok_cons nk592 kok_nil)
theorem r7Ap0 : okOps (runOps Tryz.prog (rAll Tryz.prog (IT (spL [])) 3000).call (opsC (fstC (dropSeq 5 body3))) 0 2 T5p h1) T7Ap0 h1 = true := by decide +kernel
theorem r7Ap0_k : ∀ e ∈ ([] : List KCall), KOk e := kok_nil
theorem r7Bp0 : okOps (runOps Tryz.prog (rAll Tryz.prog (IT (spL [(jCall 0 c0)])) 3000).call (opsC (fstC (dropSeq 5 body3))) 2 2 T7Bp0 h1) T7Cp0 h1 = true := by decide +kernel
theorem r7Bp0_k : ∀ e ∈ ([(jCall 0 c0)] : List KCall), KOk e := (kok_cons (c0_k 0) kok_nil)
theorem r8Ap00 : okOps (runOps Tryz.prog (rAll Tryz.prog (IT (spL [n595])) 3000).call (opsC (fstC (dropSeq 6 body3))) 0 2 T7p0 h1) T8Ap00 h1 = true := by decide +kernel
theorem r8Ap00_k : ∀ e ∈ ([n595] : List KCall), KOk e := (kok_cons nk595 kok_nil)
theorem r8Bp00 : okOps (runOps Tryz.prog (rAll Tryz.prog (IT (spL [(jCall 3 c0)])) 3000).call (opsC (fstC (dropSeq 6 body3))) 2 2 T8Bp00 h1) T8Cp00 h1 = true := by decide +kernel
theorem r8Bp00_k : ∀ e ∈ ([(jCall 3 c0)] : List KCall), KOk e := (kok_cons (c0_k 3) kok_nil)
theorem r25Ap00 : okOps (runOps Tryz.prog (rAll Tryz.prog (IT (spL [n595, n1608])) 3000).call (opsC (fstC (dropSeq 17 body3))) 0 3 T24p00 h24p00) T25Ap00 h25p00 = true := by decide +kernel
theorem r25Ap00_k : ∀ e ∈ ([n595, n1608] : List KCall), KOk e := (kok_cons nk595 (kok_cons nk1608 kok_nil))
theorem r25Bp00 : okOps (runOps Tryz.prog (rAll Tryz.prog (IT (spL [(ofr 3)])) 3000).call (opsC (fstC (dropSeq 17 body3))) 3 3 T25Bp00 h25p00) T25Cp00 h25p00 = true := by decide +kernel
theorem r25Bp00_k : ∀ e ∈ ([(ofr 3)] : List KCall), KOk e := (kok_cons (ofr_k 3 (by decide)) kok_nil)
theorem r26p00 : okReg (fstC (dropSeq 18 body3)) [n2858] T25p00 h25p00 T26p00 h25p00 = true := by decide +kernel
theorem r26p00_k : ∀ e ∈ ([n2858] : List KCall), KOk e := (kok_cons nk2858 kok_nil)
theorem r8Ap01 : okOps (runOps Tryz.prog (rAll Tryz.prog (IT (spL [n595])) 3000).call (opsC (fstC (dropSeq 6 body3))) 0 2 T7p0 h1) T8Ap01 h1 = true := by decide +kernel
theorem r8Ap01_k : ∀ e ∈ ([n595] : List KCall), KOk e := (kok_cons nk595 kok_nil)
theorem r8Bp01 : okOps (runOps Tryz.prog (rAll Tryz.prog (IT (spL [(jCall 4 c0)])) 3000).call (opsC (fstC (dropSeq 6 body3))) 2 2 T8Bp01 h1) T8Cp01 h1 = true := by decide +kernel
theorem r8Bp01_k : ∀ e ∈ ([(jCall 4 c0)] : List KCall), KOk e := (kok_cons (c0_k 4) kok_nil)
theorem r25Ap01 : okOps (runOps Tryz.prog (rAll Tryz.prog (IT (spL [n595, n1608])) 3000).call (opsC (fstC (dropSeq 17 body3))) 0 3 T24p01 h24p01) T25Ap01 h25p01 = true := by decide +kernel
theorem r25Ap01_k : ∀ e ∈ ([n595, n1608] : List KCall), KOk e := (kok_cons nk595 (kok_cons nk1608 kok_nil))
theorem r25Bp01 : okOps (runOps Tryz.prog (rAll Tryz.prog (IT (spL [(ofr 4)])) 3000).call (opsC (fstC (dropSeq 17 body3))) 3 3 T25Bp01 h25p01) T25Cp01 h25p01 = true := by decide +kernel
theorem r25Bp01_k : ∀ e ∈ ([(ofr 4)] : List KCall), KOk e := (kok_cons (ofr_k 4 (by decide)) kok_nil)
theorem r26p01 : okReg (fstC (dropSeq 18 body3)) [n2858] T25p01 h25p01 T26p01 h25p01 = true := by decide +kernel
theorem r26p01_k : ∀ e ∈ ([n2858] : List KCall), KOk e := (kok_cons nk2858 kok_nil)
theorem r8Ap02 : okOps (runOps Tryz.prog (rAll Tryz.prog (IT (spL [n595])) 3000).call (opsC (fstC (dropSeq 6 body3))) 0 2 T7p0 h1) T8Ap02 h1 = true := by decide +kernel
theorem r8Ap02_k : ∀ e ∈ ([n595] : List KCall), KOk e := (kok_cons nk595 kok_nil)
theorem r8Bp02 : okOps (runOps Tryz.prog (rAll Tryz.prog (IT (spL [(jCall 5 c0)])) 3000).call (opsC (fstC (dropSeq 6 body3))) 2 2 T8Bp02 h1) T8Cp02 h1 = true := by decide +kernel
theorem r8Bp02_k : ∀ e ∈ ([(jCall 5 c0)] : List KCall), KOk e := (kok_cons (c0_k 5) kok_nil)
theorem r25Ap02 : okOps (runOps Tryz.prog (rAll Tryz.prog (IT (spL [n595, n1608])) 3000).call (opsC (fstC (dropSeq 17 body3))) 0 3 T24p02 h24p02) T25Ap02 h25p02 = true := by decide +kernel
theorem r25Ap02_k : ∀ e ∈ ([n595, n1608] : List KCall), KOk e := (kok_cons nk595 (kok_cons nk1608 kok_nil))
theorem r25Bp02 : okOps (runOps Tryz.prog (rAll Tryz.prog (IT (spL [(ofr 5)])) 3000).call (opsC (fstC (dropSeq 17 body3))) 3 3 T25Bp02 h25p02) T25Cp02 h25p02 = true := by decide +kernel
theorem r25Bp02_k : ∀ e ∈ ([(ofr 5)] : List KCall), KOk e := (kok_cons (ofr_k 5 (by decide)) kok_nil)
theorem r26p02 : okReg (fstC (dropSeq 18 body3)) [n2858] T25p02 h25p02 T26p02 h25p02 = true := by decide +kernel
theorem r26p02_k : ∀ e ∈ ([n2858] : List KCall), KOk e := (kok_cons nk2858 kok_nil)
theorem r7Ap1 : okOps (runOps Tryz.prog (rAll Tryz.prog (IT (spL [])) 3000).call (opsC (fstC (dropSeq 5 body3))) 0 2 T5p h1) T7Ap1 h1 = true := by decide +kernel
theorem r7Ap1_k : ∀ e ∈ ([] : List KCall), KOk e := kok_nil
theorem r7Bp1 : okOps (runOps Tryz.prog (rAll Tryz.prog (IT (spL [(jCall 1 c0)])) 3000).call (opsC (fstC (dropSeq 5 body3))) 2 2 T7Bp1 h1) T7Cp1 h1 = true := by decide +kernel
theorem r7Bp1_k : ∀ e ∈ ([(jCall 1 c0)] : List KCall), KOk e := (kok_cons (c0_k 1) kok_nil)
theorem r8Ap10 : okOps (runOps Tryz.prog (rAll Tryz.prog (IT (spL [n595])) 3000).call (opsC (fstC (dropSeq 6 body3))) 0 2 T7p1 h1) T8Ap10 h1 = true := by decide +kernel
theorem r8Ap10_k : ∀ e ∈ ([n595] : List KCall), KOk e := (kok_cons nk595 kok_nil)
theorem r8Bp10 : okOps (runOps Tryz.prog (rAll Tryz.prog (IT (spL [(jCall 3 c0)])) 3000).call (opsC (fstC (dropSeq 6 body3))) 2 2 T8Bp10 h1) T8Cp10 h1 = true := by decide +kernel
theorem r8Bp10_k : ∀ e ∈ ([(jCall 3 c0)] : List KCall), KOk e := (kok_cons (c0_k 3) kok_nil)
theorem r25Ap10 : okOps (runOps Tryz.prog (rAll Tryz.prog (IT (spL [n595, n1608])) 3000).call (opsC (fstC (dropSeq 17 body3))) 0 3 T24p10 h24p10) T25Ap10 h25p10 = true := by decide +kernel
theorem r25Ap10_k : ∀ e ∈ ([n595, n1608] : List KCall), KOk e := (kok_cons nk595 (kok_cons nk1608 kok_nil))
theorem r25Bp10 : okOps (runOps Tryz.prog (rAll Tryz.prog (IT (spL [(ofr 3)])) 3000).call (opsC (fstC (dropSeq 17 body3))) 3 3 T25Bp10 h25p10) T25Cp10 h25p10 = true := by decide +kernel
theorem r25Bp10_k : ∀ e ∈ ([(ofr 3)] : List KCall), KOk e := (kok_cons (ofr_k 3 (by decide)) kok_nil)
theorem r26p10 : okReg (fstC (dropSeq 18 body3)) [n2858] T25p10 h25p10 T26p10 h25p10 = true := by decide +kernel
theorem r26p10_k : ∀ e ∈ ([n2858] : List KCall), KOk e := (kok_cons nk2858 kok_nil)
theorem r8Ap11 : okOps (runOps Tryz.prog (rAll Tryz.prog (IT (spL [n595])) 3000).call (opsC (fstC (dropSeq 6 body3))) 0 2 T7p1 h1) T8Ap11 h1 = true := by decide +kernel
theorem r8Ap11_k : ∀ e ∈ ([n595] : List KCall), KOk e := (kok_cons nk595 kok_nil)
theorem r8Bp11 : okOps (runOps Tryz.prog (rAll Tryz.prog (IT (spL [(jCall 4 c0)])) 3000).call (opsC (fstC (dropSeq 6 body3))) 2 2 T8Bp11 h1) T8Cp11 h1 = true := by decide +kernel
theorem r8Bp11_k : ∀ e ∈ ([(jCall 4 c0)] : List KCall), KOk e := (kok_cons (c0_k 4) kok_nil)
theorem r25Ap11 : okOps (runOps Tryz.prog (rAll Tryz.prog (IT (spL [n595, n1608])) 3000).call (opsC (fstC (dropSeq 17 body3))) 0 3 T24p11 h24p11) T25Ap11 h25p11 = true := by decide +kernel
theorem r25Ap11_k : ∀ e ∈ ([n595, n1608] : List KCall), KOk e := (kok_cons nk595 (kok_cons nk1608 kok_nil))
theorem r25Bp11 : okOps (runOps Tryz.prog (rAll Tryz.prog (IT (spL [(ofr 4)])) 3000).call (opsC (fstC (dropSeq 17 body3))) 3 3 T25Bp11 h25p11) T25Cp11 h25p11 = true := by decide +kernel
theorem r25Bp11_k : ∀ e ∈ ([(ofr 4)] : List KCall), KOk e := (kok_cons (ofr_k 4 (by decide)) kok_nil)
theorem r26p11 : okReg (fstC (dropSeq 18 body3)) [n2858] T25p11 h25p11 T26p11 h25p11 = true := by decide +kernel
theorem r26p11_k : ∀ e ∈ ([n2858] : List KCall), KOk e := (kok_cons nk2858 kok_nil)
theorem r8Ap12 : okOps (runOps Tryz.prog (rAll Tryz.prog (IT (spL [n595])) 3000).call (opsC (fstC (dropSeq 6 body3))) 0 2 T7p1 h1) T8Ap12 h1 = true := by decide +kernel
theorem r8Ap12_k : ∀ e ∈ ([n595] : List KCall), KOk e := (kok_cons nk595 kok_nil)
theorem r8Bp12 : okOps (runOps Tryz.prog (rAll Tryz.prog (IT (spL [(jCall 5 c0)])) 3000).call (opsC (fstC (dropSeq 6 body3))) 2 2 T8Bp12 h1) T8Cp12 h1 = true := by decide +kernel
theorem r8Bp12_k : ∀ e ∈ ([(jCall 5 c0)] : List KCall), KOk e := (kok_cons (c0_k 5) kok_nil)
theorem r25Ap12 : okOps (runOps Tryz.prog (rAll Tryz.prog (IT (spL [n595, n1608])) 3000).call (opsC (fstC (dropSeq 17 body3))) 0 3 T24p12 h24p12) T25Ap12 h25p12 = true := by decide +kernel
theorem r25Ap12_k : ∀ e ∈ ([n595, n1608] : List KCall), KOk e := (kok_cons nk595 (kok_cons nk1608 kok_nil))
theorem r25Bp12 : okOps (runOps Tryz.prog (rAll Tryz.prog (IT (spL [(ofr 5)])) 3000).call (opsC (fstC (dropSeq 17 body3))) 3 3 T25Bp12 h25p12) T25Cp12 h25p12 = true := by decide +kernel
theorem r25Bp12_k : ∀ e ∈ ([(ofr 5)] : List KCall), KOk e := (kok_cons (ofr_k 5 (by decide)) kok_nil)
theorem r26p12 : okReg (fstC (dropSeq 18 body3)) [n2858] T25p12 h25p12 T26p12 h25p12 = true := by decide +kernel
theorem r26p12_k : ∀ e ∈ ([n2858] : List KCall), KOk e := (kok_cons nk2858 kok_nil)
theorem r7Ap2 : okOps (runOps Tryz.prog (rAll Tryz.prog (IT (spL [])) 3000).call (opsC (fstC (dropSeq 5 body3))) 0 2 T5p h1) T7Ap2 h1 = true := by decide +kernel
theorem r7Ap2_k : ∀ e ∈ ([] : List KCall), KOk e := kok_nil
theorem r7Bp2 : okOps (runOps Tryz.prog (rAll Tryz.prog (IT (spL [(jCall 2 c0)])) 3000).call (opsC (fstC (dropSeq 5 body3))) 2 2 T7Bp2 h1) T7Cp2 h1 = true := by decide +kernel
theorem r7Bp2_k : ∀ e ∈ ([(jCall 2 c0)] : List KCall), KOk e := (kok_cons (c0_k 2) kok_nil)
theorem r8Ap20 : okOps (runOps Tryz.prog (rAll Tryz.prog (IT (spL [n595])) 3000).call (opsC (fstC (dropSeq 6 body3))) 0 2 T7p2 h1) T8Ap20 h1 = true := by decide +kernel
theorem r8Ap20_k : ∀ e ∈ ([n595] : List KCall), KOk e := (kok_cons nk595 kok_nil)
theorem r8Bp20 : okOps (runOps Tryz.prog (rAll Tryz.prog (IT (spL [(jCall 3 c0)])) 3000).call (opsC (fstC (dropSeq 6 body3))) 2 2 T8Bp20 h1) T8Cp20 h1 = true := by decide +kernel
theorem r8Bp20_k : ∀ e ∈ ([(jCall 3 c0)] : List KCall), KOk e := (kok_cons (c0_k 3) kok_nil)
theorem r25Ap20 : okOps (runOps Tryz.prog (rAll Tryz.prog (IT (spL [n595, n1608])) 3000).call (opsC (fstC (dropSeq 17 body3))) 0 3 T24p20 h24p20) T25Ap20 h25p20 = true := by decide +kernel
theorem r25Ap20_k : ∀ e ∈ ([n595, n1608] : List KCall), KOk e := (kok_cons nk595 (kok_cons nk1608 kok_nil))
theorem r25Bp20 : okOps (runOps Tryz.prog (rAll Tryz.prog (IT (spL [(ofr 3)])) 3000).call (opsC (fstC (dropSeq 17 body3))) 3 3 T25Bp20 h25p20) T25Cp20 h25p20 = true := by decide +kernel
theorem r25Bp20_k : ∀ e ∈ ([(ofr 3)] : List KCall), KOk e := (kok_cons (ofr_k 3 (by decide)) kok_nil)
theorem r26p20 : okReg (fstC (dropSeq 18 body3)) [n2858] T25p20 h25p20 T26p20 h25p20 = true := by decide +kernel
theorem r26p20_k : ∀ e ∈ ([n2858] : List KCall), KOk e := (kok_cons nk2858 kok_nil)
theorem r8Ap21 : okOps (runOps Tryz.prog (rAll Tryz.prog (IT (spL [n595])) 3000).call (opsC (fstC (dropSeq 6 body3))) 0 2 T7p2 h1) T8Ap21 h1 = true := by decide +kernel
theorem r8Ap21_k : ∀ e ∈ ([n595] : List KCall), KOk e := (kok_cons nk595 kok_nil)
theorem r8Bp21 : okOps (runOps Tryz.prog (rAll Tryz.prog (IT (spL [(jCall 4 c0)])) 3000).call (opsC (fstC (dropSeq 6 body3))) 2 2 T8Bp21 h1) T8Cp21 h1 = true := by decide +kernel
theorem r8Bp21_k : ∀ e ∈ ([(jCall 4 c0)] : List KCall), KOk e := (kok_cons (c0_k 4) kok_nil)
theorem r25Ap21 : okOps (runOps Tryz.prog (rAll Tryz.prog (IT (spL [n595, n1608])) 3000).call (opsC (fstC (dropSeq 17 body3))) 0 3 T24p21 h24p21) T25Ap21 h25p21 = true := by decide +kernel
theorem r25Ap21_k : ∀ e ∈ ([n595, n1608] : List KCall), KOk e := (kok_cons nk595 (kok_cons nk1608 kok_nil))
theorem r25Bp21 : okOps (runOps Tryz.prog (rAll Tryz.prog (IT (spL [(ofr 4)])) 3000).call (opsC (fstC (dropSeq 17 body3))) 3 3 T25Bp21 h25p21) T25Cp21 h25p21 = true := by decide +kernel
theorem r25Bp21_k : ∀ e ∈ ([(ofr 4)] : List KCall), KOk e := (kok_cons (ofr_k 4 (by decide)) kok_nil)
theorem r26p21 : okReg (fstC (dropSeq 18 body3)) [n2858] T25p21 h25p21 T26p21 h25p21 = true := by decide +kernel
theorem r26p21_k : ∀ e ∈ ([n2858] : List KCall), KOk e := (kok_cons nk2858 kok_nil)
theorem r8Ap22 : okOps (runOps Tryz.prog (rAll Tryz.prog (IT (spL [n595])) 3000).call (opsC (fstC (dropSeq 6 body3))) 0 2 T7p2 h1) T8Ap22 h1 = true := by decide +kernel
theorem r8Ap22_k : ∀ e ∈ ([n595] : List KCall), KOk e := (kok_cons nk595 kok_nil)
theorem r8Bp22 : okOps (runOps Tryz.prog (rAll Tryz.prog (IT (spL [(jCall 5 c0)])) 3000).call (opsC (fstC (dropSeq 6 body3))) 2 2 T8Bp22 h1) T8Cp22 h1 = true := by decide +kernel
theorem r8Bp22_k : ∀ e ∈ ([(jCall 5 c0)] : List KCall), KOk e := (kok_cons (c0_k 5) kok_nil)
theorem r25Ap22 : okOps (runOps Tryz.prog (rAll Tryz.prog (IT (spL [n595, n1608])) 3000).call (opsC (fstC (dropSeq 17 body3))) 0 3 T24p22 h24p22) T25Ap22 h25p22 = true := by decide +kernel
theorem r25Ap22_k : ∀ e ∈ ([n595, n1608] : List KCall), KOk e := (kok_cons nk595 (kok_cons nk1608 kok_nil))
theorem r25Bp22 : okOps (runOps Tryz.prog (rAll Tryz.prog (IT (spL [(ofr 5)])) 3000).call (opsC (fstC (dropSeq 17 body3))) 3 3 T25Bp22 h25p22) T25Cp22 h25p22 = true := by decide +kernel
theorem r25Bp22_k : ∀ e ∈ ([(ofr 5)] : List KCall), KOk e := (kok_cons (ofr_k 5 (by decide)) kok_nil)
theorem r26p22 : okReg (fstC (dropSeq 18 body3)) [n2858] T25p22 h25p22 T26p22 h25p22 = true := by decide +kernel
theorem r26p22_k : ∀ e ∈ ([n2858] : List KCall), KOk e := (kok_cons nk2858 kok_nil)
theorem r0s : okSeq 0 5 [n592] T0s [] T5s h1 = true := by decide +kernel
theorem r0s_k : ∀ e ∈ ([n592] : List KCall), KOk e := (kok_cons nk592 kok_nil)
theorem r7As0 : okOps (runOps Tryz.prog (rAll Tryz.prog (IT (spL [])) 3000).call (opsC (fstC (dropSeq 5 body3))) 0 2 T5s h1) T7As0 h1 = true := by decide +kernel
theorem r7As0_k : ∀ e ∈ ([] : List KCall), KOk e := kok_nil
theorem r7Bs0 : okOps (runOps Tryz.prog (rAll Tryz.prog (IT (spL [(jCall 0 c0)])) 3000).call (opsC (fstC (dropSeq 5 body3))) 2 2 T7Bs0 h1) T7Cs0 h1 = true := by decide +kernel
theorem r7Bs0_k : ∀ e ∈ ([(jCall 0 c0)] : List KCall), KOk e := (kok_cons (c0_k 0) kok_nil)
theorem r8As00 : okOps (runOps Tryz.prog (rAll Tryz.prog (IT (spL [n595])) 3000).call (opsC (fstC (dropSeq 6 body3))) 0 2 T7s0 h1) T8As00 h1 = true := by decide +kernel
theorem r8As00_k : ∀ e ∈ ([n595] : List KCall), KOk e := (kok_cons nk595 kok_nil)
theorem r8Bs00 : okOps (runOps Tryz.prog (rAll Tryz.prog (IT (spL [(jCall 3 c0)])) 3000).call (opsC (fstC (dropSeq 6 body3))) 2 2 T8Bs00 h1) T8Cs00 h1 = true := by decide +kernel
theorem r8Bs00_k : ∀ e ∈ ([(jCall 3 c0)] : List KCall), KOk e := (kok_cons (c0_k 3) kok_nil)
theorem r25As00 : okOps (runOps Tryz.prog (rAll Tryz.prog (IT (spL [n595, n1608])) 3000).call (opsC (fstC (dropSeq 17 body3))) 0 3 T24s00 h24s00) T25As00 h25s00 = true := by decide +kernel
theorem r25As00_k : ∀ e ∈ ([n595, n1608] : List KCall), KOk e := (kok_cons nk595 (kok_cons nk1608 kok_nil))
theorem r25Bs00 : okOps (runOps Tryz.prog (rAll Tryz.prog (IT (spL [(ofr 3)])) 3000).call (opsC (fstC (dropSeq 17 body3))) 3 3 T25Bs00 h25s00) T25Cs00 h25s00 = true := by decide +kernel
theorem r25Bs00_k : ∀ e ∈ ([(ofr 3)] : List KCall), KOk e := (kok_cons (ofr_k 3 (by decide)) kok_nil)
theorem r26s00 : okReg (fstC (dropSeq 18 body3)) [n2858] T25s00 h25s00 T26s00 h25s00 = true := by decide +kernel
theorem r26s00_k : ∀ e ∈ ([n2858] : List KCall), KOk e := (kok_cons nk2858 kok_nil)
theorem r8As01 : okOps (runOps Tryz.prog (rAll Tryz.prog (IT (spL [n595])) 3000).call (opsC (fstC (dropSeq 6 body3))) 0 2 T7s0 h1) T8As01 h1 = true := by decide +kernel
theorem r8As01_k : ∀ e ∈ ([n595] : List KCall), KOk e := (kok_cons nk595 kok_nil)
theorem r8Bs01 : okOps (runOps Tryz.prog (rAll Tryz.prog (IT (spL [(jCall 4 c0)])) 3000).call (opsC (fstC (dropSeq 6 body3))) 2 2 T8Bs01 h1) T8Cs01 h1 = true := by decide +kernel
theorem r8Bs01_k : ∀ e ∈ ([(jCall 4 c0)] : List KCall), KOk e := (kok_cons (c0_k 4) kok_nil)
theorem r25As01 : okOps (runOps Tryz.prog (rAll Tryz.prog (IT (spL [n595, n1608])) 3000).call (opsC (fstC (dropSeq 17 body3))) 0 3 T24s01 h24s01) T25As01 h25s01 = true := by decide +kernel
theorem r25As01_k : ∀ e ∈ ([n595, n1608] : List KCall), KOk e := (kok_cons nk595 (kok_cons nk1608 kok_nil))
theorem r25Bs01 : okOps (runOps Tryz.prog (rAll Tryz.prog (IT (spL [(ofr 4)])) 3000).call (opsC (fstC (dropSeq 17 body3))) 3 3 T25Bs01 h25s01) T25Cs01 h25s01 = true := by decide +kernel
theorem r25Bs01_k : ∀ e ∈ ([(ofr 4)] : List KCall), KOk e := (kok_cons (ofr_k 4 (by decide)) kok_nil)
theorem r26s01 : okReg (fstC (dropSeq 18 body3)) [n2858] T25s01 h25s01 T26s01 h25s01 = true := by decide +kernel
theorem r26s01_k : ∀ e ∈ ([n2858] : List KCall), KOk e := (kok_cons nk2858 kok_nil)
theorem r8As02 : okOps (runOps Tryz.prog (rAll Tryz.prog (IT (spL [n595])) 3000).call (opsC (fstC (dropSeq 6 body3))) 0 2 T7s0 h1) T8As02 h1 = true := by decide +kernel
theorem r8As02_k : ∀ e ∈ ([n595] : List KCall), KOk e := (kok_cons nk595 kok_nil)
theorem r8Bs02 : okOps (runOps Tryz.prog (rAll Tryz.prog (IT (spL [(jCall 5 c0)])) 3000).call (opsC (fstC (dropSeq 6 body3))) 2 2 T8Bs02 h1) T8Cs02 h1 = true := by decide +kernel
theorem r8Bs02_k : ∀ e ∈ ([(jCall 5 c0)] : List KCall), KOk e := (kok_cons (c0_k 5) kok_nil)
theorem r25As02 : okOps (runOps Tryz.prog (rAll Tryz.prog (IT (spL [n595, n1608])) 3000).call (opsC (fstC (dropSeq 17 body3))) 0 3 T24s02 h24s02) T25As02 h25s02 = true := by decide +kernel
theorem r25As02_k : ∀ e ∈ ([n595, n1608] : List KCall), KOk e := (kok_cons nk595 (kok_cons nk1608 kok_nil))
theorem r25Bs02 : okOps (runOps Tryz.prog (rAll Tryz.prog (IT (spL [(ofr 5)])) 3000).call (opsC (fstC (dropSeq 17 body3))) 3 3 T25Bs02 h25s02) T25Cs02 h25s02 = true := by decide +kernel
theorem r25Bs02_k : ∀ e ∈ ([(ofr 5)] : List KCall), KOk e := (kok_cons (ofr_k 5 (by decide)) kok_nil)
theorem r26s02 : okReg (fstC (dropSeq 18 body3)) [n2858] T25s02 h25s02 T26s02 h25s02 = true := by decide +kernel
theorem r26s02_k : ∀ e ∈ ([n2858] : List KCall), KOk e := (kok_cons nk2858 kok_nil)
theorem r7As1 : okOps (runOps Tryz.prog (rAll Tryz.prog (IT (spL [])) 3000).call (opsC (fstC (dropSeq 5 body3))) 0 2 T5s h1) T7As1 h1 = true := by decide +kernel
theorem r7As1_k : ∀ e ∈ ([] : List KCall), KOk e := kok_nil
theorem r7Bs1 : okOps (runOps Tryz.prog (rAll Tryz.prog (IT (spL [(jCall 1 c0)])) 3000).call (opsC (fstC (dropSeq 5 body3))) 2 2 T7Bs1 h1) T7Cs1 h1 = true := by decide +kernel
theorem r7Bs1_k : ∀ e ∈ ([(jCall 1 c0)] : List KCall), KOk e := (kok_cons (c0_k 1) kok_nil)
theorem r8As10 : okOps (runOps Tryz.prog (rAll Tryz.prog (IT (spL [n595])) 3000).call (opsC (fstC (dropSeq 6 body3))) 0 2 T7s1 h1) T8As10 h1 = true := by decide +kernel
theorem r8As10_k : ∀ e ∈ ([n595] : List KCall), KOk e := (kok_cons nk595 kok_nil)
theorem r8Bs10 : okOps (runOps Tryz.prog (rAll Tryz.prog (IT (spL [(jCall 3 c0)])) 3000).call (opsC (fstC (dropSeq 6 body3))) 2 2 T8Bs10 h1) T8Cs10 h1 = true := by decide +kernel
theorem r8Bs10_k : ∀ e ∈ ([(jCall 3 c0)] : List KCall), KOk e := (kok_cons (c0_k 3) kok_nil)
theorem r25As10 : okOps (runOps Tryz.prog (rAll Tryz.prog (IT (spL [n595, n1608])) 3000).call (opsC (fstC (dropSeq 17 body3))) 0 3 T24s10 h24s10) T25As10 h25s10 = true := by decide +kernel
theorem r25As10_k : ∀ e ∈ ([n595, n1608] : List KCall), KOk e := (kok_cons nk595 (kok_cons nk1608 kok_nil))
theorem r25Bs10 : okOps (runOps Tryz.prog (rAll Tryz.prog (IT (spL [(ofr 3)])) 3000).call (opsC (fstC (dropSeq 17 body3))) 3 3 T25Bs10 h25s10) T25Cs10 h25s10 = true := by decide +kernel
theorem r25Bs10_k : ∀ e ∈ ([(ofr 3)] : List KCall), KOk e := (kok_cons (ofr_k 3 (by decide)) kok_nil)
theorem r26s10 : okReg (fstC (dropSeq 18 body3)) [n2858] T25s10 h25s10 T26s10 h25s10 = true := by decide +kernel
theorem r26s10_k : ∀ e ∈ ([n2858] : List KCall), KOk e := (kok_cons nk2858 kok_nil)
theorem r8As11 : okOps (runOps Tryz.prog (rAll Tryz.prog (IT (spL [n595])) 3000).call (opsC (fstC (dropSeq 6 body3))) 0 2 T7s1 h1) T8As11 h1 = true := by decide +kernel
theorem r8As11_k : ∀ e ∈ ([n595] : List KCall), KOk e := (kok_cons nk595 kok_nil)
theorem r8Bs11 : okOps (runOps Tryz.prog (rAll Tryz.prog (IT (spL [(jCall 4 c0)])) 3000).call (opsC (fstC (dropSeq 6 body3))) 2 2 T8Bs11 h1) T8Cs11 h1 = true := by decide +kernel
theorem r8Bs11_k : ∀ e ∈ ([(jCall 4 c0)] : List KCall), KOk e := (kok_cons (c0_k 4) kok_nil)
theorem r25As11 : okOps (runOps Tryz.prog (rAll Tryz.prog (IT (spL [n595, n1608])) 3000).call (opsC (fstC (dropSeq 17 body3))) 0 3 T24s11 h24s11) T25As11 h25s11 = true := by decide +kernel
theorem r25As11_k : ∀ e ∈ ([n595, n1608] : List KCall), KOk e := (kok_cons nk595 (kok_cons nk1608 kok_nil))
theorem r25Bs11 : okOps (runOps Tryz.prog (rAll Tryz.prog (IT (spL [(ofr 4)])) 3000).call (opsC (fstC (dropSeq 17 body3))) 3 3 T25Bs11 h25s11) T25Cs11 h25s11 = true := by decide +kernel
theorem r25Bs11_k : ∀ e ∈ ([(ofr 4)] : List KCall), KOk e := (kok_cons (ofr_k 4 (by decide)) kok_nil)
theorem r26s11 : okReg (fstC (dropSeq 18 body3)) [n2858] T25s11 h25s11 T26s11 h25s11 = true := by decide +kernel
theorem r26s11_k : ∀ e ∈ ([n2858] : List KCall), KOk e := (kok_cons nk2858 kok_nil)
theorem r8As12 : okOps (runOps Tryz.prog (rAll Tryz.prog (IT (spL [n595])) 3000).call (opsC (fstC (dropSeq 6 body3))) 0 2 T7s1 h1) T8As12 h1 = true := by decide +kernel
theorem r8As12_k : ∀ e ∈ ([n595] : List KCall), KOk e := (kok_cons nk595 kok_nil)
theorem r8Bs12 : okOps (runOps Tryz.prog (rAll Tryz.prog (IT (spL [(jCall 5 c0)])) 3000).call (opsC (fstC (dropSeq 6 body3))) 2 2 T8Bs12 h1) T8Cs12 h1 = true := by decide +kernel
theorem r8Bs12_k : ∀ e ∈ ([(jCall 5 c0)] : List KCall), KOk e := (kok_cons (c0_k 5) kok_nil)
theorem r25As12 : okOps (runOps Tryz.prog (rAll Tryz.prog (IT (spL [n595, n1608])) 3000).call (opsC (fstC (dropSeq 17 body3))) 0 3 T24s12 h24s12) T25As12 h25s12 = true := by decide +kernel
theorem r25As12_k : ∀ e ∈ ([n595, n1608] : List KCall), KOk e := (kok_cons nk595 (kok_cons nk1608 kok_nil))
theorem r25Bs12 : okOps (runOps Tryz.prog (rAll Tryz.prog (IT (spL [(ofr 5)])) 3000).call (opsC (fstC (dropSeq 17 body3))) 3 3 T25Bs12 h25s12) T25Cs12 h25s12 = true := by decide +kernel
theorem r25Bs12_k : ∀ e ∈ ([(ofr 5)] : List KCall), KOk e := (kok_cons (ofr_k 5 (by decide)) kok_nil)
theorem r26s12 : okReg (fstC (dropSeq 18 body3)) [n2858] T25s12 h25s12 T26s12 h25s12 = true := by decide +kernel
theorem r26s12_k : ∀ e ∈ ([n2858] : List KCall), KOk e := (kok_cons nk2858 kok_nil)
theorem r7As2 : okOps (runOps Tryz.prog (rAll Tryz.prog (IT (spL [])) 3000).call (opsC (fstC (dropSeq 5 body3))) 0 2 T5s h1) T7As2 h1 = true := by decide +kernel
theorem r7As2_k : ∀ e ∈ ([] : List KCall), KOk e := kok_nil
theorem r7Bs2 : okOps (runOps Tryz.prog (rAll Tryz.prog (IT (spL [(jCall 2 c0)])) 3000).call (opsC (fstC (dropSeq 5 body3))) 2 2 T7Bs2 h1) T7Cs2 h1 = true := by decide +kernel
theorem r7Bs2_k : ∀ e ∈ ([(jCall 2 c0)] : List KCall), KOk e := (kok_cons (c0_k 2) kok_nil)
theorem r8As20 : okOps (runOps Tryz.prog (rAll Tryz.prog (IT (spL [n595])) 3000).call (opsC (fstC (dropSeq 6 body3))) 0 2 T7s2 h1) T8As20 h1 = true := by decide +kernel
theorem r8As20_k : ∀ e ∈ ([n595] : List KCall), KOk e := (kok_cons nk595 kok_nil)
theorem r8Bs20 : okOps (runOps Tryz.prog (rAll Tryz.prog (IT (spL [(jCall 3 c0)])) 3000).call (opsC (fstC (dropSeq 6 body3))) 2 2 T8Bs20 h1) T8Cs20 h1 = true := by decide +kernel
theorem r8Bs20_k : ∀ e ∈ ([(jCall 3 c0)] : List KCall), KOk e := (kok_cons (c0_k 3) kok_nil)
theorem r25As20 : okOps (runOps Tryz.prog (rAll Tryz.prog (IT (spL [n595, n1608])) 3000).call (opsC (fstC (dropSeq 17 body3))) 0 3 T24s20 h24s20) T25As20 h25s20 = true := by decide +kernel
theorem r25As20_k : ∀ e ∈ ([n595, n1608] : List KCall), KOk e := (kok_cons nk595 (kok_cons nk1608 kok_nil))
theorem r25Bs20 : okOps (runOps Tryz.prog (rAll Tryz.prog (IT (spL [(ofr 3)])) 3000).call (opsC (fstC (dropSeq 17 body3))) 3 3 T25Bs20 h25s20) T25Cs20 h25s20 = true := by decide +kernel
theorem r25Bs20_k : ∀ e ∈ ([(ofr 3)] : List KCall), KOk e := (kok_cons (ofr_k 3 (by decide)) kok_nil)
theorem r26s20 : okReg (fstC (dropSeq 18 body3)) [n2858] T25s20 h25s20 T26s20 h25s20 = true := by decide +kernel
theorem r26s20_k : ∀ e ∈ ([n2858] : List KCall), KOk e := (kok_cons nk2858 kok_nil)
theorem r8As21 : okOps (runOps Tryz.prog (rAll Tryz.prog (IT (spL [n595])) 3000).call (opsC (fstC (dropSeq 6 body3))) 0 2 T7s2 h1) T8As21 h1 = true := by decide +kernel
theorem r8As21_k : ∀ e ∈ ([n595] : List KCall), KOk e := (kok_cons nk595 kok_nil)
theorem r8Bs21 : okOps (runOps Tryz.prog (rAll Tryz.prog (IT (spL [(jCall 4 c0)])) 3000).call (opsC (fstC (dropSeq 6 body3))) 2 2 T8Bs21 h1) T8Cs21 h1 = true := by decide +kernel
theorem r8Bs21_k : ∀ e ∈ ([(jCall 4 c0)] : List KCall), KOk e := (kok_cons (c0_k 4) kok_nil)
theorem r25As21 : okOps (runOps Tryz.prog (rAll Tryz.prog (IT (spL [n595, n1608])) 3000).call (opsC (fstC (dropSeq 17 body3))) 0 3 T24s21 h24s21) T25As21 h25s21 = true := by decide +kernel
theorem r25As21_k : ∀ e ∈ ([n595, n1608] : List KCall), KOk e := (kok_cons nk595 (kok_cons nk1608 kok_nil))
theorem r25Bs21 : okOps (runOps Tryz.prog (rAll Tryz.prog (IT (spL [(ofr 4)])) 3000).call (opsC (fstC (dropSeq 17 body3))) 3 3 T25Bs21 h25s21) T25Cs21 h25s21 = true := by decide +kernel
theorem r25Bs21_k : ∀ e ∈ ([(ofr 4)] : List KCall), KOk e := (kok_cons (ofr_k 4 (by decide)) kok_nil)
theorem r26s21 : okReg (fstC (dropSeq 18 body3)) [n2858] T25s21 h25s21 T26s21 h25s21 = true := by decide +kernel
theorem r26s21_k : ∀ e ∈ ([n2858] : List KCall), KOk e := (kok_cons nk2858 kok_nil)
theorem r8As22 : okOps (runOps Tryz.prog (rAll Tryz.prog (IT (spL [n595])) 3000).call (opsC (fstC (dropSeq 6 body3))) 0 2 T7s2 h1) T8As22 h1 = true := by decide +kernel
theorem r8As22_k : ∀ e ∈ ([n595] : List KCall), KOk e := (kok_cons nk595 kok_nil)
theorem r8Bs22 : okOps (runOps Tryz.prog (rAll Tryz.prog (IT (spL [(jCall 5 c0)])) 3000).call (opsC (fstC (dropSeq 6 body3))) 2 2 T8Bs22 h1) T8Cs22 h1 = true := by decide +kernel
theorem r8Bs22_k : ∀ e ∈ ([(jCall 5 c0)] : List KCall), KOk e := (kok_cons (c0_k 5) kok_nil)
theorem r25As22 : okOps (runOps Tryz.prog (rAll Tryz.prog (IT (spL [n595, n1608])) 3000).call (opsC (fstC (dropSeq 17 body3))) 0 3 T24s22 h24s22) T25As22 h25s22 = true := by decide +kernel
theorem r25As22_k : ∀ e ∈ ([n595, n1608] : List KCall), KOk e := (kok_cons nk595 (kok_cons nk1608 kok_nil))
theorem r25Bs22 : okOps (runOps Tryz.prog (rAll Tryz.prog (IT (spL [(ofr 5)])) 3000).call (opsC (fstC (dropSeq 17 body3))) 3 3 T25Bs22 h25s22) T25Cs22 h25s22 = true := by decide +kernel
theorem r25Bs22_k : ∀ e ∈ ([(ofr 5)] : List KCall), KOk e := (kok_cons (ofr_k 5 (by decide)) kok_nil)
theorem r26s22 : okReg (fstC (dropSeq 18 body3)) [n2858] T25s22 h25s22 T26s22 h25s22 = true := by decide +kernel
theorem r26s22_k : ∀ e ∈ ([n2858] : List KCall), KOk e := (kok_cons nk2858 kok_nil)
end Go.Proofs
namespace Go.Proofs
open Go Go.AH
set_option maxRecDepth 100000
theorem r9p00 : okSeq 7 10 [n1024, (jCall 3 c13), (jCall 3 c12), (jCall 3 c11), n993, n986, n934, (jCall 3 c10), (jCall 3 c9), (jCall 3 c8), n31, (jCall 3 c7), (ofa 3), (jCall 3 c6), n901, (jCall 3 c5), n887, n599, n598, (jCall 3 c4), n885, n753] T8p00 h1 T24p00 h24p00 = true := by decide +kernel
theorem r9p00_k : ∀ e ∈ ([n1024, (jCall 3 c13), (jCall 3 c12), (jCall 3 c11), n993, n986, n934, (jCall 3 c10), (jCall 3 c9), (jCall 3 c8), n31, (jCall 3 c7), (ofa 3), (jCall 3 c6), n901, (jCall 3 c5), n887, n599, n598, (jCall 3 c4), n885, n753] : List KCall), KOk e := (kok_cons nk1024 (kok_cons (c13_k 3) (kok_cons (c12_k 3) (kok_cons (c11_k 3) (kok_cons nk993 (kok_cons nk986 (kok_cons nk934 (kok_cons (c10_k 3) (kok_cons (c9_k 3) (kok_cons (c8_k 3) (kok_cons nk31 (kok_cons (c7_k 3) (kok_cons (ofa_k 3 (by decide)) (kok_cons (c6_k 3) (kok_cons nk901 (kok_cons (c5_k 3) (kok_cons nk887 (kok_cons nk599 (kok_cons nk598 (kok_cons (c4_k 3) (kok_cons nk885 (kok_cons nk753 kok_nil))))))))))))))))))))))
theorem r9p01 : okSeq 7 10 [n1024, (jCall 4 c13), (jCall 4 c14), (jCall 4 c11), n993, n986, n934, (jCall 4 c10), (jCall 4 c9), (jCall 4 c8), n31, (jCall 4 c7), (ofa 4), (jCall 4 c6), n901, (jCall 4 c5), n887, n599, n598, (jCall 4 c4), n885, n753] T8p01 h1 T24p01 h24p01 = true := by decide +kernel
theorem r9p01_k : ∀ e ∈ ([n1024, (jCall 4 c13), (jCall 4 c14), (jCall 4 c11), n993, n986, n934, (jCall 4 c10), (jCall 4 c9), (jCall 4 c8), n31, (jCall 4 c7), (ofa 4), (jCall 4 c6), n901, (jCall 4 c5), n887, n599, n598, (jCall 4 c4), n885, n753] : List KCall), KOk e := (kok_cons nk1024 (kok_cons (c13_k 4) (kok_cons (c14_k 4) (kok_cons (c11_k 4) (kok_cons nk993 (kok_cons nk986 (kok_cons nk934 (kok_cons (c10_k 4) (kok_cons (c9_k 4) (kok_cons (c8_k 4) (kok_cons nk31 (kok_cons (c7_k 4) (kok_cons (ofa_k 4 (by decide)) (kok_cons (c6_k 4) (kok_cons nk901 (kok_cons (c5_k 4) (kok_cons nk887 (kok_cons nk599 (kok_cons nk598 (kok_cons (c4_k 4) (kok_cons nk885 (kok_cons nk753 kok_nil))))))))))))))))))))))
theorem r9p02 : okSeq 7 10 [(jCall 5 c18), (jCall 5 c17), n1024, (jCall 5 c13), (jCall 5 c16), (jCall 5 c11), n993, (jCall 5 c15), n864, n934, (jCall 5 c10), (jCall 5 c9), (jCall 5 c8), n31, (jCall 5 c7), (ofa 5), (jCall 5 c6), n901, (jCall 5 c5), n887, n599, n598, (jCall 5 c4), n885, n753] T8p02 h1 T24p02 h24p02 = true := by decide +kernel
theorem r9p02_k : ∀ e ∈ ([(jCall 5 c18), (jCall 5 c17), n1024, (jCall 5 c13), (jCall 5 c16), (jCall 5 c11), n993, (jCall 5 c15), n864, n934, (jCall 5 c10), (jCall 5 c9), (jCall 5 c8), n31, (jCall 5 c7), (ofa 5), (jCall 5 c6), n901, (jCall 5 c5), n887, n599, n598, (jCall 5 c4), n885, n753] : List KCall), KOk e := (kok_cons (c18_k 5) (kok_cons (c17_k 5) (kok_cons nk1024 (kok_cons (c13_k 5) (kok_cons (c16_k 5) (kok_cons (c11_k 5) (kok_cons nk993 (kok_cons (c15_k 5) (kok_cons nk864 (kok_cons nk934 (kok_cons (c10_k 5) (kok_cons (c9_k 5) (kok_cons (c8_k 5) (kok_cons nk31 (kok_cons (c7_k 5) (kok_cons (ofa_k 5 (by decide)) (kok_cons (c6_k 5) (kok_cons nk901 (kok_cons (c5_k 5) (kok_cons nk887 (kok_cons nk599 (kok_cons nk598 (kok_cons (c4_k 5) (kok_cons nk885 (kok_cons nk753 kok_nil)))))))))))))))))))))))))
end Go.Proofs
