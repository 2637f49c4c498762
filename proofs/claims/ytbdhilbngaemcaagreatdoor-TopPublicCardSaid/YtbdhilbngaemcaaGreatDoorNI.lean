/- Lines of texts, by their lengths; all contracts of texts. No condition. -/
import Derived.Test.YtbdhilbngaemcaaGreatDoorNA
import Derived.Test.YtbdhilbngaemcaaGreatDoorNE
import Derived.Test.YtbdhilbngaemcaaGreatDoorNF
import Derived.Test.YtbdhilbngaemcaaGreatDoorNG
import Derived.Test.YtbdhilbngaemcaaGreatDoorNH
set_option linter.unusedVariables false
set_option linter.unusedSimpArgs false
namespace Go.Proofs
open Go Go.AH
set_option maxRecDepth 100000
theorem c14_r : allC (okCl (spL []) c14) chrAll = true := by decide +kernel
theorem c15_r : allC (okCl (spL []) c15) chrAll = true := by decide +kernel
theorem c16_r : allC (okCl (spL []) c16) chrAll = true := by decide +kernel
end Go.Proofs
namespace Go.Proofs
open Go Go.AH
set_option maxRecDepth 100000
theorem c17_r : allC (okCl (spL []) c17) chrAll = true := by decide +kernel
theorem c18_r : allC (okCl (spL []) c18) chrAll = true := by decide +kernel
theorem c21_r : allC (okCl (spL []) c21) chrAll = true := by decide +kernel
end Go.Proofs
namespace Go.Proofs
open Go Go.AH
set_option maxRecDepth 100000
theorem c22_r : allC (okCl (spL []) c22) chrAll = true := by decide +kernel
theorem c23_r : allC (okCl (spL []) c23) chrAll = true := by decide +kernel
theorem c24_r : allC (okCl (spL []) c24) chrAll = true := by decide +kernel
end Go.Proofs
namespace Go.Proofs
open Go Go.AH
set_option maxRecDepth 100000
theorem c2_all : ∀ q ∈ qAll, okCl (spL ([e131 q])) c2 (qCls q) = true := by
  intro q hq
  obtain ⟨i, hi⟩ := List.mem_iff_getElem?.1 hq
  have hl : i < 81 := (List.getElem?_eq_some_iff.1 hi).1
  have key : ∀ d n, d ≤ i → i < d + n → q ∈ (qAll.drop d).take n := fun d n h1 h2 => List.mem_iff_getElem?.2 ⟨i - d, by rw [List.getElem?_take_of_lt (by omega), List.getElem?_drop, show d + (i - d) = i by omega]; exact hi⟩
  exact allC_ok c2_0 q (key 0 81 (by omega) (by omega))
theorem c2_k (j : Nat) : KOk (jCall j c2) := quad_ok (g := fun q => [e131 q]) (fun q hq => kok_cons (e131_k q hq) kok_nil) (by decide +kernel) c2_all j
theorem c6_all : ∀ q ∈ qAll, okCl (spL ([e131 q])) c6 (qCls q) = true := by
  intro q hq
  obtain ⟨i, hi⟩ := List.mem_iff_getElem?.1 hq
  have hl : i < 81 := (List.getElem?_eq_some_iff.1 hi).1
  have key : ∀ d n, d ≤ i → i < d + n → q ∈ (qAll.drop d).take n := fun d n h1 h2 => List.mem_iff_getElem?.2 ⟨i - d, by rw [List.getElem?_take_of_lt (by omega), List.getElem?_drop, show d + (i - d) = i by omega]; exact hi⟩
  exact allC_ok c6_0 q (key 0 81 (by omega) (by omega))
theorem c6_k (j : Nat) : KOk (jCall j c6) := quad_ok (g := fun q => [e131 q]) (fun q hq => kok_cons (e131_k q hq) kok_nil) (by decide +kernel) c6_all j
theorem c8_all : ∀ q ∈ qAll, okCl (spL ([e82 q])) c8 (qCls q) = true := by
  intro q hq
  obtain ⟨i, hi⟩ := List.mem_iff_getElem?.1 hq
  have hl : i < 81 := (List.getElem?_eq_some_iff.1 hi).1
  have key : ∀ d n, d ≤ i → i < d + n → q ∈ (qAll.drop d).take n := fun d n h1 h2 => List.mem_iff_getElem?.2 ⟨i - d, by rw [List.getElem?_take_of_lt (by omega), List.getElem?_drop, show d + (i - d) = i by omega]; exact hi⟩
  exact allC_ok c8_0 q (key 0 81 (by omega) (by omega))
theorem c8_k (j : Nat) : KOk (jCall j c8) := quad_ok (g := fun q => [e82 q]) (fun q hq => kok_cons (e82_k q hq) kok_nil) (by decide +kernel) c8_all j
theorem c0_all : ∀ q ∈ qAll, okCl (spL (l35)) c0 (qCls q) = true := by
  intro q hq
  obtain ⟨i, hi⟩ := List.mem_iff_getElem?.1 hq
  have hl : i < 81 := (List.getElem?_eq_some_iff.1 hi).1
  have key : ∀ d n, d ≤ i → i < d + n → q ∈ (qAll.drop d).take n := fun d n h1 h2 => List.mem_iff_getElem?.2 ⟨i - d, by rw [List.getElem?_take_of_lt (by omega), List.getElem?_drop, show d + (i - d) = i by omega]; exact hi⟩
  rcases (show (0 ≤ i ∧ i < 40) ∨ (40 ≤ i ∧ i < 81) by omega) with h | h
  · exact allC_ok c0_0 q (key 0 40 h.1 (by omega))
  · exact allC_ok c0_1 q (key 40 41 h.1 (by omega))
theorem c0_k (j : Nat) : KOk (jCall j c0) := quad_ok (g := fun q => l35) (fun q hq => l35_k) (by decide +kernel) c0_all j
theorem c5_all : ∀ q ∈ qAll, okCl (spL ((e82 q :: l355) ++ (l268 ++ l266))) c5 (qCls q) = true := by
  intro q hq
  obtain ⟨i, hi⟩ := List.mem_iff_getElem?.1 hq
  have hl : i < 81 := (List.getElem?_eq_some_iff.1 hi).1
  have key : ∀ d n, d ≤ i → i < d + n → q ∈ (qAll.drop d).take n := fun d n h1 h2 => List.mem_iff_getElem?.2 ⟨i - d, by rw [List.getElem?_take_of_lt (by omega), List.getElem?_drop, show d + (i - d) = i by omega]; exact hi⟩
  rcases (show (0 ≤ i ∧ i < 9) ∨ (9 ≤ i ∧ i < 18) ∨ (18 ≤ i ∧ i < 27) ∨ (27 ≤ i ∧ i < 36) ∨ (36 ≤ i ∧ i < 45) ∨ (45 ≤ i ∧ i < 54) ∨ (54 ≤ i ∧ i < 63) ∨ (63 ≤ i ∧ i < 72) ∨ (72 ≤ i ∧ i < 81) by omega) with h | h | h | h | h | h | h | h | h
  · exact allC_ok c5_0 q (key 0 9 h.1 (by omega))
  · exact allC_ok c5_1 q (key 9 9 h.1 (by omega))
  · exact allC_ok c5_2 q (key 18 9 h.1 (by omega))
  · exact allC_ok c5_3 q (key 27 9 h.1 (by omega))
  · exact allC_ok c5_4 q (key 36 9 h.1 (by omega))
  · exact allC_ok c5_5 q (key 45 9 h.1 (by omega))
  · exact allC_ok c5_6 q (key 54 9 h.1 (by omega))
  · exact allC_ok c5_7 q (key 63 9 h.1 (by omega))
  · exact allC_ok c5_8 q (key 72 9 h.1 (by omega))
theorem c5_k (j : Nat) : KOk (jCall j c5) := quad_ok (g := fun q => (e82 q :: l355) ++ (l268 ++ l266)) (fun q hq => kok_app (kok_cons (e82_k q hq) l355_k) (kok_app l268_k l266_k)) (by decide +kernel) c5_all j
theorem c1_k (j : Nat) : KOk (jCall j c1) := chr_ok l40_k (by decide +kernel) c1_r j
theorem c3_k (j : Nat) : KOk (jCall j c3) := chr_ok l40_k (by decide +kernel) c3_r j
theorem c4_k (j : Nat) : KOk (jCall j c4) := chr_ok l40_k (by decide +kernel) c4_r j
theorem c10_k (j : Nat) : KOk (jCall j c10) := chr_ok l40_k (by decide +kernel) c10_r j
theorem c19_k (j : Nat) : KOk (jCall j c19) := chr_ok l40_k (by decide +kernel) c19_r j
theorem c20_k (j : Nat) : KOk (jCall j c20) := chr_ok l40_k (by decide +kernel) c20_r j
theorem c7_k (j : Nat) : KOk (jCall j c7) := chr_ok l1266_k (by decide +kernel) c7_r j
theorem c11_k (j : Nat) : KOk (jCall j c11) := chr_ok kok_nil (by decide +kernel) c11_r j
theorem c9_k (j : Nat) : KOk (jCall j c9) := chr_ok kok_nil (by decide +kernel) c9_r j
theorem c12_k (j : Nat) : KOk (jCall j c12) := chr_ok kok_nil (by decide +kernel) c12_r j
theorem c13_k (j : Nat) : KOk (jCall j c13) := chr_ok kok_nil (by decide +kernel) c13_r j
theorem c14_k (j : Nat) : KOk (jCall j c14) := chr_ok kok_nil (by decide +kernel) c14_r j
theorem c15_k (j : Nat) : KOk (jCall j c15) := chr_ok kok_nil (by decide +kernel) c15_r j
theorem c16_k (j : Nat) : KOk (jCall j c16) := chr_ok kok_nil (by decide +kernel) c16_r j
theorem c17_k (j : Nat) : KOk (jCall j c17) := chr_ok kok_nil (by decide +kernel) c17_r j
theorem c18_k (j : Nat) : KOk (jCall j c18) := chr_ok kok_nil (by decide +kernel) c18_r j
theorem c21_k (j : Nat) : KOk (jCall j c21) := chr_ok kok_nil (by decide +kernel) c21_r j
theorem c22_k (j : Nat) : KOk (jCall j c22) := chr_ok kok_nil (by decide +kernel) c22_r j
theorem c23_k (j : Nat) : KOk (jCall j c23) := chr_ok kok_nil (by decide +kernel) c23_r j
theorem c24_k (j : Nat) : KOk (jCall j c24) := chr_ok kok_nil (by decide +kernel) c24_r j
end Go.Proofs
