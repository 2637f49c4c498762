/- Addresses and their texts, by classes. No condition. -/
import Derived.Test.YtbdhilbngaemcaaGreatDoorNB
import Derived.Test.YtbdhilbngaemcaaGreatDoorND
import Derived.Test.YtbdhilbngaemcaaGreatDoorNA
set_option linter.unusedVariables false
set_option linter.unusedSimpArgs false
namespace Go.Proofs
open Go Go.AH
set_option maxRecDepth 100000
theorem e131_all : ∀ q ∈ qAll, okR (l46 ++ l99) (e131 q) = true := by
  intro q hq
  obtain ⟨i, hi⟩ := List.mem_iff_getElem?.1 hq
  have hl : i < 81 := (List.getElem?_eq_some_iff.1 hi).1
  have key : ∀ d n, d ≤ i → i < d + n → q ∈ (qAll.drop d).take n := fun d n h1 h2 => List.mem_iff_getElem?.2 ⟨i - d, by rw [List.getElem?_take_of_lt (by omega), List.getElem?_drop, show d + (i - d) = i by omega]; exact hi⟩
  rcases (show (0 ≤ i ∧ i < 27) ∨ (27 ≤ i ∧ i < 54) ∨ (54 ≤ i ∧ i < 81) by omega) with h | h | h
  · exact allC_ok e131_0 q (key 0 27 h.1 (by omega))
  · exact allC_ok e131_1 q (key 27 27 h.1 (by omega))
  · exact allC_ok e131_2 q (key 54 27 h.1 (by omega))
theorem e82_all : ∀ q ∈ qAll, okR l46 (e82 q) = true := by
  intro q hq
  obtain ⟨i, hi⟩ := List.mem_iff_getElem?.1 hq
  have hl : i < 81 := (List.getElem?_eq_some_iff.1 hi).1
  have key : ∀ d n, d ≤ i → i < d + n → q ∈ (qAll.drop d).take n := fun d n h1 h2 => List.mem_iff_getElem?.2 ⟨i - d, by rw [List.getElem?_take_of_lt (by omega), List.getElem?_drop, show d + (i - d) = i by omega]; exact hi⟩
  rcases (show (0 ≤ i ∧ i < 20) ∨ (20 ≤ i ∧ i < 40) ∨ (40 ≤ i ∧ i < 60) ∨ (60 ≤ i ∧ i < 81) by omega) with h | h | h | h
  · exact allC_ok e82_0 q (key 0 20 h.1 (by omega))
  · exact allC_ok e82_1 q (key 20 20 h.1 (by omega))
  · exact allC_ok e82_2 q (key 40 20 h.1 (by omega))
  · exact allC_ok e82_3 q (key 60 21 h.1 (by omega))
theorem e131_k (q : Q4) (hq : q ∈ qAll) : KOk (e131 q) := okR_ok (kok_app l46_k l99_k) (e131_all q hq)
theorem e82_k (q : Q4) (hq : q ∈ qAll) : KOk (e82 q) := okR_ok l46_k (e82_all q hq)
end Go.Proofs
namespace Go.Proofs
open Go Go.AH
set_option maxRecDepth 100000
theorem c2_0 : allC (fun q => okCl (spL ([e131 q])) c2 (qCls q)) ((qAll.drop 0).take 81) = true := by decide +kernel
end Go.Proofs
namespace Go.Proofs
open Go Go.AH
set_option maxRecDepth 100000
theorem c6_0 : allC (fun q => okCl (spL ([e131 q])) c6 (qCls q)) ((qAll.drop 0).take 81) = true := by decide +kernel
end Go.Proofs
namespace Go.Proofs
open Go Go.AH
set_option maxRecDepth 100000
theorem c8_0 : allC (fun q => okCl (spL ([e82 q])) c8 (qCls q)) ((qAll.drop 0).take 81) = true := by decide +kernel
end Go.Proofs
namespace Go.Proofs
open Go Go.AH
set_option maxRecDepth 100000
theorem c0_0 : allC (fun q => okCl (spL (l35)) c0 (qCls q)) ((qAll.drop 0).take 40) = true := by decide +kernel
end Go.Proofs
namespace Go.Proofs
open Go Go.AH
set_option maxRecDepth 100000
theorem c0_1 : allC (fun q => okCl (spL (l35)) c0 (qCls q)) ((qAll.drop 40).take 41) = true := by decide +kernel
end Go.Proofs
