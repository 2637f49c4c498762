/- Spaces: what is asked. No condition. -/
import Derived.Test.YtbdhilbngaemcaaGreatDoorNA
import Derived.Test.YtbdhilbngaemcaaGreatDoorAZ
set_option linter.unusedVariables false
set_option linter.unusedSimpArgs false
namespace Go.Proofs
open Go Go.AH
set_option maxRecDepth 100000
/-! ### a space by the program's map, and by the document's -/
def octsJ (j : Nat) : AV := .agg (.int .i64 4 :: .oct j 0 :: .oct j 1 :: .oct j 2 :: .oct j 3 :: z12)
def ofH : Heap := some (.row [.ptr 1 0] 176 true) :: some (.row [.gsl 2 11 19, .any .i64] 221 true) :: tabH.take 1
def ofA (s : Nat) : KCall := ⟨194, [.ptr 0 0, octsJ 9], ofH, .int .i64 (s : Nat), ofH⟩
def refH : Heap := [some (.row [nI 4, uB 0, uB 0, uB 0, uB 0, uB 0, uB 0, uB 0, uB 0, uB 0, uB 0, uB 0, uB 0, uB 0, uB 0, uB 0, uB 0, nI 32, nI 0, nI 4, uB 10, uB 0, uB 0, uB 0, uB 0, uB 0, uB 0, uB 0, uB 0, uB 0, uB 0, uB 0, uB 0, uB 0, uB 0, uB 0, nI 8, nI 1, nI 4, uB 100, uB 64, uB 0, uB 0, uB 0, uB 0, uB 0, uB 0, uB 0, uB 0, uB 0, uB 0, uB 0, uB 0, uB 0, uB 0, nI 10, nI 1, nI 4, uB 127, uB 0, uB 0, uB 0, uB 0, uB 0, uB 0, uB 0, uB 0, uB 0, uB 0, uB 0, uB 0, uB 0, uB 0, uB 0, nI 8, nI 0, nI 4, uB 169, uB 254, uB 0, uB 0, uB 0, uB 0, uB 0, uB 0, uB 0, uB 0, uB 0, uB 0, uB 0, uB 0, uB 0, uB 0, nI 16, nI 1, nI 4, uB 172, uB 16, uB 0, uB 0, uB 0, uB 0, uB 0, uB 0, uB 0, uB 0, uB 0, uB 0, uB 0, uB 0, uB 0, uB 0, nI 12, nI 1, nI 4, uB 192, uB 168, uB 0, uB 0, uB 0, uB 0, uB 0, uB 0, uB 0, uB 0, uB 0, uB 0, uB 0, uB 0, uB 0, uB 0, nI 16, nI 1, nI 6, uB 0, uB 0, uB 0, uB 0, uB 0, uB 0, uB 0, uB 0, uB 0, uB 0, uB 0, uB 0, uB 0, uB 0, uB 0, uB 0, nI 128, nI 0, nI 6, uB 0, uB 0, uB 0, uB 0, uB 0, uB 0, uB 0, uB 0, uB 0, uB 0, uB 0, uB 0, uB 0, uB 0, uB 0, uB 1, nI 128, nI 0, nI 6, uB 252, uB 0, uB 0, uB 0, uB 0, uB 0, uB 0, uB 0, uB 0, uB 0, uB 0, uB 0, uB 0, uB 0, uB 0, uB 0, nI 7, nI 1, nI 6, uB 254, uB 128, uB 0, uB 0, uB 0, uB 0, uB 0, uB 0, uB 0, uB 0, uB 0, uB 0, uB 0, uB 0, uB 0, uB 0, nI 10, nI 1] 82 false)]
def ofR (s : Nat) : KCall := ⟨9, [.gsl 0 11 19, octsJ 9], refH, .int .i64 (s : Nat), refH⟩
noncomputable def okBit (n : Nat) : Bool := okK sp0 87 (maskArgs n) [] (bitRes n) []
theorem bit_all : allR okBit 0 32 = true := by decide +kernel
def spB : CallF := fun f args h => bif Nat.beq f 87 then spBit args h else none
theorem spB_ok : CallOk Tryz.prog spB := by
  intro f args h r h' e
  unfold spB at e
  cases h1 : Nat.beq f 87 with
  | true =>
    rw [h1] at e
    have := Nat.eq_of_beq_eq_true h1
    subst this
    exact spBit_ok (fun n hn => okK_ok sp0_ok (allR_ok bit_all n (by omega) (by omega))) e
  | false => rw [h1] at e; cases e
end Go.Proofs
