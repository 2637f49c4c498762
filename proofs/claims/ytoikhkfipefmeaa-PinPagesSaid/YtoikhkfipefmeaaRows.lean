/-
  No cell of these rows narrows 'for every input' (looked for: loops, veiled, ifaces, maps, wideKeys, modest, calm, conditions, laid).
  DERIVED. THE GIVEN ROWS OF THIS SEAT. 5 by the template 'for every input the law returns true; each argument reads behind the call as it read before'; 0 by the template 'total and deterministic' (their statements: YtoikhkfipefmeaaTotals.lean).
  GIVEN WITH THE SEED: the statements are not yours to turn. If you find one false, say at which input.
  Laid BY PROGRAM, IN A SANDBOX (cutbox-rows.mjs): the forced cells as the released guide's own fill.sh prints them over the translation 178bf44071524143… (all of the seat's roots in one cut). By AI agents, Wed Nov 11 2026. No macro, syntax, notation, axiom, sorry.
-/
import Derived.Test.YtoikhkfipefmeaaChecked
import GoSem.Claim
import GoSem.ClaimJoined
import GoSem.ClaimMapViews
import Derived.JoinedTies
import Derived.KernelRfl
namespace Go.Proofs.Ytoikhkfipefmeaa
/- THE CELL 'sum', in the pinned program and in every row, IS THE sha256 OF THE DUMP (.gsa) THAT YtoikhkfipefmeaaProg.lean LOADS. Nothing in Lean hashes anything: it is a label: what it is worth is what the hold of that sum in a sandbox is worth. -/
noncomputable def Try.pinned : Pinned := { name := "ytoikhkfipefmeaa", sum := "178bf44071524143e976de49c427f39fa75fdfe4e35c7b6b070f28d5d6949f51", checked := Try.checked }
namespace Rows
def none {H : Type} : Left H := { results := [], args := [] }

/-- 'abatislaw19.PinRoom': WHATEVER THE INPUT: true; the input reads as it did. -/
def pinRoomSpec : ChangeSpec := { name := "pinRoom", fn := fun _ => fun
  | [d1, d2] => { results := [.lit (.bool true)], args := [d1, d2] }
  | _ => none }
def pinRoomRow : OpenClaim := { program := "ytoikhkfipefmeaa", sum := "178bf44071524143e976de49c427f39fa75fdfe4e35c7b6b070f28d5d6949f51", func := "abatis/abatislaw19.PinRoom", spec := "pinRoom", unfollowed := true, recurses := true, apart := false }
def PinRoomSaid : Prop := pinRoomRow.holds Try.pinned (OpenSpec.ofChange pinRoomSpec)

/-- ITS FALSE NEIGHBOUR: 'it returns false'. Refute it at one input. -/
def pinRoomWrong : ChangeSpec := { name := "pinRoom", fn := fun _ => fun
  | [d1, d2] => { results := [.lit (.bool false)], args := [d1, d2] }
  | _ => none }
def PinRoomWrongFalsely : Prop := pinRoomRow.holds Try.pinned (OpenSpec.ofChange pinRoomWrong)

/-- 'abatislaw19.PinCases': WHATEVER THE INPUT: true; the input reads as it did. -/
def pinCasesSpec : ChangeSpec := { name := "pinCases", fn := fun _ => fun
  | [d1, d2, d3, d4] => { results := [.lit (.bool true)], args := [d1, d2, d3, d4] }
  | _ => none }
def pinCasesRow : OpenClaim := { program := "ytoikhkfipefmeaa", sum := "178bf44071524143e976de49c427f39fa75fdfe4e35c7b6b070f28d5d6949f51", func := "abatis/abatislaw19.PinCases", spec := "pinCases", unfollowed := true, recurses := true, apart := false }
def PinCasesSaid : Prop := pinCasesRow.holds Try.pinned (OpenSpec.ofChange pinCasesSpec)

/-- ITS FALSE NEIGHBOUR: 'it returns false'. Refute it at one input. -/
def pinCasesWrong : ChangeSpec := { name := "pinCases", fn := fun _ => fun
  | [d1, d2, d3, d4] => { results := [.lit (.bool false)], args := [d1, d2, d3, d4] }
  | _ => none }
def PinCasesWrongFalsely : Prop := pinCasesRow.holds Try.pinned (OpenSpec.ofChange pinCasesWrong)

/-- 'abatislaw19.PinKeeps': WHATEVER THE INPUT: true; the input reads as it did. -/
def pinKeepsSpec : ChangeSpec := { name := "pinKeeps", fn := fun _ => fun
  | [d1, d2, d3, d4, d5] => { results := [.lit (.bool true)], args := [d1, d2, d3, d4, d5] }
  | _ => none }
def pinKeepsRow : OpenClaim := { program := "ytoikhkfipefmeaa", sum := "178bf44071524143e976de49c427f39fa75fdfe4e35c7b6b070f28d5d6949f51", func := "abatis/abatislaw19.PinKeeps", spec := "pinKeeps", unfollowed := true, recurses := true, apart := false }
def PinKeepsSaid : Prop := pinKeepsRow.holds Try.pinned (OpenSpec.ofChange pinKeepsSpec)

/-- ITS FALSE NEIGHBOUR: 'it returns false'. Refute it at one input. -/
def pinKeepsWrong : ChangeSpec := { name := "pinKeeps", fn := fun _ => fun
  | [d1, d2, d3, d4, d5] => { results := [.lit (.bool false)], args := [d1, d2, d3, d4, d5] }
  | _ => none }
def PinKeepsWrongFalsely : Prop := pinKeepsRow.holds Try.pinned (OpenSpec.ofChange pinKeepsWrong)

/-- 'abatislaw19.PinPlays': WHATEVER THE INPUT: true; the input reads as it did. -/
def pinPlaysSpec : ChangeSpec := { name := "pinPlays", fn := fun _ => fun
  | [d1, d2] => { results := [.lit (.bool true)], args := [d1, d2] }
  | _ => none }
def pinPlaysRow : OpenClaim := { program := "ytoikhkfipefmeaa", sum := "178bf44071524143e976de49c427f39fa75fdfe4e35c7b6b070f28d5d6949f51", func := "abatis/abatislaw19.PinPlays", spec := "pinPlays", unfollowed := true, recurses := true, apart := false }
def PinPlaysSaid : Prop := pinPlaysRow.holds Try.pinned (OpenSpec.ofChange pinPlaysSpec)

/-- ITS FALSE NEIGHBOUR: 'it returns false'. Refute it at one input. -/
def pinPlaysWrong : ChangeSpec := { name := "pinPlays", fn := fun _ => fun
  | [d1, d2] => { results := [.lit (.bool false)], args := [d1, d2] }
  | _ => none }
def PinPlaysWrongFalsely : Prop := pinPlaysRow.holds Try.pinned (OpenSpec.ofChange pinPlaysWrong)

/-- 'abatislaw19.PinPages': WHATEVER THE INPUT: true; the input reads as it did. -/
def pinPagesSpec : ChangeSpec := { name := "pinPages", fn := fun _ => fun
  | [d1, d2] => { results := [.lit (.bool true)], args := [d1, d2] }
  | _ => none }
def pinPagesRow : OpenClaim := { program := "ytoikhkfipefmeaa", sum := "178bf44071524143e976de49c427f39fa75fdfe4e35c7b6b070f28d5d6949f51", func := "abatis/abatislaw19.PinPages", spec := "pinPages", unfollowed := true, recurses := true, apart := false }
def PinPagesSaid : Prop := pinPagesRow.holds Try.pinned (OpenSpec.ofChange pinPagesSpec)

/-- ITS FALSE NEIGHBOUR: 'it returns false'. Refute it at one input. -/
def pinPagesWrong : ChangeSpec := { name := "pinPages", fn := fun _ => fun
  | [d1, d2] => { results := [.lit (.bool false)], args := [d1, d2] }
  | _ => none }
def PinPagesWrongFalsely : Prop := pinPagesRow.holds Try.pinned (OpenSpec.ofChange pinPagesWrong)

/- THE SECOND FORM. 'bulk': how many values and letters a reading holds, each counted each time it is reached (what is shared counts as often as it is met; a slice's spare places count too). A statement '..UptoSaid' is the law's where the arguments, and the package variables that the reading takes, are together of bulk at most 1048576: NARROWER than '..Said'. Prove '..Said' where nothing that the law and all that it calls make is longer than what came in: it says more and counts as full. Else prove '..UptoSaid'. A law counts once. -/
mutual
def uptoBulk {H : Type} : DataW H → Nat
  | .lit (.string bytes) => bytes.length + 1
  | .lit _ => 1
  | .nil => 1
  | .ptr d => uptoBulk d + 1
  | .slice elems spare => uptoBulkAll elems + uptoBulkAll spare + 1
  | .agg parts => uptoBulkAll parts + 1
  | .iface _ d => uptoBulk d + 1
  | .map entries => uptoBulkEntries entries + 1
  | .held _ => 1
def uptoBulkAll {H : Type} : List (DataW H) → Nat
  | [] => 0
  | d :: r => uptoBulk d + uptoBulkAll r
def uptoBulkEntries {H : Type} : List (Lit × DataW H) → Nat
  | [] => 0
  | x :: r => uptoBulkEntry x + uptoBulkEntries r
def uptoBulkEntry {H : Type} : Lit × DataW H → Nat
  | (.string bytes, d) => bytes.length + uptoBulk d + 1
  | (_, d) => uptoBulk d + 1
 end
def uptoSmall : (H : Type) → List (DataW H) → Bool := fun _ ds => decide (uptoBulkAll ds ≤ 1048576)
def OpenSpec.upto (s : _root_.Go.ChangeSpec) : _root_.Go.OpenSpec := { _root_.Go.OpenSpec.ofChange s with cond := some uptoSmall }

/-- 'abatislaw19.PinRoom', WHERE WHAT IT READS IS OF BULK AT MOST 1048576: true; the input reads as it did. -/
def pinRoomUptoRow : OpenClaim := { program := "ytoikhkfipefmeaa", sum := "178bf44071524143e976de49c427f39fa75fdfe4e35c7b6b070f28d5d6949f51", func := "abatis/abatislaw19.PinRoom", spec := "pinRoom", unfollowed := true, recurses := true, apart := false, narrowed := true }
def PinRoomUptoSaid : Prop := pinRoomUptoRow.holds Try.pinned (OpenSpec.upto pinRoomSpec)

/-- 'abatislaw19.PinCases', WHERE WHAT IT READS IS OF BULK AT MOST 1048576: true; the input reads as it did. -/
def pinCasesUptoRow : OpenClaim := { program := "ytoikhkfipefmeaa", sum := "178bf44071524143e976de49c427f39fa75fdfe4e35c7b6b070f28d5d6949f51", func := "abatis/abatislaw19.PinCases", spec := "pinCases", unfollowed := true, recurses := true, apart := false, narrowed := true }
def PinCasesUptoSaid : Prop := pinCasesUptoRow.holds Try.pinned (OpenSpec.upto pinCasesSpec)

/-- 'abatislaw19.PinKeeps', WHERE WHAT IT READS IS OF BULK AT MOST 1048576: true; the input reads as it did. -/
def pinKeepsUptoRow : OpenClaim := { program := "ytoikhkfipefmeaa", sum := "178bf44071524143e976de49c427f39fa75fdfe4e35c7b6b070f28d5d6949f51", func := "abatis/abatislaw19.PinKeeps", spec := "pinKeeps", unfollowed := true, recurses := true, apart := false, narrowed := true }
def PinKeepsUptoSaid : Prop := pinKeepsUptoRow.holds Try.pinned (OpenSpec.upto pinKeepsSpec)

/-- 'abatislaw19.PinPlays', WHERE WHAT IT READS IS OF BULK AT MOST 1048576: true; the input reads as it did. -/
def pinPlaysUptoRow : OpenClaim := { program := "ytoikhkfipefmeaa", sum := "178bf44071524143e976de49c427f39fa75fdfe4e35c7b6b070f28d5d6949f51", func := "abatis/abatislaw19.PinPlays", spec := "pinPlays", unfollowed := true, recurses := true, apart := false, narrowed := true }
def PinPlaysUptoSaid : Prop := pinPlaysUptoRow.holds Try.pinned (OpenSpec.upto pinPlaysSpec)

/-- 'abatislaw19.PinPages', WHERE WHAT IT READS IS OF BULK AT MOST 1048576: true; the input reads as it did. -/
def pinPagesUptoRow : OpenClaim := { program := "ytoikhkfipefmeaa", sum := "178bf44071524143e976de49c427f39fa75fdfe4e35c7b6b070f28d5d6949f51", func := "abatis/abatislaw19.PinPages", spec := "pinPages", unfollowed := true, recurses := true, apart := false, narrowed := true }
def PinPagesUptoSaid : Prop := pinPagesUptoRow.holds Try.pinned (OpenSpec.upto pinPagesSpec)

end Rows
end Go.Proofs.Ytoikhkfipefmeaa
