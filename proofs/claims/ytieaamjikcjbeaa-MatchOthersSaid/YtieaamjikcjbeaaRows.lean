/-
  No cell of these rows narrows 'for every input' (looked for: loops, veiled, ifaces, maps, wideKeys, modest, calm, conditions, laid).
  DERIVED. THE GIVEN ROWS OF THIS SEAT. 7 by the template 'for every input the law returns true; each argument reads behind the call as it read before'; 0 by the template 'total and deterministic' (their statements: YtieaamjikcjbeaaTotals.lean).
  GIVEN WITH THE SEED: the statements are not yours to turn. If you find one false, say at which input.
  Laid BY PROGRAM, IN A SANDBOX (cutbox-rows.mjs): the forced cells as the released guide's own fill.sh prints them over the translation efc095450588b202… (all of the seat's roots in one cut). By AI agents, Wed Nov 11 2026. No macro, syntax, notation, axiom, sorry.
-/
import Derived.Test.YtieaamjikcjbeaaChecked
import GoSem.Claim
import GoSem.ClaimJoined
import GoSem.ClaimMapViews
import Derived.JoinedTies
import Derived.KernelRfl
namespace Go.Proofs.Ytieaamjikcjbeaa
/- THE CELL 'sum', in the pinned program and in every row, IS THE sha256 OF THE DUMP (.gsa) THAT YtieaamjikcjbeaaProg.lean LOADS. Nothing in Lean hashes anything: it is a label: what it is worth is what the hold of that sum in a sandbox is worth. -/
noncomputable def Try.pinned : Pinned := { name := "ytieaamjikcjbeaa", sum := "efc095450588b202508532b76f95652c9d38809152fd270115762babeb051f03", checked := Try.checked }
namespace Rows
def none {H : Type} : Left H := { results := [], args := [] }

/-- 'abatislaw11.MatchTells': WHATEVER THE INPUT: true; the input reads as it did. -/
def matchTellsSpec : ChangeSpec := { name := "matchTells", fn := fun _ => fun
  | [d1, d2, d3] => { results := [.lit (.bool true)], args := [d1, d2, d3] }
  | _ => none }
def matchTellsRow : OpenClaim := { program := "ytieaamjikcjbeaa", sum := "efc095450588b202508532b76f95652c9d38809152fd270115762babeb051f03", func := "abatis/abatislaw11.MatchTells", spec := "matchTells", unfollowed := true, recurses := true, apart := false }
def MatchTellsSaid : Prop := matchTellsRow.holds Try.pinned (OpenSpec.ofChange matchTellsSpec)

/-- ITS FALSE NEIGHBOUR: 'it returns false'. Refute it at one input. -/
def matchTellsWrong : ChangeSpec := { name := "matchTells", fn := fun _ => fun
  | [d1, d2, d3] => { results := [.lit (.bool false)], args := [d1, d2, d3] }
  | _ => none }
def MatchTellsWrongFalsely : Prop := matchTellsRow.holds Try.pinned (OpenSpec.ofChange matchTellsWrong)

/-- 'abatislaw11.MatchChains': WHATEVER THE INPUT: true; the input reads as it did. -/
def matchChainsSpec : ChangeSpec := { name := "matchChains", fn := fun _ => fun
  | [d1, d2, d3] => { results := [.lit (.bool true)], args := [d1, d2, d3] }
  | _ => none }
def matchChainsRow : OpenClaim := { program := "ytieaamjikcjbeaa", sum := "efc095450588b202508532b76f95652c9d38809152fd270115762babeb051f03", func := "abatis/abatislaw11.MatchChains", spec := "matchChains", unfollowed := true, recurses := true, apart := false }
def MatchChainsSaid : Prop := matchChainsRow.holds Try.pinned (OpenSpec.ofChange matchChainsSpec)

/-- ITS FALSE NEIGHBOUR: 'it returns false'. Refute it at one input. -/
def matchChainsWrong : ChangeSpec := { name := "matchChains", fn := fun _ => fun
  | [d1, d2, d3] => { results := [.lit (.bool false)], args := [d1, d2, d3] }
  | _ => none }
def MatchChainsWrongFalsely : Prop := matchChainsRow.holds Try.pinned (OpenSpec.ofChange matchChainsWrong)

/-- 'abatislaw11.MatchOthers': WHATEVER THE INPUT: true; the input reads as it did. -/
def matchOthersSpec : ChangeSpec := { name := "matchOthers", fn := fun _ => fun
  | [d1, d2, d3, d4] => { results := [.lit (.bool true)], args := [d1, d2, d3, d4] }
  | _ => none }
def matchOthersRow : OpenClaim := { program := "ytieaamjikcjbeaa", sum := "efc095450588b202508532b76f95652c9d38809152fd270115762babeb051f03", func := "abatis/abatislaw11.MatchOthers", spec := "matchOthers", unfollowed := true, recurses := true, apart := false }
def MatchOthersSaid : Prop := matchOthersRow.holds Try.pinned (OpenSpec.ofChange matchOthersSpec)

/-- ITS FALSE NEIGHBOUR: 'it returns false'. Refute it at one input. -/
def matchOthersWrong : ChangeSpec := { name := "matchOthers", fn := fun _ => fun
  | [d1, d2, d3, d4] => { results := [.lit (.bool false)], args := [d1, d2, d3, d4] }
  | _ => none }
def MatchOthersWrongFalsely : Prop := matchOthersRow.holds Try.pinned (OpenSpec.ofChange matchOthersWrong)

/-- 'abatislaw11.MatchBound': WHATEVER THE INPUT: true; the input reads as it did. -/
def matchBoundSpec : ChangeSpec := { name := "matchBound", fn := fun _ => fun
  | [d1, d2] => { results := [.lit (.bool true)], args := [d1, d2] }
  | _ => none }
def matchBoundRow : OpenClaim := { program := "ytieaamjikcjbeaa", sum := "efc095450588b202508532b76f95652c9d38809152fd270115762babeb051f03", func := "abatis/abatislaw11.MatchBound", spec := "matchBound", unfollowed := true, recurses := true, apart := false }
def MatchBoundSaid : Prop := matchBoundRow.holds Try.pinned (OpenSpec.ofChange matchBoundSpec)

/-- ITS FALSE NEIGHBOUR: 'it returns false'. Refute it at one input. -/
def matchBoundWrong : ChangeSpec := { name := "matchBound", fn := fun _ => fun
  | [d1, d2] => { results := [.lit (.bool false)], args := [d1, d2] }
  | _ => none }
def MatchBoundWrongFalsely : Prop := matchBoundRow.holds Try.pinned (OpenSpec.ofChange matchBoundWrong)

/-- 'abatislaw11.MatchLetters': WHATEVER THE INPUT: true; the input reads as it did. -/
def matchLettersSpec : ChangeSpec := { name := "matchLetters", fn := fun _ => fun
  | [d1, d2] => { results := [.lit (.bool true)], args := [d1, d2] }
  | _ => none }
def matchLettersRow : OpenClaim := { program := "ytieaamjikcjbeaa", sum := "efc095450588b202508532b76f95652c9d38809152fd270115762babeb051f03", func := "abatis/abatislaw11.MatchLetters", spec := "matchLetters", unfollowed := true, recurses := true, apart := false }
def MatchLettersSaid : Prop := matchLettersRow.holds Try.pinned (OpenSpec.ofChange matchLettersSpec)

/-- ITS FALSE NEIGHBOUR: 'it returns false'. Refute it at one input. -/
def matchLettersWrong : ChangeSpec := { name := "matchLetters", fn := fun _ => fun
  | [d1, d2] => { results := [.lit (.bool false)], args := [d1, d2] }
  | _ => none }
def MatchLettersWrongFalsely : Prop := matchLettersRow.holds Try.pinned (OpenSpec.ofChange matchLettersWrong)

/-- 'abatislaw11.MatchAnswers': WHATEVER THE INPUT: true; the input reads as it did. -/
def matchAnswersSpec : ChangeSpec := { name := "matchAnswers", fn := fun _ => fun
  | [d1, d2, d3, d4, d5] => { results := [.lit (.bool true)], args := [d1, d2, d3, d4, d5] }
  | _ => none }
def matchAnswersRow : OpenClaim := { program := "ytieaamjikcjbeaa", sum := "efc095450588b202508532b76f95652c9d38809152fd270115762babeb051f03", func := "abatis/abatislaw11.MatchAnswers", spec := "matchAnswers", unfollowed := true, recurses := true, apart := false }
def MatchAnswersSaid : Prop := matchAnswersRow.holds Try.pinned (OpenSpec.ofChange matchAnswersSpec)

/-- ITS FALSE NEIGHBOUR: 'it returns false'. Refute it at one input. -/
def matchAnswersWrong : ChangeSpec := { name := "matchAnswers", fn := fun _ => fun
  | [d1, d2, d3, d4, d5] => { results := [.lit (.bool false)], args := [d1, d2, d3, d4, d5] }
  | _ => none }
def MatchAnswersWrongFalsely : Prop := matchAnswersRow.holds Try.pinned (OpenSpec.ofChange matchAnswersWrong)

/-- 'abatislaw11.MatchForges': WHATEVER THE INPUT: true; the input reads as it did. -/
def matchForgesSpec : ChangeSpec := { name := "matchForges", fn := fun _ => fun
  | [d1, d2, d3] => { results := [.lit (.bool true)], args := [d1, d2, d3] }
  | _ => none }
def matchForgesRow : OpenClaim := { program := "ytieaamjikcjbeaa", sum := "efc095450588b202508532b76f95652c9d38809152fd270115762babeb051f03", func := "abatis/abatislaw11.MatchForges", spec := "matchForges", unfollowed := true, recurses := true, apart := false }
def MatchForgesSaid : Prop := matchForgesRow.holds Try.pinned (OpenSpec.ofChange matchForgesSpec)

/-- ITS FALSE NEIGHBOUR: 'it returns false'. Refute it at one input. -/
def matchForgesWrong : ChangeSpec := { name := "matchForges", fn := fun _ => fun
  | [d1, d2, d3] => { results := [.lit (.bool false)], args := [d1, d2, d3] }
  | _ => none }
def MatchForgesWrongFalsely : Prop := matchForgesRow.holds Try.pinned (OpenSpec.ofChange matchForgesWrong)

/- THE SECOND FORM. 'bulk': how many values and letters a reading holds, each counted each time it is reached (what is shared counts as often as it is met; a slice's spare places count too). A statement '..UptoSaid' is the law's where the arguments, and the package variables that the reading takes, are together of bulk at most 1048576: NARROWER than '..Said'. Prove '..Said' where nothing that the law and all that it calls make is longer than what came in: it says more and counts as full. Else prove '..UptoSaid'. A law counts once. -/
mutual
def uptoBulk {H : Type} : DataW H → Nat
  | .lit (.string bytes) => bytes.length + 1
  | .lit _ => 1
  | .nil => 1
  | .ptr d => uptoBulk d + 1
  | .slice elems spare => uptoBulkAll elems + uptoBulkAll spare + 1
  | .agg parts => uptoBulkAll parts + 1
  | .iface _ d => uptoBulk d + 1
  | .map entries => uptoBulkEntries entries + 1
  | .held _ => 1
def uptoBulkAll {H : Type} : List (DataW H) → Nat
  | [] => 0
  | d :: r => uptoBulk d + uptoBulkAll r
def uptoBulkEntries {H : Type} : List (Lit × DataW H) → Nat
  | [] => 0
  | x :: r => uptoBulkEntry x + uptoBulkEntries r
def uptoBulkEntry {H : Type} : Lit × DataW H → Nat
  | (.string bytes, d) => bytes.length + uptoBulk d + 1
  | (_, d) => uptoBulk d + 1
 end
def uptoSmall : (H : Type) → List (DataW H) → Bool := fun _ ds => decide (uptoBulkAll ds ≤ 1048576)
def OpenSpec.upto (s : _root_.Go.ChangeSpec) : _root_.Go.OpenSpec := { _root_.Go.OpenSpec.ofChange s with cond := some uptoSmall }

/-- 'abatislaw11.MatchTells', WHERE WHAT IT READS IS OF BULK AT MOST 1048576: true; the input reads as it did. -/
def matchTellsUptoRow : OpenClaim := { program := "ytieaamjikcjbeaa", sum := "efc095450588b202508532b76f95652c9d38809152fd270115762babeb051f03", func := "abatis/abatislaw11.MatchTells", spec := "matchTells", unfollowed := true, recurses := true, apart := false, narrowed := true }
def MatchTellsUptoSaid : Prop := matchTellsUptoRow.holds Try.pinned (OpenSpec.upto matchTellsSpec)

/-- 'abatislaw11.MatchChains', WHERE WHAT IT READS IS OF BULK AT MOST 1048576: true; the input reads as it did. -/
def matchChainsUptoRow : OpenClaim := { program := "ytieaamjikcjbeaa", sum := "efc095450588b202508532b76f95652c9d38809152fd270115762babeb051f03", func := "abatis/abatislaw11.MatchChains", spec := "matchChains", unfollowed := true, recurses := true, apart := false, narrowed := true }
def MatchChainsUptoSaid : Prop := matchChainsUptoRow.holds Try.pinned (OpenSpec.upto matchChainsSpec)

/-- 'abatislaw11.MatchOthers', WHERE WHAT IT READS IS OF BULK AT MOST 1048576: true; the input reads as it did. -/
def matchOthersUptoRow : OpenClaim := { program := "ytieaamjikcjbeaa", sum := "efc095450588b202508532b76f95652c9d38809152fd270115762babeb051f03", func := "abatis/abatislaw11.MatchOthers", spec := "matchOthers", unfollowed := true, recurses := true, apart := false, narrowed := true }
def MatchOthersUptoSaid : Prop := matchOthersUptoRow.holds Try.pinned (OpenSpec.upto matchOthersSpec)

/-- 'abatislaw11.MatchBound', WHERE WHAT IT READS IS OF BULK AT MOST 1048576: true; the input reads as it did. -/
def matchBoundUptoRow : OpenClaim := { program := "ytieaamjikcjbeaa", sum := "efc095450588b202508532b76f95652c9d38809152fd270115762babeb051f03", func := "abatis/abatislaw11.MatchBound", spec := "matchBound", unfollowed := true, recurses := true, apart := false, narrowed := true }
def MatchBoundUptoSaid : Prop := matchBoundUptoRow.holds Try.pinned (OpenSpec.upto matchBoundSpec)

/-- 'abatislaw11.MatchLetters', WHERE WHAT IT READS IS OF BULK AT MOST 1048576: true; the input reads as it did. -/
def matchLettersUptoRow : OpenClaim := { program := "ytieaamjikcjbeaa", sum := "efc095450588b202508532b76f95652c9d38809152fd270115762babeb051f03", func := "abatis/abatislaw11.MatchLetters", spec := "matchLetters", unfollowed := true, recurses := true, apart := false, narrowed := true }
def MatchLettersUptoSaid : Prop := matchLettersUptoRow.holds Try.pinned (OpenSpec.upto matchLettersSpec)

/-- 'abatislaw11.MatchAnswers', WHERE WHAT IT READS IS OF BULK AT MOST 1048576: true; the input reads as it did. -/
def matchAnswersUptoRow : OpenClaim := { program := "ytieaamjikcjbeaa", sum := "efc095450588b202508532b76f95652c9d38809152fd270115762babeb051f03", func := "abatis/abatislaw11.MatchAnswers", spec := "matchAnswers", unfollowed := true, recurses := true, apart := false, narrowed := true }
def MatchAnswersUptoSaid : Prop := matchAnswersUptoRow.holds Try.pinned (OpenSpec.upto matchAnswersSpec)

/-- 'abatislaw11.MatchForges', WHERE WHAT IT READS IS OF BULK AT MOST 1048576: true; the input reads as it did. -/
def matchForgesUptoRow : OpenClaim := { program := "ytieaamjikcjbeaa", sum := "efc095450588b202508532b76f95652c9d38809152fd270115762babeb051f03", func := "abatis/abatislaw11.MatchForges", spec := "matchForges", unfollowed := true, recurses := true, apart := false, narrowed := true }
def MatchForgesUptoSaid : Prop := matchForgesUptoRow.holds Try.pinned (OpenSpec.upto matchForgesSpec)

end Rows
end Go.Proofs.Ytieaamjikcjbeaa
