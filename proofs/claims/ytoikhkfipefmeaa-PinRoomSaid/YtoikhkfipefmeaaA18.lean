/- The simp set that evaluates. No condition. -/
import Derived.Test.YtoikhkfipefmeaaA17
import Derived.KernelRfl
import Derived.WalkKit
namespace Go.AH
set_option linter.unusedSimpArgs false
set_option linter.unusedVariables false
open Go
attribute [go_sem] slim slim1 List.map List.getD_cons_zero List.getD_cons_succ sOps sGuard sOp ev aEval aPut ofConst ofConst1 List.set_cons_zero List.set_cons_succ List.getElem?_cons_succ List.getElem?_cons_zero Nx aBin aInt aStr isLit Option.map_some Option.map_none decide_true decide_false beq_self_eq_true Bool.false_beq Bool.true_beq Bool.not_true Bool.not_false Bool.false_eq_true
attribute [go_sem] aConv aUn aGuardEq aNil nilOf nilFit aEq eqF eqA aExtract aNilCheck aFieldAddr aField aIndexAddr aIndex aSlice sliceOf aBounds bound aLoad aStore rowAt acells oneC aFill setMany aBuildSlice aAppend lenOfA readSl aClear aCopy aConvert aBuiltin aLen aMin aMax aMakeIface pick cut isSeq strOk toBytes zeroRow
attribute [go_sem] List.length_nil List.length_cons List.nil_append List.cons_append Nat.zero_add Nat.add_zero if_true if_false Nat.mul_one List.set_append List.append_assoc List.drop_zero List.take_zero Option.getD_some Option.getD_none Option.map List.replicate
attribute [go_sem] aResults aRess aRes1 Then Round InBlock
end Go.AH
namespace Go.AH
open Go
theorem aBuild_struct {P : Program} {t : TypeId} {fs : Array Field} {z : List AV} {pl : List (Nat × Nat)} (hu : P.underlying t = some (.struct fs)) (hz : zeroCellsOf P t = some z) (hp : fieldPlaces P fs.toList = some pl) (parts : List (Nat × AV)) :
    aBuild P t parts = (aFill (pl[·]?) z parts).map .agg := by
  simp only [aBuild, hz, hu, hp]
end Go.AH
namespace Go.AH
open Go
section
variable {P : Program} {h : Heap}
/-- A call of a function that owns nothing: its contract is over the empty heap. -/
theorem ACalls.pure {f : FuncId} {args0 args : List AV} {R : AV} {K : AEnd → Heap → Prop} (c : ACalls P f args0 [] (fun r h => r = .ret R ∧ h = [])) (B : List Nat)
    (hargs : LentL (mf [] h.length) h B args0 args) (hB : B = [] ∨ noIsl R = true) (hR : ren (mf [] h.length) R = R) (k : K (.ret R) h) : ACalls P f args h K := by
  refine c.frame [] B rfl List.nodup_nil (by simp) (by simp) hargs (by simp) ?_
  rintro r0 h0' _ ⟨rfl, rfl⟩
  refine ⟨hB.imp id fun q => ⟨q, rfl⟩, ?_⟩
  have : merge [] h [] = h := by simp [merge, upd]
  rw [this, renE, hR]
  exact k
/-- The same, at arguments that hold no ids. -/
theorem ACalls.plain {f : FuncId} {args : List AV} {R : AV} {K : AEnd → Heap → Prop} (c : ACalls P f args [] (fun r h => r = .ret R ∧ h = []))
    (ha : renL (mf [] h.length) args = args) (hR : ren (mf [] h.length) R = R) (k : K (.ret R) h) : ACalls P f args h K := by
  refine c.pure [] ?_ (.inl rfl) hR k
  clear c k hR
  generalize hl : args = l at ha ⊢
  clear hl
  induction l with
  | nil => trivial
  | cons x l ih =>
    simp only [renL, List.cons.injEq] at ha
    refine ⟨.inl ?_, ih ha.2⟩
    unfold LeV
    split
    · trivial
    · exact ha.1
end
attribute [go_sem ↓] sOps sOp
attribute [go_sem] ren renL renE LeV LeL LeU
end Go.AH
