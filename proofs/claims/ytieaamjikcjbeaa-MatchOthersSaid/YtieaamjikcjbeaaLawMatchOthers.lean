/- The law MatchOthers holds: it returns true at every input. No condition. -/
import Derived.Test.YtieaamjikcjbeaaRows
import Derived.Test.YtieaamjikcjbeaaM24
import Derived.WalkKit
import Derived.ProofKit
import Derived.OpenShut
import Derived.ShutString
import Derived.ChangeOld
import Derived.Below
import Derived.SizedLaws
namespace Go.Proofs.Ytieaamjikcjbeaa.matchOthers
open Go.ChangeShapes Go.WideShapes Go.ChangeAt Go.RowKit Go.AH
open Go.ChangeMaps (open_string shut_string)
set_option linter.unusedVariables false
set_option linter.unusedSimpArgs false
theorem own : ownKnob Try.prog.godebug = none := by kernel_rfl
theorem laidOut : laidOutB Try.prog = true := by kernel_rfl
set_option maxRecDepth 100000 in
theorem lifted (os : Os) (started : os.Started) (H : Type) (enc : TypeId × Value → H) :
    ReturnsInHanded {} Try.checked os 5 .any (Rows.matchOthersSpec.pre6 enc Try.prog Try.f5 Rows.matchOthersRow.domain false) (Rows.matchOthersSpec.post enc Try.prog Try.f5 false true false false) := by
  refine returnsInHanded_of_change_sized (C := Try.checked) own started (by kernel_rfl) Try.func5
    (ChangeSpec.witness6 (enc := enc) (C := Try.checked) false ⟨#[], #[.agg #[.int .i64 0, .string ByteArray.empty, .int .i64 0, .int .i64 0], .slice none 0 0, .slice none 0 0, .int .i64 0], []⟩ 8 (by kernel_rfl) (by kernel_rfl) (by kernel_rfl) (by kernel_rfl)) ?_
  intro W base args ds gs before hval0 hW hcnd hsz0 _
  have hsz : (DataW.weightsEach Try.prog (Try.f5.params.toList ++ Rows.matchOthersSpec.plain.varTypes Try.prog) (ds ++ gs)).all (· ≤ reachBytes) = true := hsz0
  have hval : ∀ (j : Nat) t v, Try.f5.params[j]? = some t → args[j]? = some v → Value.okWide Try.prog W .any base t v := hval0
  have hW' := hW
  obtain ⟨p, q, hA0, hV, rfl, hfz, hnd⟩ := hW
  have hA : DataW.TrodAll enc Try.prog W 0 (fun _ => true) true Try.f5.params.toList args.toList ds p := hA0
  rw [Try.params5] at hA hval hsz
  obtain ⟨v0, vs0, d0, ds0, p0, q0, hargs, rfl, rfl, h0, r0⟩ := trodAll_cons hA
  obtain ⟨v1, vs1, d1, ds1, p1, q1, rfl, rfl, rfl, h1, r1⟩ := trodAll_cons r0
  obtain ⟨v2, vs2, d2, ds2, p2, q2, rfl, rfl, rfl, h2, r2⟩ := trodAll_cons r1
  obtain ⟨v3, vs3, d3, ds3, p3, q3, rfl, rfl, rfl, h3, r3⟩ := trodAll_cons r2
  obtain ⟨rfl, rfl, rfl⟩ := trodAll_nil r3
  obtain rfl : args = #[v0, v1, v2, v3] := by cases args; simp_all
  obtain ⟨rfl, rfl⟩ := trodVars_none hV
  obtain ⟨x0, o0, e0⟩ := Sch.readArg (schQ) (fitQ) (hval 0 23 v0 rfl rfl) h0 (weights_of hsz (j := 0) (t := 23) rfl rfl)
  obtain ⟨x1, o1, e1⟩ := Sch.readArg (.sl schRc) (fitRcs) (hval 1 24 v1 rfl rfl) h1 (weights_of hsz (j := 1) (t := 24) rfl rfl)
  obtain ⟨x2, o2, e2⟩ := Sch.readArg (.sl schRc) (fitRcs) (hval 2 24 v2 rfl rfl) h2 (weights_of hsz (j := 2) (t := 24) rfl rfl)
  obtain ⟨x3, o3, e3⟩ := Sch.readArg (.int .i64) (fitInt) (hval 3 3 v3 rfl rfl) h3 (weights_of hsz (j := 3) (t := 3) rfl rfl)
  clear hA0 hval0 hsz0 hsz
  refine (((others_w x0 x1 x2 x3 o0 o1 o2 o3).mono fun r h q => q.1).law W #[v0, v1, v2, v3] ⟨_, _, rfl, e0, _, _, rfl, e1, _, _, rfl, e2, _, _, rfl, e3, rfl⟩).mono fun e W' ⟨he, bel⟩ => ?_
  subst he
  exact ⟨_, rfl, _, _, _, [], _, [], hW', trodAll_mk1 (shut_bool Try.underlying4 _), (trodAll_cons_mk (Below.trod laidOut (by kernel_rfl) (of_decide_eq_true (by kernel_rfl)) h0 bel (trodLt h0)) (trodAll_cons_mk (Below.trod laidOut (by kernel_rfl) (of_decide_eq_true (by kernel_rfl)) h1 bel (trodLt h1)) (trodAll_cons_mk (Below.trod laidOut (by kernel_rfl) (of_decide_eq_true (by kernel_rfl)) h2 bel (trodLt h2)) (trodAll_cons_mk (Below.trod laidOut (by kernel_rfl) (of_decide_eq_true (by kernel_rfl)) h3 bel (trodLt h3)) trodAll_mk0)))), rfl, bel.frame _, fun h => by cases h⟩
theorem over : Rows.matchOthersRow.holds Try.pinned (OpenSpec.ofChange Rows.matchOthersSpec) :=
  OpenClaim.holds_of_wide 5 Try.f5 rfl rfl rfl rfl rfl rfl rfl ⟨rfl, rfl, rfl, rfl, rfl⟩ rfl rfl rfl rfl rfl (by kernel_rfl) Try.func5 (by kernel_rfl)
    (of_decide_eq_true (by kernel_rfl)) (by unfold Func.isWrapper; first | (rw [if_pos (by decide +kernel)]; kernel_rfl) | (rw [if_neg (by decide +kernel)]; exact ⟨rfl, rfl⟩))
    (fun os started H enc _ => lifted os started H enc)
theorem proved : Rows.MatchOthersSaid := over
#print axioms proved
end Go.Proofs.Ytieaamjikcjbeaa.matchOthers
namespace Go.Proofs.Ytieaamjikcjbeaa
/-- The row, under a short name, for the claim. -/
theorem matchOthers_holds : Rows.MatchOthersSaid := matchOthers.proved
end Go.Proofs.Ytieaamjikcjbeaa

