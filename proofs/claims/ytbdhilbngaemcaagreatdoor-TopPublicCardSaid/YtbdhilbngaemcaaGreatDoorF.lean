/- Closed facts of the row. No condition. -/
import Derived.Test.YtbdhilbngaemcaaGreatDoorRows
import Derived.Test.YtbdhilbngaemcaaGreatDoorCards
import Derived.JoinedOf
import Derived.KernelRfl
import Derived.Test.YtbdhilbngaemcaaGreatDoorAT
import GoSem.ClaimSeven
set_option linter.unusedVariables false
set_option linter.unusedSimpArgs false
namespace Go.Proofs.YtbdhilbngaemcaaGreatDoor.topPublic
open Go Go.AH
set_option maxRecDepth 100000
noncomputable abbrev R : OpenClaim := Rows.topPublicRow
noncomputable abbrev S : ChangeSpec := Rows.topPublicSpec
noncomputable abbrev P : Program := Tryz.prog
theorem j1 : R.wf (OpenSpec.ofChange S) = true := by kernel_rfl
theorem j2 : laidOutB P = true := by kernel_rfl
theorem j3 : mapsRowed P = true := by kernel_rfl
theorem j4 : Tryz.f3.params.all (P.readableRec ·) = true := by kernel_rfl
theorem j5 : namedTie P R.named S.vars = true := by kernel_rfl
theorem j6 : (R.stops == []) = true := by kernel_rfl
theorem j7 : (P.stops == []) = true := by kernel_rfl
theorem j8 : (R.knobs == []) = true := by kernel_rfl
theorem j9 : (P.stopKnobs == []) = true := by kernel_rfl
theorem j10 : (R.inPlace == P.inPlace 3) = true := by kernel_rfl
theorem j11 : (R.unfollowed == P.unfollowed 3) = true := by kernel_rfl
theorem j12 : (R.recurses == P.recurses 3) = true := by kernel_rfl
theorem j13 : (R.named == P.varsNamed 3) = true := by kernel_rfl
theorem j14 : (R.maps == (Tryz.f3.params.toList ++ S.plain.varTypes P).any (P.mapsRec ·)) = true := by kernel_rfl
theorem j15 : (R.ifaces == (Tryz.f3.params.toList ++ S.plain.varTypes P).any (P.ifacesRec ·)) = true := by kernel_rfl
theorem j16 : (R.mapsOut == P.mapsAmong Tryz.f3.resultTypes.toList) = true := by kernel_rfl
theorem j17 : (R.loops == (Tryz.f3.params.toList ++ S.plain.varTypes P).any (P.loopsFrom ·)) = true := by kernel_rfl
theorem j17b : (R.wideKeys == (Tryz.f3.params.toList ++ S.plain.varTypes P ++ Tryz.f3.resultTypes.toList).any (P.wideKeysFrom ·)) = true := by kernel_rfl
theorem j18 : S.vars.all (P.varReadable ·) = true := by kernel_rfl
theorem j19 : Tryz.f3.resultTypes.all (fun t => P.readableRec t && decide (t < P.types.size)) = true := by kernel_rfl
theorem j20 : (R.ifacesOut == Tryz.f3.resultTypes.toList.any (P.ifacesRec ·)) = true := by kernel_rfl
theorem j21 : (R.loopsOut == Tryz.f3.resultTypes.toList.any (P.loopsFrom ·)) = true := by kernel_rfl
theorem j22 : (R.plainKeys == P.plainKeys) = true := by kernel_rfl
theorem j23 : R.shortTexts.isNone = true := by kernel_rfl
theorem j23b : P.stopsHeard = true := by kernel_rfl
theorem j24 : P.mayEnter = true := by kernel_rfl
theorem j24b : (R.lifted == P.liftsFinal) = true := by kernel_rfl
theorem j24c : (P.make == some R.make) = true := by kernel_rfl
theorem j25 : (R.kinds == (if R.domain.isEmpty then [] else Tryz.f3.params.toList.map fun t => match P.underlying t with | some (.int k) => some k | _ => none)) = true := by kernel_rfl
theorem j26 : (R.pinned == R.pinnedBy) = true := by kernel_rfl
theorem j27 : (R.veiled == (Tryz.f3.params.toList ++ S.plain.varTypes P ++ Tryz.f3.resultTypes.toList).any (P.veiledRec ·)) = true := by kernel_rfl
theorem j28 : R.veiledFits P Tryz.f3.params.toList (Tryz.f3.params.toList ++ S.plain.varTypes P ++ Tryz.f3.resultTypes.toList) = true := by kernel_rfl
theorem closed : joinedFacts Tryz.pinned.checked.prog 3 Tryz.f3 S R = true := by
  show joinedFacts P 3 Tryz.f3 S R = true
  simp only [joinedFacts, Bool.and_eq_true]
  exact ⟨⟨⟨⟨⟨⟨⟨⟨⟨⟨⟨⟨⟨⟨⟨⟨⟨⟨⟨⟨⟨⟨⟨⟨⟨⟨⟨⟨⟨⟨⟨j1, j2⟩, j3⟩, j4⟩, j5⟩, j6⟩, j7⟩, j8⟩, j9⟩, j10⟩, j11⟩, j12⟩, j13⟩, j14⟩, j15⟩, j16⟩, j17⟩, j17b⟩, j18⟩, j19⟩, j20⟩, j21⟩, j22⟩, j23⟩, j23b⟩, j24⟩, j24b⟩, j24c⟩, j25⟩, j26⟩, j27⟩, j28⟩
end Go.Proofs.YtbdhilbngaemcaaGreatDoor.topPublic
namespace Go.Proofs.YtbdhilbngaemcaaGreatDoor.topPublic
open Go Go.AH Go.Proofs
set_option maxRecDepth 100000
/-! ### no function starts a goroutine -/
noncomputable def goR (n : Nat) : Nat → Bool := fun k => Nat.rec true (fun i r => bif (match Tryz.prog.funcs[n + i]? with | some fn => fn.goes | none => false) then false else r) k
theorem go0 : goR 0 60 = true := by decide +kernel
theorem go60 : goR 60 60 = true := by decide +kernel
theorem go120 : goR 120 60 = true := by decide +kernel
theorem go180 : goR 180 60 = true := by decide +kernel
theorem go240 : goR 240 60 = true := by decide +kernel
theorem go300 : goR 300 60 = true := by decide +kernel
theorem go360 : goR 360 60 = true := by decide +kernel
theorem go420 : goR 420 60 = true := by decide +kernel
theorem go480 : goR 480 26 = true := by decide +kernel
theorem goR_ok {n : Nat} : ∀ {k : Nat}, goR n k = true → ∀ i, i < k → (Tryz.prog.funcs[n + i]?).any Func.goes = false
  | 0, _, i, hi => by omega
  | k + 1, h, i, hi => by
    have h : (bif (match Tryz.prog.funcs[n + k]? with | some fn => fn.goes | none => false) then false else goR n k) = true := h
    obtain ⟨h1, h2⟩ := cond_false_r h
    rcases Nat.lt_or_ge i k with q | q
    · exact goR_ok h2 i q
    · have : i = k := by omega
      subst this
      cases hf : Tryz.prog.funcs[n + i]? with
      | none => rfl
      | some fn => rw [hf] at h1; exact h1
theorem noGo (g : Nat) : (Tryz.prog.funcs[g]?).any Func.goes = false := by
  if h0 : g < 60 then exact (show 0 + (g - 0) = g by omega) ▸ goR_ok go0 (g - 0) (by omega) else
  if h60 : g < 120 then exact (show 60 + (g - 60) = g by omega) ▸ goR_ok go60 (g - 60) (by omega) else
  if h120 : g < 180 then exact (show 120 + (g - 120) = g by omega) ▸ goR_ok go120 (g - 120) (by omega) else
  if h180 : g < 240 then exact (show 180 + (g - 180) = g by omega) ▸ goR_ok go180 (g - 180) (by omega) else
  if h240 : g < 300 then exact (show 240 + (g - 240) = g by omega) ▸ goR_ok go240 (g - 240) (by omega) else
  if h300 : g < 360 then exact (show 300 + (g - 300) = g by omega) ▸ goR_ok go300 (g - 300) (by omega) else
  if h360 : g < 420 then exact (show 360 + (g - 360) = g by omega) ▸ goR_ok go360 (g - 360) (by omega) else
  if h420 : g < 480 then exact (show 420 + (g - 420) = g by omega) ▸ goR_ok go420 (g - 420) (by omega) else
  if h480 : g < 506 then exact (show 480 + (g - 480) = g by omega) ▸ goR_ok go480 (g - 480) (by omega) else
  rw [Array.getElem?_eq_none (by rw [nfuncs]; omega)]; rfl
theorem any_no {a : Array Func} (h : ∀ g : Nat, (a[g]?).any Func.goes = false) : a.any Func.goes = false := by
  rw [Array.any_eq_false]
  intro i hi
  have := h i
  rw [Array.getElem?_eq_getElem hi] at this
  simpa using this
theorem any_none (a : List FuncId) (p : FuncId → Bool) (h : ∀ g, p g = false) : a.any p = false := by
  induction a with
  | nil => rfl
  | cons x a ih => rw [List.any_cons, h, ih]; rfl
theorem goesAt_no (P : Program) (h1 : ∀ f, P.goes f = false) (func : String) : P.goesAt .entering func = false := by
  unfold Program.goesAt Program.goesFrom
  cases P.funcNamed func with
  | none => rfl
  | some f => simp [h1]
theorem goes_no : false = Rows.topPublicRow.goesBy Tryz.pinned.checked.prog := by
  have h1 : ∀ f, Tryz.prog.goes f = false := by
    intro f
    unfold Program.goes
    have e1 : ((Tryz.prog.closure f).any fun g => (Tryz.prog.funcs[g]?).any Func.goes) = false := by
      exact any_none _ _ noGo
    have e2 : Tryz.prog.funcs.any Func.goes = false := any_no noGo
    rw [e1, e2, Bool.and_false]; rfl
  exact (goesAt_no Tryz.prog h1 "abatis/abatistop.TopPublic").symm
end Go.Proofs.YtbdhilbngaemcaaGreatDoor.topPublic
