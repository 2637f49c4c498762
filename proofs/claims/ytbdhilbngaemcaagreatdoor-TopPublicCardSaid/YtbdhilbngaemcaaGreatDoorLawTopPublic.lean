/- The law TopPublic holds, and its tied card: it returns true at every input. No condition beyond what the row lists: five tables of the library as they are laid, of which one is read. -/
import Derived.Test.YtbdhilbngaemcaaGreatDoorRows
import Derived.Test.YtbdhilbngaemcaaGreatDoorCards
import Derived.Test.YtbdhilbngaemcaaGreatDoorTie
import Derived.Test.YtbdhilbngaemcaaGreatDoorW
import Derived.Test.YtbdhilbngaemcaaGreatDoorF
import Derived.WalkKit
import Derived.ProofKit
import Derived.OpenShut
import Derived.ChangeOld
import Derived.Below
import Derived.SizedLaws
import Derived.HandedShaped
import Derived.Shelf.Vars
import Derived.LaidMore
import Derived.Lay
import Derived.SevenTiedAt
import Derived.Stop.Joined
import Derived.Lib.LaidTab
import Derived.Lib.LaidU8
set_option linter.unusedVariables false
set_option linter.unusedSimpArgs false
namespace Go
variable {H : Type} {enc : TypeId × Value → H}
/-- A change's contract, where package variables are laid and the world's shape is kept. -/
theorem returnsInHanded_of_change_laidShaped {a : Assume} {C : Checked} {os : Os} {f : FuncId} {fn : Func} {s : ChangeSpec} {conds : List PathCond} {apart fresh handsOn again : Bool} {X : World → Array Value → Prop}
    (hX : ∀ (w w' : World) (args : Array Value), w.heap = w'.heap → X w args → X w' args)
    (own : ownKnob C.prog.godebug = none) (started : os.Started) (noInit : C.prog.inits.idxOf? f = none) (hfn : C.prog.funcs[f]? = some fn)
    (witness : ∃ (w : World) (tape : Tape) (i : Input), w.os = os ∧ (w.forCall tape i).Shaped C.prog ∧ i.vars = [] ∧ Input.okWide C.prog (w.forCall tape i) .any w.heap.size f i ∧
      ((s.pre enc C.prog fn conds apart (w.forCall tape i).memory i.args ∧ X (w.forCall tape i).memory i.args) ∧ sizedMet enc C.prog fn (OpenSpec.ofChange s) apart (w.forCall tape i).memory i.args) ∧ a.holds C.prog (lone (Frame.enter C.prog f i.args .normal) [] (w.forCall tape i)))
    (contract : ∀ (W : World) (base : Nat) (args : Array Value) (ds gs : List (DataW H)) (before : List MemPlace),
      (∀ (j : Nat) t v, fn.params[j]? = some t → args[j]? = some v → Value.okWide C.prog W .any base t v) →
      DataW.Whole enc C.prog fn.params.toList s.vars apart W args.toList ds gs before →
      X W args → W.ShapedOpen C.prog →
      Calls C.prog f args W fun e W' => ∃ v, e = .returned v ∧ s.post enc C.prog fn apart fresh handsOn again W args v W') :
    ReturnsInHanded a C os f .any (fun w args => (s.pre enc C.prog fn conds apart w args ∧ X w args) ∧ sizedMet enc C.prog fn (OpenSpec.ofChange s) apart w args) (s.post enc C.prog fn apart fresh handsOn again) := by
  refine returnsInHanded_of_calls own started noInit witness ?_
  intro w tape i _ hsh _ hok hpre hholds
  obtain ⟨_, _, _, fn', hfn', _, _, _, _, hval⟩ := hok
  have e : fn' = fn := Option.some.inj (hfn'.symm.trans hfn)
  subst e
  obtain ⟨⟨⟨ds, gs, before, hw, hc⟩, hx⟩, hz⟩ := hpre
  have hw' := DataW.Whole.of_heap (w' := w.forCall tape i) (by rfl) hw
  refine (contract (w.forCall tape i) w.heap.size i.args ds gs before hval hw' (hX _ _ _ (by rfl) hx) hsh).mono fun e W' ⟨v, he, hp⟩ => ?_
  subst he
  exact ChangeSpec.post_blind hp
end Go
namespace Go.Proofs.YtbdhilbngaemcaaGreatDoor.topPublic
set_option linter.unusedSimpArgs false
set_option linter.unusedVariables false
open Go.ChangeShapes Go.WideShapes Go.ChangeAt Go.RowKit Go.AH
theorem own : ownKnob Tryz.prog.godebug = none := by kernel_rfl
theorem gPow : Tryz.prog.globalNamed "internal/strconv.uint64pow10" = some 1 := by kernel_rfl
theorem tPow : (Tryz.prog.globals[1]?).map (·.type) = some 454 := by kernel_rfl
theorem dPow : (Rows.laid_internal_strconv_uint64pow10 : DataW Unit) = Lib.tabData .u64 Lib.pow10Tab := by kernel_rfl
/-- What is asked of the two package variables that are read. -/
theorem gst {W : World} (hL : laidMetH Tryz.prog Rows.topPublicRow.laid W) (hS : W.ShapedOpen Tryz.prog) : GSt (fun _ => False) W := by
  rw [MakeChecks.laidMetH_plain _ _ _ (by kernel_rfl)] at hL
  obtain ⟨g, t, cs, fuel, p, hg, ht, hv, hd⟩ := Lib.laidMet.reads hL (n := "internal/strconv.uint64pow10") (d := Rows.laid_internal_strconv_uint64pow10) (by simp [Rows.topPublicRow])
  obtain rfl := Option.some.inj (gPow.symm.trans hg)
  obtain rfl := Option.some.inj (tPow.symm.trans ht)
  rw [dPow] at hd
  have hcs : cs.toList = Lib.pow10Tab.map fun z => Value.int .u64 z := Lib.cells_of_tab Tryz.underlying454 Tryz.underlying378 (by kernel_rfl) (by kernel_rfl) hd
  have hlen : cs.size = 20 := by rw [← Array.length_toList, hcs, List.length_map, Lib.pow10Tab_length]
  have h1 : ∃ e fz, W.heap[1]? = some (.cells cs e fz) := by
    unfold World.var? at hv
    rw [gPow, Option.bind_some] at hv
    split at hv
    · rename_i cs' e fz ho
      cases hv
      exact ⟨e, fz, ho⟩
    · cases hv
  obtain ⟨e, fz, h1⟩ := h1
  obtain ⟨m, hm⟩ := cell_of_shapedOpen_int (P := Tryz.prog) (g := 0) (t := 3) (zero := #[.int .i64 0]) hS (of_decide_eq_true (by kernel_rfl)) (by kernel_rfl) rfl (by kernel_rfl) (by kernel_rfl) Tryz.underlying3
  obtain ⟨c0, h0, hsz, _⟩ := hS.1 0 #[.int .i64 0] 3 (of_decide_eq_true (by kernel_rfl)) (by kernel_rfl)
  have lt_of : ∀ {i : Nat} {o : Obj}, W.heap[i]? = some o → i < W.heap.size := fun h => (Array.getElem?_eq_some_iff.1 h).1
  intro x hx
  simp only [gtab, List.mem_cons, List.mem_nil_iff, or_false] at hx
  rcases hx with rfl | rfl
  · refine ⟨lt_of h0, fun q => q, ?_, 3, ?_⟩
    · intro i y hy
      match i, hy with
      | 0, hy =>
        simp only [List.getElem?_cons_zero, Option.some.injEq] at hy
        subst hy
        exact ⟨_, hm, m, rfl⟩
      | i + 1, hy => simp at hy
    · show W.shape? 0 = some (3, 1)
      unfold World.shape?
      rw [h0]
      simp [hsz]
  · refine ⟨lt_of h1, fun q => q, ?_, e, ?_⟩
    · intro i y hy
      have hi : i < 20 := by
        rcases Nat.lt_or_ge i 20 with q | q
        · exact q
        · rw [List.getElem?_eq_none (by simpa using q)] at hy; cases hy
      rw [List.getElem?_map, List.getElem?_range hi] at hy
      simp only [Option.map_some, Option.some.injEq] at hy
      subst hy
      refine ⟨.int .u64 (10 ^ i : Nat), ?_, rfl⟩
      have hc := World.var?_cell gPow hv i
      rw [hc, ← Array.getElem?_toList, hcs, List.getElem?_map]
      simp [Lib.pow10Tab, hi]
    · show W.shape? 1 = some (e, _)
      unfold World.shape?
      rw [h1]
      simp [hlen]
set_option maxRecDepth 100000 in
theorem lifted (os : Os) (started : os.Started) (H : Type) (enc : TypeId × Value → H) :
    ReturnsInHanded {} Tryz.checked os 3 .any (fun w args => (Rows.topPublicSpec.pre enc Tryz.prog Tryz.f3 [] false w args ∧ laidMetH Tryz.prog Rows.topPublicRow.laid w) ∧ sizedMet enc Tryz.prog Tryz.f3 (OpenSpec.ofChange Rows.topPublicSpec) false w args)
      (Rows.topPublicSpec.post enc Tryz.prog Tryz.f3 false true false false) := by
  refine returnsInHanded_of_change_laidShaped (C := Tryz.checked) (X := fun w _ => laidMetH Tryz.prog Rows.topPublicRow.laid w) (fun _ _ _ hh h => h.of_heap hh) own started (by kernel_rfl) Tryz.func3
    (ChangeSpec.witness_shaped (enc := enc) (C := Tryz.checked) (os := os) (X := fun w _ => laidMetH Tryz.prog Rows.topPublicRow.laid w) false (World.laidAll Tryz.prog os Rows.topPublicRow.laid) #[.int .u32 0, .int .u32 0, .bool false] 8 (World.laidAll_os _ _ _)
      (World.shaped_of_ZipB (by kernel_rfl) (by kernel_rfl)) (by kernel_rfl) (by kernel_rfl) (by kernel_rfl)
      (by rw [MakeChecks.laidMetH_plain _ _ _ (by kernel_rfl)]; exact laidMet_laidAll _ (by kernel_rfl) (by kernel_rfl))) ?_
  intro W base args ds gs before hval0 hW hL hS
  have hval : ∀ (j : Nat) t v, Tryz.f3.params[j]? = some t → args[j]? = some v → Value.okWide Tryz.prog W .any base t v := hval0
  have hW' := hW
  obtain ⟨p, q, hA0, hV, rfl, hfz, hnd⟩ := hW
  have hA : DataW.TrodAll enc Tryz.prog W 0 (fun _ => true) true Tryz.f3.params.toList args.toList ds p := hA0
  rw [Tryz.params3] at hA hval
  obtain ⟨v0, vs0, d0, ds0, p0, q0, hargs, rfl, rfl, h0, r0⟩ := trodAll_cons hA
  obtain ⟨v1, vs1, d1, ds1, p1, q1, rfl, rfl, rfl, h1, r1⟩ := trodAll_cons r0
  obtain ⟨v2, vs2, d2, ds2, p2, q2, rfl, rfl, rfl, h2, r2⟩ := trodAll_cons r1
  obtain ⟨rfl, rfl, rfl⟩ := trodAll_nil r2
  obtain rfl : args = #[v0, v1, v2] := by cases args; simp_all
  obtain ⟨rfl, rfl⟩ := trodVars_none hV
  obtain ⟨a0, rfl, rfl, rfl, w0⟩ := open_int Tryz.underlying22 (hval 0 22 v0 rfl rfl) h0
  obtain ⟨a1, rfl, rfl, rfl, w1⟩ := open_int Tryz.underlying22 (hval 1 22 v1 rfl rfl) h1
  obtain ⟨b2, rfl, rfl, rfl⟩ := open_bool Tryz.underlying4 (hval 2 4 v2 rfl rfl) h2
  clear hA0 hval0
  have b0 : 0 ≤ a0 ∧ a0 ≤ 4294967295 := by
    have := w0
    simp only [Lit.wf, Bool.and_eq_true, decide_eq_true_eq, show IntKind.u32.min = 0 from rfl, show IntKind.u32.max = 4294967295 from rfl] at this
    omega
  have b1 : 0 ≤ a1 ∧ a1 ≤ 4294967295 := by
    have := w1
    simp only [Lit.wf, Bool.and_eq_true, decide_eq_true_eq, show IntKind.u32.min = 0 from rfl, show IntKind.u32.max = 4294967295 from rfl] at this
    omega
  obtain ⟨a, rfl⟩ : ∃ a : Nat, a0 = (a : Int) := ⟨a0.toNat, by omega⟩
  obtain ⟨b, rfl⟩ : ∃ b : Nat, a1 = (b : Int) := ⟨a1.toNat, by omega⟩
  refine (law3 a b b2 (by omega) (by omega) W (gst hL hS)).mono fun e W' ⟨he, bel⟩ => ?_
  subst he
  exact ⟨_, rfl, _, _, _, [], _, [], hW', trodAll_mk1 (shut_bool Tryz.underlying4 _), (trodAll_cons_mk (shut_int Tryz.underlying22 w0) (trodAll_cons_mk (shut_int Tryz.underlying22 w1) (trodAll_cons_mk (shut_bool Tryz.underlying4 _) trodAll_mk0))), rfl, bel.frame _, fun h => by cases h⟩
theorem fnm : Tryz.pinned.checked.prog.funcNamed Rows.topPublicRow.func = some 3 := by kernel_rfl
theorem over : Rows.topPublicRow.holds Tryz.pinned (OpenSpec.ofChange Rows.topPublicSpec) :=
  OpenClaim.holds_of_wide 3 Tryz.f3 rfl rfl rfl rfl rfl rfl rfl ⟨rfl, rfl, rfl, rfl, rfl⟩ rfl rfl rfl rfl rfl fnm Tryz.func3 closed
    (of_decide_eq_true (by kernel_rfl)) (by unfold Func.isWrapper; first | (rw [if_pos (by decide +kernel)]; kernel_rfl) | (rw [if_neg (by decide +kernel)]; exact ⟨rfl, rfl⟩))
    (fun os started H enc _ => lifted os started H enc)
end Go.Proofs.YtbdhilbngaemcaaGreatDoor.topPublic
namespace Go.Proofs.YtbdhilbngaemcaaGreatDoor
open Go
set_option maxRecDepth 100000
theorem topPublic_said : Rows.TopPublicSaid := topPublic.over
theorem wText : Rows.topPublicRow.wfByText (OpenSpec.ofChange Rows.topPublicSpec) = true := by kernel_rfl
theorem mainHere : Tryz.pinned.checked.prog.mainIs = some (true, "740cdf37b8a9d9395c2204427350ee76e766e08635369b4730c25f4ffbef5bb3".toList) := by kernel_rfl
theorem looksHere : true = Tryz.pinned.checked.prog.looks [] := by kernel_rfl
theorem wants : ([22, 22, 4].all fun u => !Tryz.prog.wantsStandIn u) = true := by kernel_rfl
/-- The tied card. -/
theorem topPublic_holds : Rows.TopPublicCardSaid :=
  Claim7.holds_tied_plain_at .later [] [.data, .data, .data, .data, .pinned] true (true, "740cdf37b8a9d9395c2204427350ee76e766e08635369b4730c25f4ffbef5bb3") true
    topPublic_said (fun _ h => by cases h) wText (fun _ h => by cases h) topPublic_row_tie rfl ⟨rfl, rfl⟩ mainHere rfl
    (fun f fn hf hfn => by
      obtain rfl : f = 3 := Option.some.inj (topPublic.fnm.symm.trans hf) |>.symm
      obtain rfl : fn = Tryz.f3 := (Option.some.inj (Tryz.func3.symm.trans hfn)).symm
      exact ⟨looksHere, fun j t ht => by
        rw [Tryz.params3] at ht
        have hm : t ∈ [22, 22, 4] := by simpa using Array.mem_of_getElem? ht
        exact (show Tryz.prog.wantsStandIn t = false by simpa using List.all_eq_true.1 wants t hm)⟩)
    topPublic.goes_no
#print axioms topPublic_holds
end Go.Proofs.YtbdhilbngaemcaaGreatDoor
