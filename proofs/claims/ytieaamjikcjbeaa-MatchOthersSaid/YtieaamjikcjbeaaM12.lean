/- Contracts of the package's functions, by the walk over abstract values. No condition. -/
import Derived.Test.YtieaamjikcjbeaaM11
namespace Go.Proofs
open Go Go.AH TryTy
set_option linter.unusedSimpArgs false
set_option linter.unusedVariables false
set_option maxRecDepth 10000

theorem i64b {n : Int} (h : (Lit.int .i64 n).wf = true) : -9223372036854775808 ≤ n ∧ n ≤ 9223372036854775807 := by
  simp only [Lit.wf, Bool.and_eq_true, decide_eq_true_eq, show IntKind.i64.min = -9223372036854775808 from rfl, show IntKind.i64.max = 9223372036854775807 from rfl] at h
  omega
theorem fitInt : (Sch.int .i64).fit Try.prog 3 := Try.underlying3
theorem fitStr : Sch.str.fit Try.prog 9 := Try.underlying9
def schQ : Sch := .st (.pair (.int .i64) (.pair .str (.pair (.int .i64) (.pair (.int .i64) .unit))))
theorem fitQ : schQ.fit Try.prog 23 := ⟨_, Try.underlying23, ⟨_, _, rfl, rfl, by kernel_rfl, Try.underlying3, _, _, rfl, rfl, by kernel_rfl, Try.underlying9, _, _, rfl, rfl, by kernel_rfl, Try.underlying3, _, _, rfl, rfl, by kernel_rfl, Try.underlying3, rfl⟩, by kernel_rfl⟩
def schAd : Sch := .st (.pair (.int .i64) (.pair (.arr 16 (.int .u8)) .unit))
theorem fitAd : schAd.fit Try.prog 50 := ⟨_, Try.underlying50, ⟨_, _, rfl, rfl, by kernel_rfl, Try.underlying3, _, _, rfl, rfl, by kernel_rfl, ⟨_, Try.underlying48, Try.underlying5, by kernel_rfl, by kernel_rfl⟩, rfl⟩, by kernel_rfl⟩
def schRc : Sch := .st (.pair .str (.pair (.int .i64) (.pair (.int .i64) (.pair (.int .i64) (.pair schAd (.pair .str (.pair .str .unit)))))))
theorem fitRc : schRc.fit Try.prog 52 := ⟨_, Try.underlying52, ⟨_, _, rfl, rfl, by kernel_rfl, Try.underlying9, _, _, rfl, rfl, by kernel_rfl, Try.underlying3, _, _, rfl, rfl, by kernel_rfl, Try.underlying3, _, _, rfl, rfl, by kernel_rfl, Try.underlying3, _, _, rfl, rfl, by kernel_rfl, fitAd, _, _, rfl, rfl, by kernel_rfl, Try.underlying9, _, _, rfl, rfl, by kernel_rfl, Try.underlying9, rfl⟩, by kernel_rfl⟩
theorem fitRcs : (Sch.sl schRc).fit Try.prog 24 := ⟨52, Try.underlying24, fitRc, by kernel_rfl, by decide, of_decide_eq_true (by kernel_rfl)⟩
def qOf (x : Int × List UInt8 × Int × Int × Unit) : Qy := ⟨x.1, x.2.1, x.2.2.1, x.2.2.2.1⟩
theorem q_arg (x : schQ.Val) : schQ.arg x = .agg (qcell (qOf x)) := rfl
def adOf (x : Int × List Int × Unit) : Ad := if h : x.2.1.length = 16 then ⟨x.1, x.2.1, h⟩ else ad0
abbrev RcV := List UInt8 × Int × Int × Int × (Int × List Int × Unit) × List UInt8 × List UInt8 × Unit
def rcOf (x : RcV) : Rc := ⟨x.1, x.2.1, x.2.2.1, x.2.2.2.1, adOf x.2.2.2.2.1, x.2.2.2.2.2.1, x.2.2.2.2.2.2.1⟩
theorem flat_u8 : ∀ (l : List Int), List.flatMap (fun n => [AV.int .u8 n]) l = l.map (.int .u8 ·)
  | [] => rfl
  | x :: l => by rw [List.flatMap_cons, flat_u8 l]; rfl
theorem ad_cells (x : Int × List Int × Unit) (h : x.2.1.length = 16) : schAd.cells x = acell (adOf x) := by
  have e : schAd.cells x = [AV.int .i64 x.1] ++ (List.flatMap (fun n => [AV.int .u8 n]) x.2.1 ++ []) := rfl
  rw [e, flat_u8, List.append_nil, adOf, dif_pos h]
  rfl
theorem rc_cells (x : RcV) (h : schRc.ok x) : schRc.cells x = rcell (rcOf x) := by
  obtain ⟨_, _, _, _, ⟨_, ⟨h16, _⟩, _⟩, _⟩ := h
  have e : schRc.cells x = [AV.str x.1] ++ ([AV.int .i64 x.2.1] ++ ([AV.int .i64 x.2.2.1] ++ ([AV.int .i64 x.2.2.2.1] ++ (schAd.cells x.2.2.2.2.1 ++ ([AV.str x.2.2.2.2.2.1] ++ ([AV.str x.2.2.2.2.2.2.1] ++ [])))))) := rfl
  rw [e, ad_cells _ h16]
  rfl
theorem rcs_cells : ∀ (l : List RcV), (∀ x ∈ l, schRc.ok x) → List.flatMap (fun x : RcV => (show List AV from schRc.cells x)) l = rE.cells (l.map rcOf)
  | [], _ => rfl
  | x :: l, h => by
    have ih := rcs_cells l (fun y hy => h y (by simp [hy]))
    have e1 := rc_cells x (h x (by simp))
    rw [List.map_cons, rE.cells_cons, List.flatMap_cons, ih]
    exact congrArg (· ++ _) e1
def rcsOf (l : (Sch.sl schRc).Val) : List Rc := List.map rcOf (show List RcV from l)
theorem rcs_arg (l : (Sch.sl schRc).Val) (h : (Sch.sl schRc).ok l) : (Sch.sl schRc).arg l = .isl (rE.cells (rcsOf l)) (rcsOf l).length := by
  have e3 : ∀ l : List RcV, (∀ x ∈ l, schRc.ok x) → AV.isl (List.flatMap (fun x => schRc.cells x) l) (List.length l) = .isl (rE.cells (List.map rcOf l)) (List.map rcOf l).length := by
    intro l h
    have := rcs_cells l h
    rw [List.length_map]
    exact congrArg (fun c => AV.isl c l.length) this
  exact e3 l h.2
theorem rcs_ok (l : (Sch.sl schRc).Val) (h : (Sch.sl schRc).ok l) : (rcsOf l).length ≤ 140737488351232 ∧ ∀ r ∈ rcsOf l, r.name.length ≤ 140737488351232 ∧ r.target.length ≤ 140737488351232 := by
  obtain ⟨h1, h2⟩ : List.length (show List RcV from l) ≤ 140737488351232 ∧ ∀ x ∈ (show List RcV from l), schRc.ok x := h
  refine ⟨by rw [rcsOf, List.length_map]; exact h1, fun d hd => ?_⟩
  obtain ⟨x, hx, rfl⟩ := List.mem_map.1 hd
  obtain ⟨q1, _, _, _, _, q2, _⟩ := h2 x hx
  exact ⟨q1, q2⟩
theorem rcs_rok (l : (Sch.sl schRc).Val) (h : (Sch.sl schRc).ok l) : ∀ r ∈ rcsOf l, rOk r := fun r hr => by
  obtain ⟨q1, q2⟩ := (rcs_ok l h).2 r hr
  exact ⟨by omega, by omega⟩
theorem tells_w (q : schQ.Val) (l : (Sch.sl schRc).Val) (code : (Sch.int .i64).Val) (h1 : schQ.ok q) (h2 : (Sch.sl schRc).ok l) (h3 : (Sch.int .i64).ok code) :
    ACalls Try.prog 3 [schQ.arg q, (Sch.sl schRc).arg l, (Sch.int .i64).arg code] [] (fun r h => r = .ret (.bool true) ∧ h = []) := by
  rw [rcs_arg l h2, q_arg]
  have hq : (qOf q).name.length ≤ 140737488351232 := h1.2.1
  exact tells_c (qOf q) (by omega) (rcsOf l) (rcs_ok l h2).1 (rcs_rok l h2) code (i64b h3).1 (i64b h3).2
theorem chains_w (name : Sch.str.Val) (l : (Sch.sl schRc).Val) (most : (Sch.int .i64).Val) (h1 : Sch.str.ok name) (h2 : (Sch.sl schRc).ok l) (h3 : (Sch.int .i64).ok most) :
    ACalls Try.prog 4 [Sch.str.arg name, (Sch.sl schRc).arg l, (Sch.int .i64).arg most] [] (fun r h => r = .ret (.bool true) ∧ h = []) := by
  rw [rcs_arg l h2]
  exact chains_c name (Nat.le_trans h1 (by decide)) (rcsOf l) (rcs_ok l h2).1 (rcs_rok l h2) most (i64b h3).1
end Go.Proofs
