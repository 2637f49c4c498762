/- Sizes and places of types, as the walk asks for them. No condition. -/
import Derived.Test.YtieaamjikcjbeaaA2
import Derived.Laws.StructEq
import Derived.ChangeKeysEq
import Derived.Laws.Entries
namespace Go.AH
set_option linter.unusedSimpArgs false
set_option linter.unusedVariables false
open Go

/-! ### constants -/
def ofConst1 : Value → AV
  | .bool b => .bool b
  | .int k n => .int k n
  | .string s => .str s.data.toList
  | .pointer none => .nilp
  | .slice none 0 0 => .nilsl
  | .map none => .nilm
  | .nilFunc => .nilf
  | .nilIface => .nili
  | _ => .unk

def ofConst : Value → AV
  | .agg cs => .agg (cs.toList.map ofConst1)
  | .tuple cs => .tup (cs.toList.map ofConst1)
  | v => ofConst1 v

theorem rel_ofConst1 (c : Ctx) (v : Value) : Rel c (ofConst1 v) v := by
  unfold ofConst1
  split <;> simp [Rel]

theorem relL_ofConst1 (c : Ctx) : ∀ (vs : List Value), RelL c (vs.map ofConst1) vs
  | [] => rfl
  | v :: vs => ⟨v, vs, rfl, rel_ofConst1 c v, relL_ofConst1 c vs⟩

theorem rel_ofConst (c : Ctx) (v : Value) : Rel c (ofConst v) v := by
  unfold ofConst
  split
  · exact ⟨_, rfl, relL_ofConst1 c _⟩
  · exact ⟨_, rfl, relL_ofConst1 c _⟩
  · exact rel_ofConst1 c _

/-! ### cells -/
def acells : AV → Option (List AV)
  | .agg cs => some cs
  | .unk => none
  | .tup _ => none
  | x => some [x]

theorem acells_rel {c : Ctx} {x : AV} {v : Value} {cs : List AV} (h : acells x = some cs) (r : Rel c x v) : RelL c cs v.cells.toList := by
  cases x <;> simp only [acells, Option.some.injEq, reduceCtorEq] at h <;> subst h
  case agg cs => obtain ⟨vs, rfl, r⟩ := r; exact r
  all_goals
    have hv : v.cells = #[v] := by
      simp only [Rel] at r
      first
        | (subst r; rfl)
        | (obtain ⟨_, rfl⟩ := r; rfl)
        | (obtain ⟨_, _, rfl, _⟩ := r; rfl)
        | (obtain ⟨_, _, _, rfl, _⟩ := r; rfl)
        | (obtain ⟨_, rfl, _⟩ := r; rfl)
    rw [hv]
    exact ⟨v, [], rfl, r, rfl⟩

/-- A value of one cell. -/
def oneC : AV → Bool
  | .agg _ => false
  | .unk => false
  | .tup _ => false
  | _ => true

theorem oneC_rel {c : Ctx} {x : AV} {v : Value} (h : oneC x = true) (r : Rel c x v) : v.oneCell' = true := by
  cases x <;> simp only [oneC, Bool.false_eq_true] at h <;> simp only [Rel] at r <;>
    first
      | (subst r; rfl)
      | (obtain ⟨_, rfl⟩ := r; rfl)
      | (obtain ⟨_, _, rfl, _⟩ := r; rfl)
      | (obtain ⟨_, _, _, rfl, _⟩ := r; rfl)
      | (obtain ⟨_, rfl, _⟩ := r; rfl)

theorem oneC_all {c : Ctx} : ∀ {xs : List AV} {vs : List Value}, xs.all oneC = true → RelL c xs vs → ∀ v ∈ vs, v.oneCell' = true
  | [], _, _, r, v, hv => by cases r; simp at hv
  | x :: xs, _, h, ⟨y, ys, e, r, rs⟩, v, hv => by
    cases e
    simp at h hv
    rcases hv with rfl | hv
    · exact oneC_rel h.1 r
    · exact oneC_all (by simpa using h.2) rs v hv

/-! ### types -/
def tsz (P : Program) (t : TypeId) : Option Nat := (P.info? t).map (·.size)
def tagg (P : Program) (t : TypeId) : Option Bool := match P.underlying t with
  | some (.struct _) => some true
  | some (.array _ _) => some true
  | some _ => some false
  | none => none
/-- A field's offset and type. -/
def fld (P : Program) (s : TypeId) (f : Nat) : Option (Nat × TypeId) := match P.underlying s with
  | some (.struct fs) => (fs[f]?).map fun d => (d.offset, d.type)
  | _ => none

def cut (cs : List AV) (off n : Nat) : Option (List AV) := if off + n ≤ cs.length then some ((cs.drop off).take n) else none

/-- The value of type t in cells from off on. -/
def pick (P : Program) (t : TypeId) (cs : List AV) (off : Nat) : Option AV := match tagg P t with
  | some true => match tsz P t with
    | some n => (cut cs off n).map .agg
    | none => none
  | some false => cs[off]?
  | none => none

section
variable {P : Program} {c : Ctx}

theorem run_isAgg {t : TypeId} {b : Bool} (h : tagg P t = some b) (w : World) : (isAgg t).run P w = .ok b w := by
  unfold tagg at h
  split at h <;> rename_i hu <;> simp only [Option.some.injEq, reduceCtorEq] at h <;> subst h <;> simp only [isAgg, Sem.run_bind, run_underlying hu, Result.andThen_ok]
  · rfl
  · rfl
  · rename_i d h1 h2
    cases d <;> simp_all

theorem run_sizeOf' {t : TypeId} {n : Nat} (h : tsz P t = some n) (w : World) : (sizeOf t).run P w = .ok n w := by
  unfold tsz at h
  rw [Option.map_eq_some_iff] at h
  obtain ⟨i, hi, rfl⟩ := h
  simp [sizeOf, typeInfo, hi]

theorem cut_len {cs : List AV} {off n : Nat} {ds : List AV} (h : cut cs off n = some ds) : ds.length = n ∧ off + n ≤ cs.length ∧ ds = (cs.drop off).take n := by
  unfold cut at h
  split at h
  · simp at h; subst h; simp; omega
  · cases h

theorem run_loadCells_row {cs : List AV} {b o : Nat} (h : Row c cs b o) {off n : Nat} {ds : List AV} (hc : cut cs off n = some ds) :
    ∃ vs, (loadCells ⟨b, o + off, none⟩ n).run P c.w = .ok vs c.w ∧ RelL c ds vs.toList := by
  obtain ⟨hl, hle, rfl⟩ := cut_len hc
  have key : ∀ j, j < n → ∃ y, c.w.cell? ⟨b, o + off + j, none⟩ = some y ∧ Rel c (cs.getD (off + j) .unk) y := by
    intro j hj
    have := h.get (i := off + j) (x := cs.getD (off + j) .unk) (by rw [List.getD, List.getElem?_eq_getElem (by omega)]; rfl)
    rwa [show o + (off + j) = o + off + j by omega] at this
  let f : Nat → Value := fun j => ((c.w.cell? ⟨b, o + off + j, none⟩).getD undef)
  refine ⟨_, run_loadCells c.w ⟨b, o + off, none⟩ n f (fun j hj => ?_), ?_⟩
  · obtain ⟨y, e, _⟩ := key j hj
    rw [Addr.add_lit]
    simp only [f, e, Option.getD_some]
  · refine relL_of_get (by simp; omega) fun i x y hx hy => ?_
    simp only [List.getElem?_map] at hy
    rw [Option.map_eq_some_iff] at hy
    obtain ⟨j, hj, rfl⟩ := hy
    rw [List.getElem?_range] at hj
    · simp at hj
      subst hj
      rw [List.getElem?_take] at hx
      split at hx
      · obtain ⟨y, e, r⟩ := key i (by assumption)
        rw [List.getElem?_drop] at hx
        simp only [f, e, Option.getD_some]
        rw [List.getD, hx] at r
        exact r
      · cases hx
    · rcases Nat.lt_or_ge i n with q | q
      · exact q
      · rw [List.getElem?_eq_none (by simpa using q)] at hj; cases hj

theorem run_loadVar_row' {t : TypeId} {cs : List AV} {b o off : Nat} {v : AV} (h : Row c cs b o) (hp : pick P t cs off = some v) :
    ∃ v', (loadVar t ⟨b, o + off, none⟩).run P c.w = .ok v' c.w ∧ Rel c v v' := by
  unfold pick at hp
  split at hp
  · rename_i ha
    split at hp
    · rename_i n hn
      rw [Option.map_eq_some_iff] at hp
      obtain ⟨ds, hd, rfl⟩ := hp
      obtain ⟨vs, hr, hrel⟩ := run_loadCells_row (P := P) h hd
      exact ⟨.agg vs, by simp [loadVar, run_isAgg ha, run_sizeOf' hn, hr], vs, rfl, hrel⟩
    · cases hp
  · rename_i ha
    obtain ⟨y, e, r⟩ := h.get hp
    exact ⟨y, by simp [loadVar, run_isAgg ha, e], r⟩
  · cases hp

theorem run_part_rel {t : TypeId} {cs : List AV} {vs : Array Value} {off : Nat} {v : AV} (h : RelL c cs vs.toList) (hp : pick P t cs off = some v) (w : World) :
    ∃ v', (part t vs off).run P w = .ok v' w ∧ Rel c v v' := by
  unfold pick at hp
  split at hp
  · rename_i ha
    split at hp
    · rename_i n hn
      rw [Option.map_eq_some_iff] at hp
      obtain ⟨ds, hd, rfl⟩ := hp
      obtain ⟨hl, hle, rfl⟩ := cut_len hd
      refine ⟨.agg (vs.extract off (off + n)), by simp [part, run_isAgg ha, run_sizeOf' hn], _, rfl, ?_⟩
      rw [Array.toList_extract, List.extract]
      simpa using (h.drop off).take n
    · cases hp
  · rename_i ha
    obtain ⟨y, e, r⟩ := h.get hp
    exact ⟨y, by simp [part, run_isAgg ha]; rw [← Array.getElem?_toList, e]; rfl, r⟩
  · cases hp

end
end Go.AH
