/- The abstract operations are sound. No condition. -/
import Derived.Test.YtieaamjikcjbeaaA5
namespace Go.AH
set_option linter.unusedSimpArgs false
set_option linter.unusedVariables false
open Go
section
variable {P : Program} {c : Ctx}

/-- Cut out of a slice value: as the model does. -/
def cutV (sz : Nat) (a : Option Addr) (l h m : Nat) : Value := .slice (if m = l then a else a.map (·.add (l * sz))) (h - l) (m - l)

theorem sliceOf_rel {sz : Nat} {x : AV} {u : Value} {lo hi mx : Option AV} {v : AV} (hs : sliceOf sz x lo hi mx = some v) (r : Rel c x u) {lo' hi' mx' : Option Value}
    (rl : RelO c lo lo') (rh : RelO c hi hi') (rm : RelO c mx mx') (w : World) :
    ∃ a len cap l h m, u = .slice a len cap ∧ (Instr.sliceBounds true len cap lo' hi' mx').run P w = .ok (l, h, m) w ∧ Rel c v (cutV sz a l h m) := by
  unfold sliceOf at hs
  split at hs
  · -- nilsl
    split at hs <;> simp only [Option.some.injEq, reduceCtorEq] at hs
    subst hs
    rename_i q hb
    obtain ⟨l, h, m⟩ := q
    obtain ⟨e1, e2, e3, e4⟩ := run_bounds (P := P) (isSl := true) hb (Nat.le_refl _) (Nat.le_refl 0) rl rh rm w
    simp only [Rel] at r
    refine ⟨_, _, _, _, _, _, r, e1, ?_⟩
    have hm : m.getD 0 = 0 := by cases m with | none => rfl | some x => have := e4 x rfl; simp; omega
    have hl : l = 0 := by omega
    have hh : h = 0 := by omega
    subst hl hh
    rw [hm]
    simp [cutV, Rel]
  · -- esl
    split at hs <;> simp only [Option.some.injEq, reduceCtorEq] at hs
    subst hs
    rename_i q hb
    obtain ⟨l, h, m⟩ := q
    obtain ⟨e1, e2, e3, e4⟩ := run_bounds (P := P) (isSl := true) hb (Nat.le_refl _) (Nat.le_refl 0) rl rh rm w
    obtain ⟨a, r⟩ := r
    refine ⟨_, _, _, _, _, _, r, e1, ?_⟩
    have hm : m.getD 0 = 0 := by cases m with | none => rfl | some x => have := e4 x rfl; simp; omega
    have hl : l = 0 := by omega
    have hh : h = 0 := by omega
    subst hl hh
    rw [hm]
    simp [cutV, Rel]
  · -- sl
    rename_i id off len cap
    split at hs <;> simp only [Option.some.injEq, reduceCtorEq] at hs
    subst hs
    rename_i l h m hb
    obtain ⟨hid, o, cap', e, ho, hle, hc⟩ := r
    have htop : cap.getD len ≤ cap' := by cases cap with | none => exact hle | some x => rw [hc x rfl]; exact Nat.le_refl _
    have hlt : len ≤ cap.getD len := by cases cap with | none => exact Nat.le_refl _ | some x => rw [← hc x rfl]; exact hle
    obtain ⟨e1, e2, e3, e4⟩ := run_bounds (P := P) (isSl := true) hb hlt htop rl rh rm w
    refine ⟨_, _, _, _, _, _, e, e1, ?_⟩
    have hmle : h ≤ m.getD cap' ∧ m.getD cap' ≤ cap' := by
      cases m with
      | none => exact ⟨Nat.le_trans e3 htop, Nat.le_refl _⟩
      | some x => have := e4 x rfl; exact ⟨this.1, Nat.le_trans this.2 htop⟩
    simp only [cutV]
    refine ⟨hid, ?_⟩
    by_cases hml : m.getD cap' = l
    · rw [if_pos hml]
      refine ⟨o, m.getD cap' - l, rfl, .inr (by omega), by omega, fun x hx => ?_⟩
      cases m with
      | none => cases cap with
        | none => simp at hx
        | some y => simp at hx; have := hc y rfl; simp; omega
      | some y => simpa using hx
    · rw [if_neg hml]
      have ho' : o = off := by rcases ho with q | q <;> omega
      subst ho'
      refine ⟨o + l * sz, m.getD cap' - l, ?_, .inl rfl, by omega, fun x hx => ?_⟩
      · simp [Addr.add_lit]
      · cases m with
        | none => cases cap with
          | none => simp at hx
          | some y => simp at hx; have := hc y rfl; simp; omega
        | some y => simpa using hx
  · -- gsl
    rename_i id len esz
    split at hs
    · rename_i hesz
      subst hesz
      obtain ⟨hid, cap', et, e, hle, hsh⟩ := r
      split at hs <;> try (cases hs; done)
      · rename_i l h m hb
        simp only [Option.some.injEq] at hs
        subst hs
        obtain ⟨e1, e2, e3, e4⟩ := run_bounds (P := P) (isSl := true) hb (Nat.le_refl _) hle rl rh rm w
        have hm := e4 m rfl
        refine ⟨_, _, _, _, _, _, e, e1, ?_⟩
        simp only [cutV, Option.getD_some]
        refine ⟨hid, ?_⟩
        by_cases hml : m = l
        · rw [if_pos hml]; exact ⟨0, m - l, rfl, .inr (by omega), by omega, fun x hx => by simpa using hx⟩
        · rw [if_neg hml]; exact ⟨l * esz, m - l, by simp [Addr.add_lit], .inl rfl, by omega, fun x hx => by simpa using hx⟩
      · rename_i l h hb
        obtain ⟨e1, e2, e3, e4⟩ := run_bounds (P := P) (isSl := true) hb (Nat.le_refl _) hle rl rh rm w
        refine ⟨_, _, _, _, _, _, e, e1, ?_⟩
        simp only [cutV, Option.getD_none]
        split at hs <;> simp only [Option.some.injEq] at hs <;> subst hs
        · rename_i hl
          subst hl
          refine ⟨hid, cap', et, ?_, by omega, hsh⟩
          split
          · rename_i h0; subst h0; rfl
          · simp [Addr.add_lit]
        · refine ⟨hid, ?_⟩
          by_cases hml : cap' = l
          · rw [if_pos hml]; exact ⟨0, cap' - l, rfl, .inr (by omega), by omega, fun x hx => by simp at hx⟩
          · rw [if_neg hml]; exact ⟨l * esz, cap' - l, by simp [Addr.add_lit], .inl rfl, by omega, fun x hx => by simp at hx⟩
    · cases hs
  · -- isl
    rename_i cs len
    obtain ⟨a, cap', e, hle, hr⟩ := r
    split at hs <;> try (cases hs; done)
    rename_i l h m hb
    obtain ⟨e1, e2, e3, e4⟩ := run_bounds (P := P) (isSl := true) hb (Nat.le_refl _) hle rl rh rm w
    refine ⟨_, _, _, _, _, _, e, e1, ?_⟩
    simp only [cutV]
    split at hs <;> simp only [Option.some.injEq] at hs <;> subst hs
    · rename_i hml
      subst hml
      have := e4 l rfl
      have hh : h = l := by omega
      subst hh
      simp [Rel]
    · have hmh : h ≤ m.getD cap' := by
        cases m with
        | none => simp; omega
        | some x => exact (e4 x rfl).1
      refine ⟨_, _, rfl, by omega, ?_⟩
      by_cases h0 : h - l = 0
      · exact .inl h0
      · right
        rcases hr with q | ⟨b, o, rfl, hbl, hN, hrow⟩
        · omega
        · rw [if_neg (by omega)]
          refine ⟨b, o + l * sz, by simp [Addr.add_lit], hbl, hN, ?_⟩
          exact (hrow.take (h * sz)).drop (l * sz)
  · cases hs

theorem run_aSlice {t : TypeId} {x v : AV} {u : Value} {lo hi mx : Option AV} (hs : aSlice P t x lo hi mx = some v) (r : Rel c x u) {lo' hi' mx' : Option Value}
    (rl : RelO c lo lo') (rh : RelO c hi hi') (rm : RelO c mx mx') (w : World) :
    ∃ v', (Instr.sliceAt t u lo' hi' mx').run P w = .ok v' w ∧ Rel c v v' := by
  unfold aSlice at hs
  split at hs
  · -- a text
    rename_i hu
    split at hs <;> try (cases hs; done)
    rename_i s
    split at hs <;> try (cases hs; done)
    rename_i hm
    split at hs <;> simp only [Option.some.injEq, reduceCtorEq] at hs
    rename_i l h m hb
    subst hs
    simp only [Rel] at r
    subst r
    cases mx with
    | some _ => simp at hm
    | none =>
      cases rm
      obtain ⟨e1, e2, e3, e4⟩ := run_bounds (P := P) (isSl := false) hb (Nat.le_refl _) (Nat.le_refl _) rl rh (show RelO c none none from rfl) w
      have hz : (ByteArray.mk s.toArray).size = s.length := by simp [ByteArray.size]
      refine ⟨.string ((ByteArray.mk s.toArray).extract l h), ?_, ?_⟩
      · simp [Instr.sliceAt, Instr.slice, run_underlying hu, hz, e1]
      · simp only [Rel]
        congr 1
        apply ByteArray.ext
        rw [ByteArray.data_extract]
        apply Array.ext'
        rw [Array.toList_extract, List.extract]
        simp [List.drop_take]
  · -- a slice
    rename_i e hu
    split at hs <;> try (cases hs; done)
    rename_i sz hsz
    obtain ⟨a, len, cap, l, h, m, rfl, e1, e2⟩ := sliceOf_rel (P := P) hs r rl rh rm w
    exact ⟨_, by simp [Instr.sliceAt, Instr.slice, run_underlying hu, e1, run_sizeOf' hsz]; rfl, e2⟩
  · -- an array's address
    rename_i n e hu
    split at hs <;> try (cases hs; done)
    rename_i sz hsz
    split at hs <;> try (cases hs; done)
    rename_i l h m hb
    obtain ⟨e1, e2, e3, e4⟩ := run_bounds (P := P) (isSl := false) hb (Nat.le_refl _) (Nat.le_refl _) rl rh rm w
    have hmh : h ≤ m.getD n := by
      cases m with
      | none => exact e3
      | some x => exact (e4 x rfl).1
    split at hs
    · simp only [Option.some.injEq] at hs
      subst hs
      rename_i id off
      obtain ⟨hid, rfl⟩ := r
      refine ⟨cutV sz (some ⟨c.β id, off, none⟩) l h (m.getD n), ?_, ?_⟩
      · simp [Instr.sliceAt, run_underlying hu, Instr.sureAddr, e1, run_sizeOf' hsz, cutV]
        split <;> rfl
      · simp only [cutV]
        refine ⟨hid, ?_⟩
        by_cases hml : m.getD n = l
        · rw [if_pos hml]; exact ⟨off, m.getD n - l, rfl, .inr (by omega), by omega, fun x hx => by simpa using hx⟩
        · rw [if_neg hml]; exact ⟨off + l * sz, m.getD n - l, by simp [Addr.add_lit], .inl rfl, by omega, fun x hx => by simpa using hx⟩
    · rename_i cs
      obtain ⟨b, o, rfl, hbl, hN, hrow⟩ := r
      refine ⟨cutV sz (some ⟨b, o, none⟩) l h (m.getD n), ?_, ?_⟩
      · simp [Instr.sliceAt, run_underlying hu, Instr.sureAddr, e1, run_sizeOf' hsz, cutV]
        split <;> rfl
      · simp only [cutV]
        split at hs <;> simp only [Option.some.injEq] at hs <;> subst hs
        · rename_i hml
          subst hml
          have := e4 l rfl
          have hh : h = l := by omega
          subst hh
          simp [Rel]
        · refine ⟨_, _, rfl, by omega, ?_⟩
          by_cases h0 : h - l = 0
          · exact .inl h0
          · right
            rw [if_neg (by omega)]
            exact ⟨b, o + l * sz, by simp [Addr.add_lit], hbl, hN, (hrow.take (h * sz)).drop (l * sz)⟩
    · cases hs
  · cases hs

theorem run_aIndexAddr {t : TypeId} {x i v : AV} {u j : Value} (hs : aIndexAddr P t x i = some v) (r : Rel c x u) (ri : Rel c i j) (w : World) :
    ∃ v', (Instr.indexAt t u j).run P w = .ok v' w ∧ Rel c v v' := by
  unfold aIndexAddr at hs
  split at hs <;> try (cases hs; done)
  rename_i k n
  simp only [Rel] at ri
  subst ri
  split at hs
  · rename_i len e hu
    split at hs <;> try (cases hs; done)
    rename_i sz hsz
    split at hs <;> try (cases hs; done)
    rename_i hn
    split at hs <;> simp only [Option.some.injEq, reduceCtorEq] at hs <;> subst hs
    · rename_i id off
      obtain ⟨hid, rfl⟩ := r
      exact ⟨_, by simp [Instr.indexAt, asIntOf, run_underlying hu, Instr.sureAddr, hn, run_sizeOf' hsz, Addr.add_lit], hid, rfl⟩
    · obtain ⟨b, o, rfl, hbl, hN, hrow⟩ := r
      exact ⟨_, by simp [Instr.indexAt, asIntOf, run_underlying hu, Instr.sureAddr, hn, run_sizeOf' hsz, Addr.add_lit], b, o + n.toNat * sz, rfl, hbl, hN, hrow.drop _⟩
  · rename_i e hu
    split at hs <;> try (cases hs; done)
    rename_i sz hsz
    split at hs <;> try (cases hs; done)
    · split at hs <;> simp only [Option.some.injEq, reduceCtorEq] at hs
      subst hs
      rename_i id off len cap hn
      obtain ⟨hid, o, cap', rfl, ho, hle, hc⟩ := r
      have ho' : o = off := by rcases ho with q | q <;> omega
      subst ho'
      exact ⟨_, by simp [Instr.indexAt, asIntOf, run_underlying hu, hn, run_sizeOf' hsz, Addr.add_lit], hid, rfl⟩
    · split at hs <;> simp only [Option.some.injEq, reduceCtorEq] at hs
      subst hs
      rename_i id len esz hn
      obtain ⟨hid, cap', et, rfl, hle, hsh⟩ := r
      exact ⟨_, by simp [Instr.indexAt, asIntOf, run_underlying hu, hn, run_sizeOf' hsz, Addr.add_lit], hid, rfl⟩
    · split at hs <;> simp only [Option.some.injEq, reduceCtorEq] at hs
      subst hs
      rename_i cs len hn
      obtain ⟨a, cap', rfl, hle, hr⟩ := r
      rcases hr with q | ⟨b, o, rfl, hbl, hN, hrow⟩
      · omega
      · exact ⟨_, by simp [Instr.indexAt, asIntOf, run_underlying hu, hn, run_sizeOf' hsz, Addr.add_lit], b, o + n.toNat * sz, rfl, hbl, hN, hrow.drop _⟩
  · cases hs

theorem run_aIndex {t : TypeId} {x i v : AV} {u j : Value} (hs : aIndex P t x i = some v) (r : Rel c x u) (ri : Rel c i j) (w : World) :
    ∃ v', (Instr.index t u j).run P w = .ok v' w ∧ Rel c v v' := by
  unfold aIndex at hs
  split at hs <;> try (cases hs; done)
  rename_i k n
  simp only [Rel] at ri
  subst ri
  split at hs
  · rename_i hu
    split at hs <;> try (cases hs; done)
    split at hs <;> simp only [Option.some.injEq, reduceCtorEq] at hs
    subst hs
    rename_i s hn
    simp only [Rel] at r
    subst r
    have hlt : n.toNat < s.length := by omega
    have e : (ByteArray.mk s.toArray)[n.toNat]? = some (s.getD n.toNat 0) := by
      rw [List.getD, List.getElem?_eq_getElem hlt]
      show (if h : _ then _ else _) = _
      rw [dif_pos (by simpa [ByteArray.size] using hlt)]
      rfl
    refine ⟨.int .u8 (s.getD n.toNat 0).toNat, ?_, rfl⟩
    simp [Instr.index, asIntOf, run_underlying hu, hn.1, e]
  · rename_i len e hu
    split at hs <;> try (cases hs; done)
    split at hs <;> try (cases hs; done)
    rename_i sz hsz
    split at hs <;> try (cases hs; done)
    rename_i hn
    obtain ⟨vs, rfl, r⟩ := r
    obtain ⟨v', h1, h2⟩ := run_part_rel (P := P) r hs w
    exact ⟨v', by simp [Instr.index, asIntOf, run_underlying hu, hn, run_sizeOf' hsz, h1], h2⟩
  · cases hs

theorem run_aFieldAddr {s : TypeId} {x v : AV} {u : Value} {f : Nat} (hs : aFieldAddr P s x f = some v) (r : Rel c x u) (w : World) :
    ∃ v', (Instr.fieldAt s u f).run P w = .ok v' w ∧ Rel c v v' := by
  unfold aFieldAddr fld at hs
  cases hu : P.underlying s with
  | none => simp [hu] at hs
  | some d =>
    cases d <;> simp [hu] at hs
    rename_i fs
    cases hf : fs[f]? with
    | none => simp [hf] at hs
    | some fd =>
      simp [hf] at hs
      split at hs <;> try (cases hs; done)
      rename_i n hsz
      have hz : (sizeOf fd.type).run P w = .ok (n + 1) w := run_sizeOf' hsz w
      split at hs <;> simp only [Option.some.injEq, reduceCtorEq] at hs <;> subst hs
      · obtain ⟨hid, rfl⟩ := r
        exact ⟨_, by simp [Instr.fieldAt, run_underlying hu, hf, Instr.sureAddr, fieldPlace, hz, Addr.add_lit], hid, rfl⟩
      · obtain ⟨b, o, rfl, hbl, hN, hrow⟩ := r
        exact ⟨_, by simp [Instr.fieldAt, run_underlying hu, hf, Instr.sureAddr, fieldPlace, hz, Addr.add_lit], b, o + fd.offset, rfl, hbl, hN, hrow.drop _⟩

theorem run_aField {s : TypeId} {x v : AV} {u : Value} {f : Nat} (hs : aField P s x f = some v) (r : Rel c x u) (w : World) :
    ∃ v', (Instr.field s u f).run P w = .ok v' w ∧ Rel c v v' := by
  unfold aField fld at hs
  cases hu : P.underlying s with
  | none => simp [hu] at hs
  | some d =>
    cases d <;> simp [hu] at hs
    rename_i fs
    cases hf : fs[f]? with
    | none => simp [hf] at hs
    | some fd =>
      simp [hf] at hs
      split at hs <;> try (cases hs; done)
      obtain ⟨vs, rfl, r⟩ := r
      obtain ⟨v', h1, h2⟩ := run_part_rel (P := P) r hs w
      exact ⟨v', by simp [Instr.field, run_underlying hu, hf, asAgg, h1], h2⟩

theorem run_aExtract {x v : AV} {u : Value} {i : Nat} (hs : aExtract x i = some v) (r : Rel c x u) (w : World) :
    ∃ v', (Instr.extract u i).run P w = .ok v' w ∧ Rel c v v' := by
  unfold aExtract at hs
  split at hs <;> try (cases hs; done)
  obtain ⟨vs, rfl, r⟩ := r
  obtain ⟨y, e, ry⟩ := r.get hs
  rw [Array.getElem?_toList] at e
  exact ⟨y, by simp [Instr.extract, e], ry⟩

theorem run_aLen {t ty : TypeId} {x v : AV} {u : Value} {ts : Array TypeId} {us : Array Value} (ht : ts[0]? = some t) (hus : us[0]? = some u) (hs : aLen P t x = some v) (r : Rel c x u) (w : World) :
    ∃ v', (Builtin.len_ ts ty us).run P w = .ok v' w ∧ Rel c v v' := by
  unfold aLen at hs
  cases hu : P.underlying t with
  | none => simp [hu] at hs
  | some d =>
    cases d <;> simp [hu] at hs
    · split at hs <;> simp only [Option.some.injEq, reduceCtorEq] at hs
      subst hs
      simp only [Rel] at r
      subst r
      exact ⟨_, by simp [Builtin.len_, ht, hus, run_underlying hu, goInt]; rfl, by simp [Rel, ByteArray.size]⟩
    · split at hs <;> simp only [Option.some.injEq, reduceCtorEq] at hs <;> subst hs
      · simp only [Rel] at r; subst r; exact ⟨_, by simp [Builtin.len_, ht, hus, run_underlying hu, goInt], rfl⟩
      · obtain ⟨a, rfl⟩ := r; exact ⟨_, by simp [Builtin.len_, ht, hus, run_underlying hu, goInt], rfl⟩
      · obtain ⟨_, o, cap', rfl, _⟩ := r; exact ⟨_, by simp [Builtin.len_, ht, hus, run_underlying hu, goInt], rfl⟩
      · obtain ⟨_, cap', et, rfl, _⟩ := r; exact ⟨_, by simp [Builtin.len_, ht, hus, run_underlying hu, goInt], rfl⟩
      · obtain ⟨a, cap', rfl, _⟩ := r; exact ⟨_, by simp [Builtin.len_, ht, hus, run_underlying hu, goInt], rfl⟩
    · subst hs
      exact ⟨_, by simp [Builtin.len_, ht, hus, run_underlying hu, goInt], rfl⟩

theorem run_aConv {src dst : TypeId} {x v : AV} {u : Value} (hs : aConv P src dst x = some v) (r : Rel c x u) (w : World) :
    ∃ v', (convert src dst u).run P w = .ok v' w ∧ Rel c v v' := by
  unfold aConv at hs
  split at hs
  · rename_i d k hu hv
    split at hs <;> simp only [Option.some.injEq, reduceCtorEq] at hs
    subst hs
    simp only [Rel] at r
    subst r
    exact ⟨_, by simp [convert, run_underlying hu, run_underlying hv, Conv.intToInt], rfl⟩
  · rename_i d hu hv
    split at hs <;> simp only [Option.some.injEq, reduceCtorEq] at hs
    subst hs
    simp only [Rel] at r
    subst r
    refine ⟨_, ?_, rfl⟩
    simp [convert, run_underlying hu, run_underlying hv]
  · cases hs

theorem run_aMakeIface {t : TypeId} {x v : AV} {u : Value} (hs : aMakeIface P t x = some v) (r : Rel c x u) (w : World) :
    ∃ v', (Instr.makeInterface t u).run P w = .ok v' w ∧ Rel c v v' := by
  unfold aMakeIface at hs
  cases hu : P.underlying t with
  | none => simp [hu] at hs
  | some d =>
    cases d <;> simp [hu] at hs <;> subst hs <;> exact ⟨_, by simp [Instr.makeInterface, run_underlying hu], u, rfl, r⟩

theorem run_aMin {xs : List AV} {v : AV} {us : List Value} (hs : aMin xs = some v) (r : RelL c xs us) (ts : Array TypeId) (ty : TypeId) (w : World) :
    ∃ v', (Builtin.min_ ts ty us.toArray).run P w = .ok v' w ∧ Rel c v v' := by
  unfold aMin at hs
  split at hs <;> simp only [Option.some.injEq, reduceCtorEq] at hs <;> subst hs <;> simp [RelL, Rel] at r <;> subst r <;> exact ⟨_, by simp [Builtin.min_, Builtin.min2], rfl⟩

theorem run_aMax {xs : List AV} {v : AV} {us : List Value} (hs : aMax xs = some v) (r : RelL c xs us) (ts : Array TypeId) (ty : TypeId) (w : World) :
    ∃ v', (Builtin.max_ ts ty us.toArray).run P w = .ok v' w ∧ Rel c v v' := by
  unfold aMax at hs
  split at hs <;> simp only [Option.some.injEq, reduceCtorEq] at hs <;> subst hs <;> simp [RelL, Rel] at r <;> subst r <;> exact ⟨_, by simp [Builtin.max_, Builtin.max2], rfl⟩

end
end Go.AH
