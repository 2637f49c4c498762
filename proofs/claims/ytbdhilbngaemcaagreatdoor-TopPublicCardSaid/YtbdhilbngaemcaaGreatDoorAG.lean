/- Plain data; ranges over functions. No condition. -/
import Derived.Test.YtbdhilbngaemcaaGreatDoorAF
import Derived.SizedLaws
import Derived.ChangeArms
import Derived.Carry
import Derived.ChangeOld
import Derived.WideShapes
import Derived.OpenShut
import Derived.RangeFuncLeaves
import Derived.RangeFuncRecord
set_option linter.unusedVariables false
set_option linter.unusedSimpArgs false
namespace Go.AH
open Go
set_option linter.unusedVariables false
set_option linter.unusedSimpArgs false
/-- What stands in the cells of a type: plain data, as the rows hand it in. -/
inductive Sch where
  | bool
  | int (k : IntKind)
  | str
  | sl (s : Sch)
  | st (s : Sch)
  | arr (n : Nat) (s : Sch)
  | pair (a b : Sch)
  | unit
def Sch.Val : Sch → Type
  | .bool => Bool
  | .int _ => Int
  | .str => List UInt8
  | .sl s => List s.Val
  | .st s => s.Val
  | .arr _ s => List s.Val
  | .pair a b => a.Val × b.Val
  | .unit => Unit
def Sch.size : Sch → Nat
  | .bool | .int _ | .str | .sl _ => 1
  | .st s => s.size
  | .arr n s => n * s.size
  | .pair a b => a.size + b.size
  | .unit => 0
def Sch.cells : (s : Sch) → s.Val → List AV
  | .bool, b => [.bool b]
  | .int k, n => [.int k n]
  | .str, s => [.str s]
  | .sl s, (l : List s.Val) => [.isl (l.flatMap s.cells) l.length]
  | .st s, x => s.cells x
  | .arr _ s, (l : List s.Val) => l.flatMap s.cells
  | .pair a b, x => a.cells x.1 ++ b.cells x.2
  | .unit, _ => []
def Sch.ok : (s : Sch) → s.Val → Prop
  | .bool, _ => True
  | .int k, n => (Lit.int k n).wf = true
  | .str, s => s.length ≤ 140737488351232
  | .sl s, (l : List s.Val) => l.length ≤ 140737488351232 ∧ ∀ x ∈ l, s.ok x
  | .st s, x => s.ok x
  | .arr n s, (l : List s.Val) => l.length = n ∧ ∀ x ∈ l, s.ok x
  | .pair a b, x => a.ok x.1 ∧ b.ok x.2
  | .unit, _ => True
mutual
/-- A type has this form. -/
def Sch.fit (P : Program) : Sch → TypeId → Prop
  | .bool, t => P.underlying t = some .bool
  | .int k, t => P.underlying t = some (.int k)
  | .str, t => P.underlying t = some .string
  | .sl s, t => ∃ e, P.underlying t = some (.slice e) ∧ s.fit P e ∧ P.cellsOf e = s.size ∧ 0 < s.size ∧ 0 < P.bytesOf e
  | .st s, t => ∃ fs : Array Field, P.underlying t = some (.struct fs) ∧ s.fitF P fs.toList 0 ∧ P.cellsOf t = s.size
  | .arr n s, t => ∃ e, P.underlying t = some (.array n e) ∧ s.fit P e ∧ P.cellsOf e = s.size ∧ P.cellsOf t = n * s.size
  | .pair _ _, _ => False
  | .unit, _ => False
def Sch.fitF (P : Program) : Sch → List Field → Nat → Prop
  | .unit, fs, _ => fs = []
  | .pair a b, fs, off => ∃ f rest, fs = f :: rest ∧ f.offset = off ∧ P.cellsOf f.type = a.size ∧ a.fit P f.type ∧ b.fitF P rest (off + a.size)
  | _, _, _ => False
end
theorem sch_len : ∀ (s : Sch) (x : s.Val), s.ok x → (s.cells x).length = s.size
  | .bool, _, _ => rfl
  | .int _, _, _ => rfl
  | .str, _, _ => rfl
  | .sl _, _, _ => rfl
  | .st s, x, h => sch_len s x h
  | .arr n s, (l : List s.Val), h => by
    obtain ⟨h1, h2⟩ : l.length = n ∧ ∀ x ∈ l, s.ok x := h
    show (l.flatMap s.cells).length = n * s.size
    subst h1
    induction l with
    | nil => simp
    | cons x l ih =>
      rw [List.flatMap_cons, List.length_append, sch_len s x (h2 x (by simp)), ih (fun y hy => h2 y (by simp [hy])), List.length_cons, Nat.add_mul, Nat.one_mul, Nat.add_comm]
  | .pair a b, x, h => by
    show (a.cells x.1 ++ b.cells x.2).length = a.size + b.size
    rw [List.length_append, sch_len a x.1 h.1, sch_len b x.2 h.2]
  | .unit, _, _ => rfl

theorem Row.append {c : Ctx} : ∀ (xs ys : List AV) (b o : Nat), Row c xs b o → Row c ys b (o + xs.length) → Row c (xs ++ ys) b o
  | [], _, _, _, _, h => h
  | x :: xs, ys, b, o, ⟨h1, h2⟩, h => ⟨h1, Row.append xs ys b (o + 1) h2 (by rw [List.length_cons] at h; rwa [show o + 1 + xs.length = o + (xs.length + 1) by omega])⟩
/-- Rows that stand one behind another. -/
theorem Row.flat {c : Ctx} {α : Type} (f : α → List AV) (n : Nat) : ∀ (l : List α) (b o : Nat), (∀ x ∈ l, (f x).length = n) → (∀ i (h : i < l.length), Row c (f l[i]) b (o + i * n)) → Row c (l.flatMap f) b o
  | [], _, _, _, _ => trivial
  | x :: l, b, o, hl, h => by
    rw [List.flatMap_cons]
    refine Row.append _ _ b o (by have := h 0 (by simp); rw [Nat.zero_mul] at this; exact this) ?_
    rw [hl x (by simp)]
    refine Row.flat f n l b (o + n) (fun y hy => hl y (by simp [hy])) fun i hi => ?_
    have := h (i + 1) (by simpa using hi)
    rw [List.getElem_cons_succ] at this
    rwa [show o + (i + 1) * n = o + n + i * n by rw [Nat.add_mul]; omega] at this
theorem RelL.flat {c : Ctx} {α : Type} (f : α → List AV) (n : Nat) : ∀ (l : List α) (cs : List Value), cs.length = l.length * n → (∀ i (h : i < l.length), RelL c (f l[i]) ((cs.drop (i * n)).take n)) → RelL c (l.flatMap f) cs
  | [], cs, hl, _ => by
    simp at hl
    subst hl
    exact rfl
  | x :: l, cs, hl, h => by
    rw [List.flatMap_cons, ← List.take_append_drop n cs]
    rw [List.length_cons, Nat.add_mul, Nat.one_mul] at hl
    refine RelL.append (by have := h 0 (by simp); rw [Nat.zero_mul, List.drop_zero] at this; exact this) (RelL.flat f n l _ (by rw [List.length_drop]; omega) fun i hi => ?_)
    have := h (i + 1) (by simpa using hi)
    rw [List.getElem_cons_succ] at this
    rwa [List.drop_drop, show n + i * n = (i + 1) * n by rw [Nat.add_mul]; omega]

theorem cells_get {w : World} {base : Nat} {a : Addr} {n : Nat} {cs : List Value} (h : w.cells? base a n = some cs) : cs.length = n ∧ ∀ i, i < n → w.cell? (a.add i) = cs[i]? := by
  unfold World.cells? at h
  split at h
  · exact ⟨by simpa using mapM_some_length h, fun i hi => mapM_some_get h i i (by simp [hi])⟩
  · cases h

theorem list_of {α : Type} (p : Nat → α → Prop) : ∀ (n : Nat), (∀ i, i < n → ∃ x, p i x) → ∃ l : List α, l.length = n ∧ ∀ i (h : i < l.length), p i l[i]
  | 0, _ => ⟨[], rfl, fun i h => by simp at h⟩
  | n + 1, h => by
    obtain ⟨l, h1, h2⟩ := list_of p n fun i hi => h i (by omega)
    obtain ⟨x, hx⟩ := h n (by omega)
    refine ⟨l ++ [x], by simp [h1], fun i hi => ?_⟩
    rw [List.getElem_append]
    split
    · exact h2 i _
    · rename_i hh
      have : i = n := by simp at hi; omega
      subst this
      simpa using hx

theorem weightsAll_mem {H : Type} {P : Program} {e : TypeId} : ∀ {l : List (DataW H)} {d : DataW H}, d ∈ l → ∀ n ∈ d.weights P e, n ∈ DataW.weightsAll P e l
  | [], _, h, _, _ => by simp at h
  | x :: l, d, h, n, hn => by
    simp only [DataW.weightsAll, List.mem_append]
    rcases List.mem_cons.1 h with rfl | h
    · exact .inl hn
    · exact .inr (weightsAll_mem h n hn)

section
variable {H : Type} {enc : TypeId × Value → H} {P : Program} {w : World} {base : Nat} {spare : Nat → Bool} {held : Bool}

mutual
/-- What the cells of such a type hold. -/
theorem Sch.read (c : Ctx) (hc : c.w = w) (hN : ∀ b, ¬ c.N b) : ∀ (s : Sch) (t : TypeId) (fuel : Nat) (cs : List Value) (d : DataW H) (ps : List MemPlace), s.fit P t → DataW.trod enc P w base spare held fuel t cs = some (d, ps) →
    (∀ n ∈ d.weights P t, n ≤ reachBytes) → ∃ x : s.Val, s.ok x ∧ RelL c (s.cells x) cs
  | .bool, t, fuel, cs, d, ps, hf, h, hw => by
    obtain ⟨b, rfl, _⟩ := DataW.trod_bool hf h
    exact ⟨b, trivial, _, _, rfl, rfl, rfl⟩
  | .int k, t, fuel, cs, d, ps, hf, h, hw => by
    obtain ⟨n, rfl, _, hn⟩ := DataW.trod_int hf h
    exact ⟨n, hn, _, _, rfl, rfl, rfl⟩
  | .str, t, fuel, cs, d, ps, hf, h, hw => by
    obtain ⟨s, rfl, hx, hn⟩ := DataW.trod_string hf h
    cases hx
    refine ⟨s.data.toList, hw _ (by simp [DataW.weights]), _, _, rfl, ?_, rfl⟩
    show Value.string s = .string ⟨s.data.toList.toArray⟩
    simp
  | .sl s, t, fuel, cs, d, ps, hf, h, hw => by
    obtain ⟨e, hu, hfe, hce, hpos, hby⟩ := hf
    rcases DataW.trod_slice hu h with ⟨rfl, _⟩ | ⟨a, len, cap, elems, rest, n, _, rfl, hx, hb, hl, hm, hlen, hel, _, _⟩
    · exact ⟨[], ⟨by simp, by simp⟩, _, _, rfl, ⟨none, 0, rfl, Nat.le_refl _, .inl rfl⟩, rfl⟩
    · cases hx
      have hlw : (elems.length + rest.length) * P.bytesOf e ≤ reachBytes := hw _ (by simp [DataW.weights, hu])
      have hlw2 : len ≤ 140737488351232 := by
        have h1 : elems.length + rest.length ≤ (elems.length + rest.length) * P.bytesOf e := Nat.le_mul_of_pos_right _ hby
        have h2 : reachBytes = 140737488351232 := rfl
        omega
      obtain ⟨l, hll, hlp⟩ := list_of (fun i (x : s.Val) => s.ok x ∧ ∃ cs, w.cells? base (a.add (i * P.cellsOf e)) (P.cellsOf e) = some cs ∧ RelL c (s.cells x) cs) len (by
        intro i hi
        have he := hel i hi
        rw [List.getElem?_eq_getElem (by omega), Option.bind_eq_some_iff] at he
        obtain ⟨cs, h1, h2⟩ := he
        obtain ⟨x, hx, hr⟩ := Sch.read c hc hN s e n cs _ _ hfe h2 (fun m hm => hw m (by
          simp only [DataW.weights, hu, List.mem_cons, List.mem_append]
          exact .inr (.inl (weightsAll_mem (List.mem_map.2 ⟨_, List.getElem_mem (by omega), rfl⟩) m hm))))
        exact ⟨x, hx, cs, h1, hr⟩)
      refine ⟨l, ⟨by omega, fun x hx => ?_⟩, _, _, rfl, ?_, rfl⟩
      · obtain ⟨i, hi, rfl⟩ := List.getElem_of_mem hx
        exact (hlp i hi).1
      · show Rel c (.isl (l.flatMap s.cells) l.length) (.slice (some a) len cap)
        refine ⟨some a, cap, by rw [hll], by omega, ?_⟩
        rcases Nat.eq_zero_or_pos l.length with h0 | h0
        · exact .inl h0
        · refine .inr ⟨a.block, a.off, ?_, ?_, hN _, ?_⟩
          · obtain ⟨_, cs, hcs, _⟩ := hlp 0 h0
            obtain ⟨q1, q2⟩ := cells_get hcs
            have q3 := q2 0 (by omega)
            rw [List.getElem?_eq_getElem (by omega)] at q3
            simp only [Nat.zero_mul, Addr.add, if_true] at q3
            obtain ⟨b, o, sp⟩ := a
            cases sp with
            | none => rfl
            | some _ => simp only [World.cell?] at q3; split at q3 <;> simp at q3
          · obtain ⟨_, cs, hcs, _⟩ := hlp 0 h0
            obtain ⟨q1, q2⟩ := cells_get hcs
            have q3 := q2 0 (by omega)
            rw [List.getElem?_eq_getElem (by omega)] at q3
            simp only [Nat.zero_mul, Addr.add, if_true, World.cell?] at q3
            rw [hc]
            rcases Nat.lt_or_ge a.block w.heap.size with q | q
            · exact q
            · rw [Array.getElem?_eq_none q] at q3; cases q3
          · refine Row.flat s.cells s.size l a.block a.off (fun x hx => ?_) fun i hi => ?_
            · obtain ⟨i, hi, rfl⟩ := List.getElem_of_mem hx
              exact sch_len s _ (hlp i hi).1
            · obtain ⟨_, cs, hcs, hr⟩ := hlp i hi
              obtain ⟨q1, q2⟩ := cells_get hcs
              refine row_of_get fun j x hx => ?_
              obtain ⟨y, hy, ry⟩ := hr.get hx
              refine ⟨y, ?_, ry⟩
              have hj : j < s.size := by
                have := lt_of_some hx
                rw [sch_len s _ (hlp i hi).1] at this
                exact this
              have q3 := q2 j (by omega)
              rw [hy, hce] at q3
              rw [hc, ← q3]
              have hsp : ∀ (p q : Addr), p.block = q.block → p.off = q.off → p.spot = none → (w.cell? q).isSome = true → w.cell? p = w.cell? q := by
                intro p q e1 e2 e3 e4
                simp only [World.cell?] at e4 ⊢
                rw [e1, e2, e3]
                split at e4
                · split at e4
                  · simp at e4
                  · rename_i hh; rw [if_neg hh]; simp
                · simp at e4
              refine hsp _ _ ?_ ?_ rfl (by rw [q3]; rfl)
              · simp only [Addr.add]; split <;> split <;> rfl
              · simp only [Addr.add]; split <;> split <;> simp_all <;> omega
  | .st s, t, fuel, cs, d, ps, hf, h, hw => by
    obtain ⟨fs, hu, hff, hsz⟩ := hf
    obtain ⟨xs, n, _, hx, hcl, hxl, hxs⟩ := DataW.trod_struct hu h
    cases hx
    have hxs' : ∀ (i : Nat) (f : Field), fs.toList[i]? = some f → DataW.trod enc P w base spare held n f.type ((cs.drop f.offset).take (P.cellsOf f.type)) = xs[i]? := fun i f hf => hxs i f (by rw [← Array.getElem?_toList]; exact hf)
    obtain ⟨x, hx, hr⟩ := Sch.readF c hc hN s fs.toList 0 n cs xs hff (by rw [hcl, hsz]; omega) (by simp [hxl]) hxs' (fun m hm => hw m (by simp only [DataW.weights, hu]; exact hm))
    exact ⟨x, hx, by rw [List.drop_zero] at hr; exact hr⟩
  | .arr n s, t, fuel, cs, d, ps, hf, h, hw => by
    obtain ⟨e, hu, hfe, hce, hsz⟩ := hf
    obtain ⟨xs, m, _, hx, hcl, hxl, hxs⟩ := DataW.trod_array hu h
    cases hx
    obtain ⟨l, hll, hlp⟩ := list_of (fun i (x : s.Val) => s.ok x ∧ RelL c (s.cells x) ((cs.drop (i * s.size)).take s.size)) n (by
      intro i hi
      have he := hxs i hi
      rw [List.getElem?_eq_getElem (by omega), hce] at he
      exact Sch.read c hc hN s e m _ _ _ hfe he (fun k hk => hw k (by
        simp only [DataW.weights, hu]
        exact weightsAll_mem (List.mem_map.2 ⟨_, List.getElem_mem (by omega), rfl⟩) k hk)))
    refine ⟨l, ⟨hll, fun x hx => ?_⟩, ?_⟩
    · obtain ⟨i, hi, rfl⟩ := List.getElem_of_mem hx
      exact (hlp i hi).1
    · exact RelL.flat s.cells s.size l cs (by rw [hcl, hsz, hll]) fun i hi => (hlp i hi).2
  | .pair _ _, _, _, _, _, _, hf, _, _ => hf.elim
  | .unit, _, _, _, _, _, hf, _, _ => hf.elim
theorem Sch.readF (c : Ctx) (hc : c.w = w) (hN : ∀ b, ¬ c.N b) : ∀ (s : Sch) (fs : List Field) (off : Nat) (n : Nat) (cs : List Value) (xs : List (DataW H × List MemPlace)), s.fitF P fs off → cs.length = off + s.size → xs.length = fs.length →
    (∀ (i : Nat) (f : Field), fs[i]? = some f → DataW.trod enc P w base spare held n f.type ((cs.drop f.offset).take (P.cellsOf f.type)) = xs[i]?) →
    (∀ n ∈ DataW.weightsEach P (fs.map (·.type)) (xs.map (·.1)), n ≤ reachBytes) → ∃ x : s.Val, s.ok x ∧ RelL c (s.cells x) (cs.drop off)
  | .unit, fs, off, n, cs, xs, hf, hl, _, h, hw => by
    refine ⟨(), trivial, ?_⟩
    rw [List.drop_of_length_le (by rw [hl]; exact Nat.le_refl _)]
    exact rfl
  | .pair a b, fs, off, n, cs, xs, hf, hl, hxl, h, hw => by
    obtain ⟨f, rest, rfl, rfl, hsz, hfa, hfb⟩ := hf
    cases xs with
    | nil => simp at hxl
    | cons y ys =>
      have h0 := h 0 f rfl
      simp only [List.getElem?_cons_zero] at h0
      obtain ⟨x, hx, hr⟩ := Sch.read c hc hN a f.type n _ y.1 y.2 hfa h0 (fun m hm => hw m (by simp only [List.map_cons, DataW.weightsEach, List.mem_append]; exact .inl hm))
      obtain ⟨x2, hx2, hr2⟩ := Sch.readF c hc hN b rest (f.offset + a.size) n cs ys hfb (by rw [hl]; show f.offset + (a.size + b.size) = _; omega) (by simpa using hxl) (fun i g hg => by simpa using h (i + 1) g (by simpa using hg)) (fun m hm => hw m (by simp only [List.map_cons, DataW.weightsEach, List.mem_append]; exact .inr hm))
      refine ⟨(x, x2), ⟨hx, hx2⟩, ?_⟩
      show RelL c (a.cells x ++ b.cells x2) (cs.drop f.offset)
      rw [← List.take_append_drop a.size (cs.drop f.offset), List.drop_drop]
      rw [hsz] at hr
      exact RelL.append hr hr2
  | .bool, _, _, _, _, _, hf, _, _, _, _ => hf.elim
  | .int _, _, _, _, _, _, hf, _, _, _, _ => hf.elim
  | .str, _, _, _, _, _, hf, _, _, _, _ => hf.elim
  | .sl _, _, _, _, _, _, hf, _, _, _, _ => hf.elim
  | .st _, _, _, _, _, _, hf, _, _, _, _ => hf.elim
  | .arr _ _, _, _, _, _, _, hf, _, _, _, _ => hf.elim
end
end

/-- A value that is handed in. -/
def Sch.arg : (s : Sch) → s.Val → AV
  | .bool, b => .bool b
  | .int k, n => .int k n
  | .str, s => .str s
  | .sl s, (l : List s.Val) => .isl (l.flatMap s.cells) l.length
  | .st s, x => .agg (s.cells x)
  | .arr _ s, (l : List s.Val) => .agg (l.flatMap s.cells)
  | .pair a b, x => .agg (a.cells x.1 ++ b.cells x.2)
  | .unit, _ => .agg []
theorem Sch.readArg {H : Type} {enc : TypeId × Value → H} {P : Program} {w : World} {base : Nat} {spare : Nat → Bool} {held : Bool} {r : Reach} {b0 : Nat} (s : Sch) {t : TypeId} {v : Value} {d : DataW H} {ps : List MemPlace} (hf : s.fit P t)
    (hval : Value.okWide P w r b0 t v) (h : DataW.Trod enc P w base spare held t v d ps) (hw : ∀ n ∈ d.weights P t, n ≤ reachBytes) :
    ∃ x : s.Val, s.ok x ∧ Rel (ctx noF (fun _ => 0) w []) (s.arg x) v := by
  obtain ⟨fuel, h⟩ := h
  obtain ⟨x, hx, hr⟩ := Sch.read (ctx noF (fun _ => 0) w []) rfl (by rintro b (⟨id, blk, hb, _⟩ | q); simp at hb; exact q) s t fuel _ d ps hf h hw
  refine ⟨x, hx, ?_⟩
  have one : ∀ a : AV, RelL (ctx noF (fun _ => 0) w []) [a] v.cells.toList → (∀ cs, v ≠ .agg cs) → Rel (ctx noF (fun _ => 0) w []) a v := by
    rintro a ⟨y, ys, e, ry, hys⟩ hne
    have hys' : ys = [] := hys
    subst hys'
    have : v.cells.toList = [v] := by
      cases v <;> first | rfl | exact absurd rfl (hne _)
    rw [this] at e
    simp only [List.cons.injEq, and_true] at e
    rw [e]; exact ry
  have agg : ∀ l : List AV, RelL (ctx noF (fun _ => 0) w []) l v.cells.toList → (∃ cs, v = .agg cs) → Rel (ctx noF (fun _ => 0) w []) (.agg l) v := by
    rintro l hl ⟨cs, rfl⟩
    exact ⟨cs, rfl, hl⟩
  cases s with
  | bool => exact one _ hr (fun cs e => by subst e; simp only [Sch.fit] at hf; simp only [Value.okWide, hf, Cell.okWide, Cell.ok] at hval)
  | int k => exact one _ hr (fun cs e => by subst e; simp only [Sch.fit] at hf; simp only [Value.okWide, hf, Cell.okWide, Cell.ok] at hval)
  | str => exact one _ hr (fun cs e => by subst e; simp only [Sch.fit] at hf; simp only [Value.okWide, hf, Cell.okWide, Cell.ok] at hval)
  | sl s => obtain ⟨e, hu, _⟩ := hf; exact one _ hr (fun cs e => by subst e; simp only [Value.okWide, hu, Cell.okWide, Cell.ok] at hval)
  | st s => obtain ⟨fs, hu, _⟩ := hf; simp only [Value.okWide, hu] at hval; obtain ⟨cs, e, _⟩ := hval; exact agg _ hr ⟨cs, e⟩
  | arr n s => obtain ⟨e, hu, _⟩ := hf; simp only [Value.okWide, hu] at hval; obtain ⟨cs, e, _⟩ := hval; exact agg _ hr ⟨cs, e⟩
  | pair a b => exact hf.elim
  | unit => exact hf.elim
theorem weights_of {H : Type} {P : Program} {ts : List TypeId} {ds : List (DataW H)} (h : (DataW.weightsEach P ts ds).all (· ≤ reachBytes) = true) {j : Nat} {t : TypeId} {d : DataW H} (ht : ts[j]? = some t) (hd : ds[j]? = some d) : ∀ n ∈ d.weights P t, n ≤ reachBytes := by
  intro n hn
  have := List.all_eq_true.1 h n (DataW.weights_mem_each ht hd n hn)
  simpa using this
theorem trodLt {H : Type} {enc : TypeId × Value → H} {P : Program} {w : World} {base : Nat} {spare : Nat → Bool} {held : Bool} {t : TypeId} {v : Value} {d : DataW H} {ps : List MemPlace} (h : DataW.Trod enc P w base spare held t v d ps) : ∀ x ∈ ps, x.block < w.heap.size := by
  obtain ⟨m, hm⟩ := h
  exact DataW.trod_lt m _ _ _ hm
end Go.AH
namespace Go.AH
open Go
set_option linter.unusedVariables false
set_option linter.unusedSimpArgs false

/-! ### walks in a round, and walks of what is ranged over -/
/-- The fence of such a walk: none but the round that it is in. -/
def XF : Option Nat → Fence
  | none => Fence.wide
  | some l => Fence.wide.inRound l
theorem XF_fn (ρ : Option Nat) (f : FuncId) : (XF ρ).fn f := by cases ρ <;> trivial
theorem XF_depth (ρ : Option Nat) : (XF ρ).depth.isSome = true → False := by cases ρ <;> (intro h; cases h)
theorem XF_round (ρ : Option Nat) : (XF ρ).round = ρ := by cases ρ <;> rfl
theorem XF_room (ρ : Option Nat) (n : Nat) : (XF ρ).room n := by cases ρ <;> exact fun _ h => by cases h
theorem calls_X {ρ : Option Nat} {n : Nat} {P : Program} {f : FuncId} {args : Array Value} {w : World} {R : Ending → World → Prop} (h : Calls P f args w R) : CallsIn (XF ρ) n P f args w R := by
  cases ρ with
  | none => exact callsIn_wide.2 h
  | some l => exact (callsIn_wide (n := n)).2 h
theorem rows_X {ρ : Option Nat} {n : Nat} {P : Program} {row : String} {args : Array Value} {w : World} {R : Value → World → Prop} (h : Rows P row args w R) : RowsIn (XF ρ) n P row args w R := by
  intro c cs _
  obtain ⟨v, w', r, s⟩ := h c cs
  refine ⟨v, w', r, ?_⟩
  cases ρ with
  | none => exact stepsIn_wide.2 s
  | some l => exact stepsIn_wide.2 s
/-- An operation that is no 'defer' does in a round what it does elsewhere. -/
theorem Oper.wpX {ρ : Option Nat} {P : Program} {o : Oper} {a : Act} {w : World} {N : Act → World → Prop} {Q : Exit → Act → World → Prop} (h : o.wp P a w N Q) (hd : ∀ c, o.op ≠ .defer c) : o.wpIn (XF ρ) 0 P a w N Q := by
  refine ⟨fun f _ => XF_fn ρ f, ?_⟩
  rw [Oper.semAt_eq _ _ _ hd]
  unfold Oper.wp at h
  generalize (execOp a.eval o).run P w = r at h ⊢
  cases r with
  | ok n w' =>
    cases n <;> first | exact h | exact ⟨fun q => (XF_depth ρ q).elim, calls_X h⟩ | exact ⟨fun q => (XF_depth ρ q).elim, rows_X h⟩ | exact h.elim
  | halt s w' => cases s <;> first | exact h | exact h.elim

/-- A loop whose rounds are asked for from within what it ranges over. -/
structure YR (n0 : Nat) where
  l : Nat
  K : Nat
  fn : FuncId
  tm : Array Value
  R : List AV
  ps : List Tmp
  assign : Code
  body : Code
  ok : ∀ m : Nat → Nat, (∀ id, id < n0 → m id = id) → LeL m R R
/-- How it stands with it: it may be asked for more, or has been left. -/
inductive YS where
  | rd
  | dn (c : Code)
section
variable {n0 : Nat}
def YR.lp (y : YR n0) (st : LoopState) (pe : Option Code) : Loop := { state := st, pending := pe, fn := y.fn, tmps := y.tm, params := y.ps.toArray, assign := y.assign, body := y.body, defers := y.K }
def YR.obj (y : YR n0) : YS → Obj
  | .rd => .loop (y.lp .ready none)
  | .dn c => .loop (y.lp .done (some c))
def isL (e : Option (YR n0)) (b : Nat) : Prop := ∃ y, e = some y ∧ b = y.l
def mark (k : Nat) : Deferred := { target := .collected k, args := #[] }
/-- The deferred calls: marks of loops that were ranged over, ahead of what was there. -/
def MK (B : Nat) (D ds : List Deferred) (w : World) : Prop := ∃ ks : List Nat, ds = ks.map mark ++ D ∧ ks.Nodup ∧ ∀ k ∈ ks, B ≤ k ∧ w.heap[k]? = some (.deferred (some []))
def JOK (e : Option (YR n0)) (F : Fr) (β : Nat → Nat) (w : World) (h : Heap) (s : YS) : Prop := ∀ y, e = some y → w.heap[y.l]? = some (y.obj s) ∧ RelL (ctx F β w h) y.R y.tm.toList
structure GetsX (e : Option (YR n0)) (F : Fr) (β : Nat → Nat) (w : World) (h : Heap) (β' : Nat → Nat) (w' : World) (h' : Heap) : Prop where
  st : St F β' w' h'
  step : Step (fun b => Own β h b ∨ isL e b) w w' (fun b => Own β' h' b ∨ isL e b)
  len : n0 ≤ h'.length
  β : ∀ id, id < n0 → β' id = β id
variable {e : Option (YR n0)} {F : Fr} {β β' β'' : Nat → Nat} {w w' w'' : World} {h h' h'' : Heap} {s s' : YS} {D ds : List Deferred}

theorem mk_nil (B : Nat) (D : List Deferred) (w : World) : MK B D D w := ⟨[], rfl, List.nodup_nil, by simp⟩
theorem jok_none (F : Fr) (β : Nat → Nat) (w : World) (h : Heap) (s : YS) : JOK (none : Option (YR n0)) F β w h s := fun _ h => by cases h
/-- What is owned is neither. -/
theorem St.ownObj (st : St F β w h) {b : Nat} (hb : Own β h b) : (∀ q, w.heap[b]? ≠ some (.deferred q)) ∧ ∀ r, w.heap[b]? ≠ some (.loop r) := by
  obtain ⟨id, blk, hi, rfl⟩ := hb
  obtain ⟨o, ho, hr⟩ := st.live id blk hi
  rw [ho]
  cases blk with
  | row cs e wh => obtain ⟨vs, fz, rfl, _⟩ := hr; exact ⟨fun q => by simp, fun r => by simp⟩
  | mp es c => obtain ⟨l, rfl, _⟩ := hr; exact ⟨fun q => by simp, fun r => by simp⟩
  | siter s p => cases hr; exact ⟨fun q => by simp, fun r => by simp⟩
  | yiter s p => obtain ⟨l, rfl, _⟩ := hr; exact ⟨fun q => by simp, fun r => by simp⟩
  | ubytes e => obtain ⟨vs, fz, rfl, _⟩ := hr; exact ⟨fun q => by simp, fun r => by simp⟩
theorem lt_heap {b : Nat} {o : Obj} (hb : w.heap[b]? = some o) : b < w.heap.size := by
  rcases Nat.lt_or_ge b w.heap.size with q | q
  · exact q
  · rw [Array.getElem?_eq_none q] at hb; cases hb
theorem YR.obj_loop (y : YR n0) (s : YS) : ∃ r, y.obj s = .loop r := by cases s <;> exact ⟨_, rfl⟩

theorem Step.addL {O O' : Nat → Prop} {L : Nat → Prop} (k : Step O w w' O') : Step (fun b => O b ∨ L b) w w' (fun b => O' b ∨ L b) :=
  ⟨k.os, k.tape, k.output, k.size, fun b hb hO => k.keep b hb fun q => hO (.inl q), k.shape, fun b q => q.elim (fun q => (k.own b q).imp .inl id) (fun q => .inl (.inr q))⟩
theorem Goes.getsX (g : Goes F β w h β' w' h') (hn : n0 ≤ h.length) : GetsX e F β w h β' w' h' := ⟨g.st, g.step.addL, Nat.le_trans hn g.len, fun id hid => g.β id (Nat.lt_of_lt_of_le hid hn)⟩
theorem Gets.getsX (g : Gets n0 F β w h β' w' h') : GetsX e F β w h β' w' h' := ⟨g.st, g.step.addL, g.len, g.β⟩
theorem GetsX.trans (g : GetsX e F β w h β' w' h') (k : GetsX e F β' w' h' β'' w'' h'') : GetsX e F β w h β'' w'' h'' :=
  ⟨k.st, g.step.trans k.step, k.len, fun id hid => (k.β id hid).trans (g.β id hid)⟩
theorem GetsX.refl (st : St F β w h) (hn : n0 ≤ h.length) : GetsX e F β w h β w h := (Goes.refl st).getsX hn
/-- Without an open loop it is as ever. -/
theorem GetsX.gets (g : GetsX (none : Option (YR n0)) F β w h β' w' h') : Gets n0 F β w h β' w' h' := by
  have nl : ∀ b, ¬ isL (none : Option (YR n0)) b := fun b ⟨y, q, _⟩ => by cases q
  exact ⟨g.st, ⟨g.step.os, g.step.tape, g.step.output, g.step.size, fun b hb hO => g.step.keep b hb fun q => q.elim hO (nl b), g.step.shape, fun b q => (g.step.own b (.inl q)).imp (fun q => q.elim id fun q => (nl b q).elim) id⟩, g.len, g.β⟩
theorem GetsX.goes {e : Option (YR h.length)} (he : e = none) (g : GetsX e F β w h β' w' h') : Goes F β w h β' w' h' := by subst he; exact g.gets.goes

theorem MK.goes {B : Nat} (m : MK B D ds w) (st : St F β w h) (g : Goes F β w h β' w' h') : MK B D ds w' := by
  obtain ⟨ks, h1, h2, h3⟩ := m
  refine ⟨ks, h1, h2, fun k hk => ?_⟩
  refine ⟨(h3 k hk).1, ?_⟩
  rw [g.step.keep k (lt_heap (h3 k hk).2) fun q => (st.ownObj q).1 _ (h3 k hk).2]
  exact (h3 k hk).2
theorem JOK.goes (j : JOK e F β w h s) (st : St F β w h) (g : Goes F β w h β' w' h') : JOK e F β' w' h' s := by
  intro y hy
  obtain ⟨h1, h2⟩ := j y hy
  refine ⟨?_, RelL.le (g.le st) _ _ h2⟩
  obtain ⟨r, hr⟩ := y.obj_loop s
  rw [g.step.keep y.l (lt_heap h1) fun q => (st.ownObj q).2 r (by rw [h1, hr])]
  exact h1
/-- What is no block of cells and none's own is written. -/
theorem St.putN (st : St F β w h) {l : Nat} {o o' : Obj} (hl : w.heap[l]? = some o) (ho : (∃ q, o = .deferred q) ∨ ∃ r, o = .loop r) (ho' : (∃ q, o' = .deferred q) ∨ ∃ r, o' = .loop r) :
    St F β (w.putObj l o') h ∧ (ctx F β w h).le (ctx F β (w.putObj l o') h) ∧ Step (fun b => Own β h b ∨ b = l) w (w.putObj l o') (fun b => Own β h b ∨ b = l) ∧ ¬ Own β h l := by
  have hlt := lt_heap hl
  have hno : ¬ Own β h l := by
    intro q
    rcases ho with ⟨x, rfl⟩ | ⟨x, rfl⟩
    · exact (st.ownObj q).1 _ hl
    · exact (st.ownObj q).2 _ hl
  have sh : ∀ (u : World) (x : Obj), u.heap[l]? = some x → ((∃ q, x = .deferred q) ∨ ∃ r, x = .loop r) → u.shape? l = none ∧ ∀ off, u.cell? ⟨l, off, none⟩ = none := by
    rintro u x hu (⟨q, rfl⟩ | ⟨r, rfl⟩) <;> exact ⟨by simp only [World.shape?, hu], fun off => by simp only [World.cell?, hu]⟩
  have hnew : (w.putObj l o').heap[l]? = some o' := World.putObj_heap_same hlt
  have step : Step (fun b => Own β h b ∨ b = l) w (w.putObj l o') (fun b => Own β h b ∨ b = l) := by
    refine ⟨rfl, rfl, rfl, by simp, fun b hb hO => World.putObj_heap_other fun q => hO (.inr q), fun b hb => ?_, fun b q => .inl q⟩
    by_cases q : b = l
    · subst q
      rw [(sh w o hl ho).1, (sh _ o' hnew ho').1]
    · simp only [World.shape?, World.putObj_heap_other q]
  have le : (ctx F β w h).le (ctx F β (w.putObj l o') h) := by
    refine ⟨Nat.le_refl _, fun _ _ => rfl, st.lt, by simp, fun b off y hb hN hc => ?_, step.shape, fun b q => .inl q, rfl⟩
    by_cases q : b = l
    · subst q; rw [(sh w o hl ho).2] at hc; cases hc
    · simp only [World.cell?, World.putObj_heap_other q] at hc ⊢; exact hc
  have gl : GSt (Own β h) (w.putObj l o') := fun x hx => by
    obtain ⟨h1, h2, h3, e0, h4⟩ := st.gl x hx
    refine ⟨by simpa using h1, h2, fun i y hy => ?_, e0, by rw [step.shape _ h1]; exact h4⟩
    obtain ⟨z, e, r⟩ := h3 i y hy
    refine ⟨z, ?_, r⟩
    by_cases q : x.1 = l
    · rw [q, (sh w o hl ho).2] at e; cases e
    · simp only [World.cell?, World.putObj_heap_other q] at e ⊢; exact e
  refine ⟨⟨fun id blk hb => ?_, st.inj, st.sep, fun b hb => by simpa using st.flt b hb, fun id hid => by simpa using st.lt id hid, gl⟩, le, step, hno⟩
  obtain ⟨x, hx, hr⟩ := st.live id blk hb
  refine ⟨x, ?_, BlkRel.le le hr⟩
  rw [World.putObj_heap_other]
  · exact hx
  · intro q
    exact hno ⟨id, blk, hb, q⟩
/-- The loop's record is written. -/
theorem St.putL (st : St F β w h) {l : Nat} {r : Loop} (hl : w.heap[l]? = some (.loop r)) (r' : Loop) :
    St F β (w.putObj l (.loop r')) h ∧ (ctx F β w h).le (ctx F β (w.putObj l (.loop r')) h) ∧ Step (fun b => Own β h b ∨ b = l) w (w.putObj l (.loop r')) (fun b => Own β h b ∨ b = l) :=
  let ⟨h1, h2, h3, _⟩ := st.putN hl (.inr ⟨_, rfl⟩) (.inr ⟨r', rfl⟩)
  ⟨h1, h2, h3⟩
/-- A block that none names. -/
theorem St.aside (st : St F β w h) (o : Obj) : Goes F β w h β (w.alloc o) h := by
  have hk : ∀ b, b < w.heap.size → (w.alloc o).heap[b]? = w.heap[b]? := fun b hb => Go.RowKit.Below.heap_alloc w o b hb
  have step : Step (Own β h) w (w.alloc o) (Own β h) := ⟨rfl, rfl, rfl, by simp, fun b hb _ => hk b hb, fun b hb => by simp only [World.shape?, hk b hb], fun b q => .inl q⟩
  have le := st.leOf (β' := β) (h' := h) step (Nat.le_refl _) (fun _ _ => rfl)
  refine ⟨⟨fun id blk hb => ?_, st.inj, st.sep, fun b hb => by have := st.flt b hb; simp; omega, fun id hid => by have := st.lt id hid; simp; omega, st.gl.step step⟩, step, Nat.le_refl _, fun _ _ => rfl⟩
  obtain ⟨x, hx, hr⟩ := st.live id blk hb
  exact ⟨x, by rw [hk _ (st.lt id (lt_of_some hb))]; exact hx, BlkRel.le le hr⟩
/-- The marks' blocks are shut. -/
def shut : List Nat → World → World
  | [], w => w
  | k :: ks, w => shut ks (w.putObj k (.deferred none))
theorem St.shut {w0 : World} {O : Nat → Prop} : ∀ (ks : List Nat) (w : World), St F β w h → ks.Nodup → (∀ k ∈ ks, w0.heap.size ≤ k ∧ w.heap[k]? = some (.deferred (some []))) → Step O w0 w (Own β h) →
    St F β (Go.AH.shut ks w) h ∧ (ctx F β w h).le (ctx F β (Go.AH.shut ks w) h) ∧ Step O w0 (Go.AH.shut ks w) (Own β h) ∧ (∀ b, b ∉ ks → (Go.AH.shut ks w).heap[b]? = w.heap[b]?) ∧ (Go.AH.shut ks w).heap.size = w.heap.size
  | [], w, st, _, _, k => ⟨st, ⟨Nat.le_refl _, fun _ _ => rfl, st.lt, Nat.le_refl _, fun _ _ _ _ _ h => h, fun _ _ => rfl, fun _ h => .inl h, rfl⟩, k, fun _ _ => rfl, rfl⟩
  | x :: ks, w, st, nd, hk, k => by
    rw [List.nodup_cons] at nd
    obtain ⟨h1, h2⟩ := hk x (by simp)
    obtain ⟨st1, le1, step1, hno⟩ := st.putN h2 (.inl ⟨_, rfl⟩) (o' := .deferred none) (.inl ⟨_, rfl⟩)
    have k1 : Step O w0 (w.putObj x (.deferred none)) (Own β h) := by
      refine ⟨k.os, k.tape, k.output, by simpa using k.size, fun b hb hO => ?_, fun b hb => ?_, k.own⟩
      · rw [World.putObj_heap_other (by omega)]; exact k.keep b hb hO
      · rw [← k.shape b hb]; exact step1.shape b (Nat.lt_of_lt_of_le hb k.size)
    obtain ⟨st2, le2, step2, hk2, hs2⟩ := St.shut ks _ st1 nd.2 (fun y hy => ⟨(hk y (by simp [hy])).1, by rw [World.putObj_heap_other (by intro q; subst q; exact nd.1 hy)]; exact (hk y (by simp [hy])).2⟩) k1
    refine ⟨st2, ?_, step2, fun b hb => ?_, by rw [Go.AH.shut, hs2]; simp⟩
    · refine ⟨Nat.le_refl _, fun _ _ => rfl, st.lt, Nat.le_trans le1.size le2.size, fun b o y hb hN hc => le2.keep b o y (Nat.lt_of_lt_of_le hb le1.size) hN (le1.keep b o y hb hN hc), fun b hb => (le2.shape b (Nat.lt_of_lt_of_le hb le1.size)).trans (le1.shape b hb), fun b q => .inl q, rfl⟩
    · rw [Go.AH.shut, hk2 b (fun q => hb (by simp [q])), World.putObj_heap_other (fun q => hb (by simp [q]))]
end
end Go.AH
namespace Go.AH
open Go
set_option linter.unusedVariables false
set_option linter.unusedSimpArgs false
section
variable {n0 : Nat}
abbrev KX := AExit → List AV → Heap → YS → Prop
/-- What stands behind a piece of code. -/
def PostX (e : Option (YR n0)) (F : Fr) (β : Nat → Nat) (w : World) (h : Heap) (B : Nat) (D : List Deferred) (K : KX) (ex : Exit) (a : Act) (w' : World) : Prop :=
  ∃ x β' T' h' s', K x T' h' s' ∧ GetsX e F β w h β' w' h' ∧ ERel (ctx F β' w' h') x ex ∧ RelL (ctx F β' w' h') T' a.tmps.toList ∧ MK B D a.defers w' ∧ JOK e F β' w' h' s'

def aX (P : Program) (ρ : Option Nat) (e : Option (YR n0)) (c : Code) (T : List AV) (h : Heap) (s : YS) (K : KX) : Prop :=
  ∀ (F : Fr) (β : Nat → Nat) (w : World) (a : Act) (B : Nat) (D : List Deferred), n0 ≤ h.length → B ≤ w.heap.size → St F β w h → RelL (ctx F β w h) T a.tmps.toList → MK B D a.defers w → JOK e F β w h s → c.wpIn (XF ρ) 0 P (PostX e F β w h B D K) a w

/-- Several slots are set. -/
def setsL : List AV → List Tmp → List AV → List AV
  | R, p :: ps, x :: xs => setsL (R.set p x) ps xs
  | R, _, _ => R
theorem setsL_rel {c : Ctx} : ∀ {ps : List Tmp} {R xs : List AV} {tm : Array Value} {vs : List Value}, RelL c R tm.toList → RelL c xs vs → RelL c (setsL R ps xs) ((ps.zip vs).foldl (fun t (x : Tmp × Value) => t.setIfInBounds x.1 x.2) tm).toList
  | [], R, xs, tm, vs, h, _ => by simpa [setsL] using h
  | p :: ps, R, [], tm, vs, h, hx => by
    have : vs = [] := hx
    subst this
    simpa [setsL] using h
  | p :: ps, R, x :: xs, tm, vs, h, ⟨v, vs', e, rx, hx⟩ => by
    subst e
    rw [List.zip_cons_cons, List.foldl_cons, setsL]
    refine setsL_rel ?_ hx
    rw [Array.toList_setIfInBounds]
    exact h.set rx p
/-- A call of what asks for a round: the round's assignment and body, from the loop's own slots. -/
def yArm (P : Program) (e : Option (YR n0)) (l : Nat) (args : List AV) (h : Heap) (s : YS) (next : AV → Heap → YS → Prop) : Prop :=
  ∃ y, e = some y ∧ y.l = l ∧ s = .rd ∧ args.length = y.ps.length ∧
    aX P (some l) (none : Option (YR h.length)) y.assign (setsL y.R y.ps args) h .rd fun q T1 h1 _ => match q with
      | .normal => aX P (some l) (none : Option (YR h.length)) y.body T1 h1 .rd fun q2 _ h2 _ => match q2 with
        | .normal => next (.bool true) h2 .rd
        | .ret => next (.bool false) h2 (.dn .ret)
        | .exit id => next (.bool false) h2 (.dn (.exit id))
        | .pan _ => False
      | _ => False

def xOp (P : Program) (e : Option (YR n0)) (o : Oper) (T : List AV) (h : Heap) (s : YS) (next : AV → Heap → YS → Prop) (pan : AV → Heap → YS → Prop) : Prop := match o.op with
  | .call ⟨.value f, as, ts⟩ => match aEval T f with
    | .fn (.yield l) [] => yArm P e l (as.toList.map (aEval T)) h s next
    | _ => aOp P o T h (fun v h' => next v h' s) (fun v h' => pan v h' s)
  | _ => aOp P o T h (fun v h' => next v h' s) (fun v h' => pan v h' s)

def xOps (P : Program) (e : Option (YR n0)) (ops : Array Oper) (K : KX) : List Oper → List AV → Heap → YS → Prop
  | [], T, h, s => K .normal T h s
  | o :: os, T, h, s => match aGuard ops T o with
    | some g => if g = true then xOp P e o T h s (fun v h' s' => xOps P e ops K os (aPut T o.dst v) h' s') (fun v h' s' => K (.pan v) T h' s') else xOps P e ops K os (aPut T o.dst (.tup [])) h s
    | none => False

variable {P : Program} {ρ : Option Nat} {e : Option (YR n0)} {T : List AV} {h : Heap} {s : YS}

theorem aX_mono {c : Code} {K K' : KX} (a : aX P ρ e c T h s K) (hk : ∀ x T h s, n0 ≤ h.length → K x T h s → K' x T h s) : aX P ρ e c T h s K' := by
  intro F β w act B D hn hB st r m j
  refine wpIn_mono (a F β w act B D hn hB st r m j) ?_
  rintro ex a' w' ⟨x, β', T', h', s', q, g, rest⟩
  exact ⟨x, β', T', h', s', hk _ _ _ _ g.len q, g, rest⟩

theorem aOp_noDefer {o : Oper} {next pan : AV → Heap → Prop} (ha : aOp P o T h next pan) : ∀ c, o.op ≠ .defer c := by
  intro c hc
  unfold aOp at ha
  rw [hc] at ha
  simp [ev, ev0, orElse, ev2] at ha

theorem putL_all {y : YR n0} {F : Fr} {β : Nat → Nat} {w : World} {s1 : YS} (st : St F β w h) (hl : w.heap[y.l]? = some (y.obj s1)) (r' : Loop) :
    St F β (w.putObj y.l (.loop r')) h ∧ (ctx F β w h).le (ctx F β (w.putObj y.l (.loop r')) h) ∧ Step (fun b => Own β h b ∨ b = y.l) w (w.putObj y.l (.loop r')) (fun b => Own β h b ∨ b = y.l) := by
  obtain ⟨r, hr⟩ := y.obj_loop s1
  exact st.putL (by rw [hl, hr]) r'

theorem MK.putL {B : Nat} {D ds : List Deferred} {w : World} (m : MK B D ds w) {l : Nat} {r r' : Loop} (hl : w.heap[l]? = some (.loop r)) : MK B D ds (w.putObj l (.loop r')) := by
  obtain ⟨ks, h1, h2, h3⟩ := m
  refine ⟨ks, h1, h2, fun k hk => ⟨(h3 k hk).1, ?_⟩⟩
  rw [World.putObj_heap_other]
  · exact (h3 k hk).2
  · intro q
    have := (h3 k hk).2
    rw [q, hl] at this
    cases this

/-- A round that is asked for. -/
theorem yArm_sound {o : Oper} {f : Operand} {as : Array Operand} {ts : Array TypeId} {l : Nat} (hop : o.op = .call ⟨.value f, as, ts⟩) (hf : aEval T f = .fn (.yield l) []) {next : AV → Heap → YS → Prop}
    (ha : yArm P e l (as.toList.map (aEval T)) h s next) {F : Fr} {β : Nat → Nat} {w : World} {a : Act} (hn : n0 ≤ h.length) (st : St F β w h) (r : RelL (ctx F β w h) T a.tmps.toList) {B : Nat} {D : List Deferred} (m : MK B D a.defers w) (j : JOK e F β w h s)
    {N : Act → World → Prop} {Q : Exit → Act → World → Prop}
    (hN : ∀ v v' w' β' h' s', next v h' s' → GetsX e F β w h β' w' h' → (∀ id, id < h.length → β' id = β id) → h.length ≤ h'.length → RelL (ctx F β' w' h') T a.tmps.toList → MK B D a.defers w' → JOK e F β' w' h' s' → Rel (ctx F β' w' h') v v' → N (a.put o.dst v') w') : o.wpIn (XF ρ) 0 P a w N Q := by
  obtain ⟨y, rfl, rfl, rfl, hargs, hx⟩ := ha
  obtain ⟨hl, hR⟩ := j y rfl
  refine ⟨fun f _ => XF_fn ρ f, ?_⟩
  rw [Oper.semAt_eq _ _ _ (by rw [hop]; intro c hc; cases hc)]
  have rf := aEval_rel r f
  rw [hf] at rf
  obtain ⟨cs, ef, hcs⟩ := rf
  have rx : RelL (ctx F β w h) (as.toList.map (aEval T)) (as.map a.eval).toList := by
    rw [Array.toList_map]
    exact relL_map (aEval_rel r) as.toList
  have hsz : (as.map a.eval).size = (y.lp .ready none).params.size := by
    have h1 : (as.map a.eval).size = as.size := by simp
    have h2 : (y.lp .ready none).params.size = y.ps.length := by simp [YR.lp]
    rw [h1, h2, ← hargs]
    simp
  have hrun : (execOp a.eval o).run P w = .ok (.round y.l y.fn ((y.ps.zip (as.map a.eval).toList).foldl (fun t (x : Tmp × Value) => t.setIfInBounds x.1 x.2) y.tm) y.assign y.body) w := by
    simp only [execOp, hop, resolve, ef, Deferred.ofValue, Sem.run_bind, Sem.run_pure, Result.andThen_ok, invoke, Array.empty_append]
    rw [run_yield (r := y.lp .ready none) (args := as.map a.eval) hl hsz]
    congr 2
    show ((y.ps.toArray.zip (as.map a.eval)).foldl (fun tmps x => tmps.setIfInBounds x.1 x.2) y.tm) = _
    rw [← Array.foldl_toList, Array.toList_zip]
  rw [hrun, Oper.uponIn_round]
  refine ⟨fun q => (XF_depth ρ q).elim, ?_⟩
  have hXF : (XF ρ).inRound y.l = XF (some y.l) := by cases ρ <;> rfl
  have hR2 : RelL (ctx F β w h) (setsL y.R y.ps (as.toList.map (aEval T))) ((y.ps.zip (as.map a.eval).toList).foldl (fun t (x : Tmp × Value) => t.setIfInBounds x.1 x.2) y.tm).toList := setsL_rel hR rx
  refine roundIn_of_wpIn (XF_fn ρ y.fn) ?_
  rw [hXF]
  refine wpIn_mono (hx F β w ⟨_, []⟩ 0 [] (Nat.le_refl _) (Nat.zero_le _) st hR2 (mk_nil _ _ _) (jok_none _ _ _ _ _)) ?_
  rintro ex a1 w1 ⟨q, β1, T1, h1, _, hk, g1, he, r1, m1, _⟩
  cases q with
  | exit id => exact hk.elim
  | ret => exact hk.elim
  | pan v => exact hk.elim
  | normal =>
    cases he
    have g1' := g1.goes rfl
    have hl1 : w1.heap[y.l]? = some (y.obj .rd) := (j.goes st g1' y rfl).1
    have hb := run_beginRound (P := P) (l := y.l) (r := y.lp .ready none) hl1 rfl
    obtain ⟨st2, le2, step2⟩ := putL_all (s1 := .rd) g1.st hl1 { y.lp .ready none with state := .busy }
    refine ⟨_, hb, ?_⟩
    have hlt1 := lt_heap hl1
    have m2 : MK 0 [] a1.defers (w1.putObj y.l (.loop { y.lp .ready none with state := .busy })) := m1.putL (r := y.lp .ready none) hl1
    refine wpIn_mono (hk F β1 _ a1 0 [] g1.len (Nat.zero_le _) st2 (RelL.le le2 _ _ r1) m2 (jok_none _ _ _ _ _)) ?_
    rintro ex2 a3 w3 ⟨q2, β3, T3, h3, _, hk3, g3, he3, r3, m3, _⟩
    have nl : ∀ b, ¬ isL (none : Option (YR h.length)) b := fun b ⟨y, q, _⟩ => by cases q
    have hl2 : (w1.putObj y.l (.loop { y.lp .ready none with state := .busy })).heap[y.l]? = some (.loop { y.lp .ready none with state := .busy }) := World.putObj_heap_same hlt1
    have hl3 : w3.heap[y.l]? = some (.loop { y.lp .ready none with state := .busy }) := by
      rw [g3.step.keep y.l (lt_heap hl2) (fun q => q.elim (fun q => (st2.ownObj q).2 _ hl2) (nl _))]
      exact hl2
    -- the record's state behind the round
    have fin : ∀ (jump : Option Code) (s' : YS) (obj : y.obj s' = .loop (y.lp (if jump.isNone then .ready else .done) jump)), next (.bool jump.isNone) h3 s' →
        ∃ v w4, (Instr.endRound y.l jump).run P w3 = .ok v w4 ∧ N (a.put o.dst v) w4 := by
      intro jump s' obj hnx
      have he := run_endRound (P := P) jump hl3
      obtain ⟨st4, le4, step4⟩ := g3.st.putL hl3 (y.lp (if jump.isNone then .ready else .done) jump)
      refine ⟨.bool jump.isNone, _, he, ?_⟩
      have hfin : w3.putObj y.l (.loop { ({ y.lp .ready none with state := .busy } : Loop) with state := if jump.isNone then .ready else .done, pending := jump }) = w3.putObj y.l (.loop (y.lp (if jump.isNone then .ready else .done) jump)) := rfl
      rw [hfin]
      have isl : ∀ b, b = y.l → isL (some y) b := fun b q => ⟨y, rfl, q⟩
      have lsi : ∀ b, isL (some y) b → b = y.l := fun b ⟨z, q1, q2⟩ => by cases q1; exact q2
      have conv : ∀ {O O' : Nat → Prop} {u u' : World}, Step (fun b => O b ∨ b = y.l) u u' (fun b => O' b ∨ b = y.l) → Step (fun b => O b ∨ isL (some y) b) u u' (fun b => O' b ∨ isL (some y) b) :=
        fun k => ⟨k.os, k.tape, k.output, k.size, fun b hb hO => k.keep b hb fun q => hO (q.imp id (isl b)), k.shape, fun b q => (k.own b (q.imp id (lsi b))).imp (fun q => q.imp id (isl b)) id⟩
      have conv0 : ∀ {O O' : Nat → Prop} {u u' : World}, Step (fun b => O b ∨ isL (none : Option (YR h.length)) b) u u' (fun b => O' b ∨ isL (none : Option (YR h.length)) b) → Step (fun b => O b ∨ isL (some y) b) u u' (fun b => O' b ∨ isL (some y) b) :=
        fun k => ⟨k.os, k.tape, k.output, k.size, fun b hb hO => k.keep b hb fun q => q.elim (fun q => hO (.inl q)) (nl b), k.shape, fun b q => q.elim (fun q => (k.own b (.inl q)).imp (fun q => q.elim .inl fun q => (nl b q).elim) id) (fun q => .inl (.inr q))⟩
      have step : Step (fun b => Own β h b ∨ isL (some y) b) w (w3.putObj y.l (.loop (y.lp (if jump.isNone then .ready else .done) jump))) (fun b => Own β3 h3 b ∨ isL (some y) b) :=
        ((conv0 g1.step).trans (conv step2)).trans ((conv0 g3.step).trans (conv step4))
      have hβ : ∀ id, id < h.length → β3 id = β id := fun id hid => (g3.β id hid).trans (g1.β id hid)
      have le : (ctx F β w h).le (ctx F β3 (w3.putObj y.l (.loop (y.lp (if jump.isNone then .ready else .done) jump))) h3) := by
        refine ⟨g3.len, hβ, st.lt, step.size, fun b o v hb hN hc => ?_, step.shape, fun b q => ?_, rfl⟩
        · by_cases q : b = y.l
          · subst q
            simp only [World.cell?, hl, YR.obj] at hc
            cases hc
          · rw [cell_of_block (step.keep b hb fun p => p.elim (fun p => hN (.inl p)) fun p => q (lsi b p))]
            exact hc
        · rcases q with q | q
          · rcases step.own b (.inl q) with p | p
            · rcases p with p | p
              · exact .inl (.inl p)
              · have hb := lsi b p
                subst hb
                exact absurd hl3 ((g3.st.ownObj q).2 _)
            · exact .inr p
          · exact .inl (.inr q)
      have hl4 : (w3.putObj y.l (.loop (y.lp (if jump.isNone then .ready else .done) jump))).heap[y.l]? = some (y.obj s') := by rw [obj]; exact World.putObj_heap_same (lt_heap hl3)
      refine hN _ _ _ β3 h3 s' hnx ⟨st4, step, Nat.le_trans hn g3.len, fun id hid => hβ id (Nat.lt_of_lt_of_le hid hn)⟩ hβ g3.len (RelL.le le _ _ r) ?_ ?_ rfl
      · obtain ⟨ks, e1, e2, e3⟩ := m
        refine ⟨ks, e1, e2, fun k hk => ?_⟩
        have hk0 := (e3 k hk).2
        refine ⟨(e3 k hk).1, ?_⟩
        have hne : k ≠ y.l := by
          intro q
          rw [q, hl] at hk0
          cases hk0
        rw [step.keep k (lt_heap hk0) fun q => q.elim (fun q => (st.ownObj q).1 _ hk0) fun q => hne (lsi k q)]
        exact hk0
      · intro z hz
        cases hz
        exact ⟨hl4, RelL.le le _ _ hR⟩
    cases q2 with
    | pan v => exact hk3.elim
    | normal => cases he3; exact fin none .rd rfl hk3
    | ret => cases he3; exact fin (some .ret) (.dn .ret) rfl hk3
    | exit id => cases he3; exact fin (some (.exit id)) (.dn (.exit id)) rfl hk3

theorem xOps_sound {ops : Array Oper} {K : KX} {B : Nat} {D : List Deferred} {F : Fr} {β0 : Nat → Nat} {w0 : World} {h0 : Heap} : ∀ (os : List Oper) (l : List Nat) (β : Nat → Nat) (w : World) (h : Heap) (T : List AV) (s : YS) (a : Act),
    l.map (fun i => ops[i]?) = os.map some → xOps P e ops K os T h s → GetsX e F β0 w0 h0 β w h → RelL (ctx F β w h) T a.tmps.toList → MK B D a.defers w → JOK e F β w h s → wpOpsIn (XF ρ) 0 P ops (PostX e F β0 w0 h0 B D K) l a w
  | [], l, β, w, h, T, s, a, hl, ha, g, r, m, j => by
    cases l with
    | cons _ _ => simp at hl
    | nil => exact ⟨.normal, β, T, h, s, ha, g, rfl, r, m, j⟩
  | o :: os, l, β, w, h, T, s, a, hl, ha, g, r, m, j => by
    cases l with
    | nil => simp at hl
    | cons i l =>
      simp only [List.map_cons, List.cons.injEq] at hl
      obtain ⟨ho, hl⟩ := hl
      unfold xOps at ha
      split at ha
      · rename_i gd hgd
        have hw := aGuard_rel r hgd
        simp only [wpOpsIn, ho, hw]
        split at ha
        · rename_i ht
          rw [if_pos ht]
          have plain : aOp P o T h (fun v h' => xOps P e ops K os (aPut T o.dst v) h' s) (fun v h' => K (.pan v) T h' s) → o.wpIn (XF ρ) 0 P a w (wpOpsIn (XF ρ) 0 P ops (PostX e F β0 w0 h0 B D K) l) (PostX e F β0 w0 h0 B D K) := by
            intro hp
            refine Oper.wpX (aOp_sound hp g.st r ?_ ?_) (aOp_noDefer hp)
            · intro v v' w' β' h' hn hg rv
              refine xOps_sound os l β' w' h' (aPut T o.dst v) s _ hl hn (g.trans (hg.getsX g.len)) (aPut_rel (RelL.le (hg.le g.st) _ _ r) rv _) ?_ (j.goes g.st hg)
              rw [Act.put_defers']
              exact m.goes g.st hg
            · intro v v' w' β' h' hn hg rv
              exact ⟨.pan v, β', T, h', s, hn, g.trans (hg.getsX g.len), ⟨v', rfl, rv⟩, RelL.le (hg.le g.st) _ _ r, m.goes g.st hg, j.goes g.st hg⟩
          unfold xOp at ha
          split at ha
          · rename_i f as ts hop
            split at ha
            · rename_i l' hf
              refine yArm_sound hop hf ha g.len g.st r m j ?_
              intro v v' w' β' h' s' hnx hg hβ hlen r' m' j' rv
              refine xOps_sound os l β' w' h' (aPut T o.dst v) s' _ hl hnx (g.trans hg) (aPut_rel r' rv _) ?_ j'
              rw [Act.put_defers']
              exact m'
            · exact plain ha
          · exact plain ha
        · rename_i ht
          rw [if_neg ht]
          refine ⟨fun f _ => XF_fn ρ f, xOps_sound os l β w h (aPut T o.dst (.tup [])) s _ hl ha g (aPut_rel r (show Rel _ (.tup []) undef from ⟨#[], rfl, rfl⟩) _) ?_ j⟩
          rw [Act.put_defers']
          exact m
      · exact ha.elim
end
end Go.AH
namespace Go.AH
open Go
set_option linter.unusedVariables false
set_option linter.unusedSimpArgs false
section
variable {n0 : Nat} {P : Program} {ρ : Option Nat} {e : Option (YR n0)} {T T0 : List AV} {h h0 : Heap} {s : YS} {K : KX}

theorem xself {F : Fr} {β : Nat → Nat} {w : World} {B : Nat} {D : List Deferred} {a : Act} (x : AExit) (ex : Exit) (hn : n0 ≤ h.length) (st : St F β w h) (r : RelL (ctx F β w h) T a.tmps.toList) (m : MK B D a.defers w) (j : JOK e F β w h s) (he : ERel (ctx F β w h) x ex) (k : K x T h s) :
    PostX e F β w h B D K ex a w := ⟨x, β, T, h, s, k, GetsX.refl st hn, he, r, m, j⟩
theorem aX_skip (k : K .normal T h s) : aX P ρ e .skip T h s K := fun F β w a B D hn hB st r m j => wpIn_skip (xself .normal .normal hn st r m j rfl k)
theorem aX_ret (k : K .ret T h s) : aX P ρ e .ret T h s K := fun F β w a B D hn hB st r m j => wpIn_ret (xself .ret .ret hn st r m j rfl k)
theorem aX_exit {id : Nat} (k : K (.exit id) T h s) : aX P ρ e (.exit id) T h s K := fun F β w a B D hn hB st r m j => wpIn_exit (xself (.exit id) (.exit id) hn st r m j rfl k)
theorem aX_xregion {id : Nat} {ops : Array Oper} (k : xOps P e ops K ops.toList T h s) : aX P ρ e (.region id ops false) T h s K := by
  intro F β w a B D hn hB st r m j
  refine wpIn_region (xOps_sound ops.toList _ β w h T s a ?_ k (GetsX.refl st hn) r m j)
  apply List.ext_getElem?
  intro i
  by_cases hi : i < ops.size
  · simp [hi]
  · rw [List.getElem?_eq_none (by simpa using hi), List.getElem?_eq_none (by simpa using hi)]

def ThenX (P : Program) (ρ : Option Nat) (e : Option (YR n0)) (y : Code) (K : KX) : KX
  | .normal, T, h, s => aX P ρ e y T h s K
  | x, T, h, s => K x T h s
theorem PostX.trans {F : Fr} {β β' : Nat → Nat} {w w' : World} {B : Nat} {D : List Deferred} {ex : Exit} {a : Act} {w2 : World} (g : GetsX e F β w h β' w' h0) (p : PostX e F β' w' h0 B D K ex a w2) : PostX e F β w h B D K ex a w2 := by
  obtain ⟨x, β2, T2, h2, s2, q, g2, rest⟩ := p
  exact ⟨x, β2, T2, h2, s2, q, g.trans g2, rest⟩
theorem aX_seq {x y : Code} (a : aX P ρ e x T h s (ThenX P ρ e y K)) : aX P ρ e (.seq x y) T h s K := by
  intro F β w act B D hn hB st r m j
  refine wpIn_seq (wpIn_mono (a F β w act B D hn hB st r m j) ?_)
  rintro ex a' w' ⟨x, β', T', h', s', q, g, he, hr, hm, hj⟩
  cases x with
  | normal =>
    cases he
    exact wpIn_mono (q F β' w' a' B D g.len (Nat.le_trans hB g.step.size) g.st hr hm hj) fun _ _ _ p => PostX.trans g p
  | exit id => cases he; exact ⟨.exit id, β', T', h', s', q, g, rfl, hr, hm, hj⟩
  | ret => cases he; exact ⟨.ret, β', T', h', s', q, g, rfl, hr, hm, hj⟩
  | pan v => obtain ⟨v', rfl, rv⟩ := he; exact ⟨.pan v, β', T', h', s', q, g, ⟨v', rfl, rv⟩, hr, hm, hj⟩
/-- Behind the first of two: N. -/
def NxX (N : List AV → Heap → YS → Prop) (K : KX) : KX
  | .normal, T, h, s => N T h s
  | x, T, h, s => K x T h s
theorem aX_seq_k {x y : Code} (a : ∀ N : List AV → Heap → YS → Prop, (∀ T' h' s', aX P ρ e y T' h' s' K → N T' h' s') → aX P ρ e x T h s (NxX N K)) : aX P ρ e (.seq x y) T h s K := by
  refine aX_seq (aX_mono (a (fun T' h' s' => aX P ρ e y T' h' s' K) fun _ _ _ q => q) ?_)
  intro x T h s _ q
  cases x <;> exact q
theorem aX_cond {c : Operand} {x y : Code} {b : Bool} (hc : aEval T c = .bool b) (ht : b = true → aX P ρ e x T h s K) (hf : b = false → aX P ρ e y T h s K) : aX P ρ e (.cond c x y) T h s K := by
  intro F β w act B D hn hB st r m j
  have rc := aEval_rel r c
  rw [hc] at rc
  simp only [Rel] at rc
  exact wpIn_cond_split rc (fun q => ht q F β w act B D hn hB st r m j) (fun q => hf q F β w act B D hn hB st r m j)
def InBlockX (id : Nat) (K : KX) : KX
  | .exit i, T, h, s => if i = id then K .normal T h s else K (.exit i) T h s
  | x, T, h, s => K x T h s
theorem aX_block {id : Nat} {c : Code} (a : aX P ρ e c T h s (InBlockX id K)) : aX P ρ e (.block id c) T h s K := by
  intro F β w act B D hn hB st r m j
  refine wpIn_block (wpIn_mono (a F β w act B D hn hB st r m j) ?_)
  rintro ex a' w' ⟨x, β', T', h', s', q, g, he, hr, hm, hj⟩
  cases x with
  | normal => cases he; exact ⟨.normal, β', T', h', s', q, g, rfl, hr, hm, hj⟩
  | exit i =>
    cases he
    simp only [InBlockX] at q
    simp only [Exit.inBlock]
    split
    · rename_i hi; rw [if_pos hi] at q; exact ⟨.normal, β', T', h', s', q, g, rfl, hr, hm, hj⟩
    · rename_i hi; rw [if_neg hi] at q; exact ⟨.exit i, β', T', h', s', q, g, rfl, hr, hm, hj⟩
  | ret => cases he; exact ⟨.ret, β', T', h', s', q, g, rfl, hr, hm, hj⟩
  | pan v => obtain ⟨v', rfl, rv⟩ := he; exact ⟨.pan v, β', T', h', s', q, g, ⟨v', rfl, rv⟩, hr, hm, hj⟩

/-! ### weakening -/
theorem JOK.weak {m : Nat → Nat} (k : Weak n0 m T0 h0 T h) {F : Fr} {β : Nat → Nat} {w : World} (j : JOK e F β w h s) : JOK e F (fun id => β (m id)) w h0 s := fun y hy =>
  ⟨(j y hy).1, (y.ok m k.fix).rel k.via (j y hy).2⟩
theorem Weak.getsX {m : Nat → Nat} (k : Weak n0 m T0 h0 T h) {F : Fr} {βs β : Nat → Nat} {ws w : World} {hs : Heap} (g : GetsX e F βs ws hs β w h) : GetsX e F βs ws hs (fun id => β (m id)) w h0 :=
  ⟨k.st g.st, ⟨g.step.os, g.step.tape, g.step.output, g.step.size, g.step.keep, g.step.shape, fun b q => g.step.own b (q.imp k.own id)⟩, k.len, fun id hid => by simp only [k.fix id hid]; exact g.β id hid⟩
theorem aX_weak {m : Nat → Nat} {c : Code} (k : Weak n0 m T0 h0 T h) (a : aX P ρ e c T0 h0 s K) : aX P ρ e c T h s K := by
  intro F β w act B D hn hB st r mk j
  refine wpIn_mono (a F (fun id => β (m id)) w act B D k.len hB (k.st st) (k.vals.rel k.via r) mk (j.weak k)) ?_
  rintro ex a' w' ⟨x, β', T', h', s', q, g, rest⟩
  exact ⟨x, β', T', h', s', q, ⟨g.st, ⟨g.step.os, g.step.tape, g.step.output, g.step.size, fun b hb hO => g.step.keep b hb fun p => hO (p.imp k.own id), g.step.shape, fun b p => (g.step.own b p).imp (fun p => p.imp k.own id) id⟩, g.len, fun id hid => (g.β id hid).trans (by rw [k.fix id hid])⟩, rest⟩
theorem aX_forget {c : Code} (T0 : List AV) (hv : LeU T0 T) (a : n0 ≤ h.length → aX P ρ e c T0 h s K) : aX P ρ e c T h s K :=
  fun F β w act B D hn hB st r m j => aX_weak (Weak.forget hv hn) (a hn) F β w act B D hn hB st r m j

/-! ### loops -/
def RoundX (n0 : Nat) (I : Nat → List AV → Heap → YS → Prop) (n : Nat) (K : KX) : KX
  | .normal, T, h, s => ∃ n' m T0 h0, n' < n ∧ Weak n0 m T0 h0 T h ∧ I n' T0 h0 s
  | x, T, h, s => K x T h s
theorem wpIn_loop_ghost {F : Fence} {n : Nat} {Q : Exit → Act → World → Prop} {a : Act} {w : World} {c : Code} (I : Nat → Act → World → Prop) (n₀ : Nat) (h₀ : I n₀ a w)
    (round : ∀ k a w, I k a w → c.wpIn F n P (Exit.then (fun a' w' => ∃ k', k' < k ∧ I k' a' w') Q) a w) : (Code.loop c).wpIn F n P Q a w := by
  refine wpIn_loop (fun a w => ∃ n, I n a w) (fun a w => leastOf (fun n => I n a w)) ⟨n₀, h₀⟩ ?_
  intro a w hI
  refine wpIn_mono (round _ a w (leastOf_spec hI).1) ?_
  intro e a' w' hq
  cases e with
  | normal =>
    obtain ⟨n', hlt, hI'⟩ := hq
    exact show (∃ n, I n a' w') ∧ leastOf (fun n => I n a' w') < leastOf (fun n => I n a w) from ⟨⟨n', hI'⟩, Nat.lt_of_le_of_lt ((leastOf_spec ⟨n', hI'⟩).2 n' hI') hlt⟩
  | exit id => exact hq
  | goto l => exact hq
  | ret => exact hq
  | panic ch => exact hq
  | outgrown => exact hq
theorem aX_loop {c : Code} (I : Nat → List AV → Heap → YS → Prop) (n : Nat) (hI : I n T h s) (round : ∀ n T h s, n0 ≤ h.length → I n T h s → aX P ρ e c T h s (RoundX n0 I n K)) : aX P ρ e (.loop c) T h s K := by
  intro F β w act B D hn hB st r mk j
  refine wpIn_loop_ghost (fun n a w' => ∃ β' T' h' s', I n T' h' s' ∧ GetsX e F β w h β' w' h' ∧ RelL (ctx F β' w' h') T' a.tmps.toList ∧ MK B D a.defers w' ∧ JOK e F β' w' h' s') n ⟨β, T, h, s, hI, GetsX.refl st hn, r, mk, j⟩ ?_
  rintro n a1 w1 ⟨β1, T1, h1, s1, hI1, g1, r1, m1, j1⟩
  refine wpIn_mono (round n T1 h1 s1 g1.len hI1 F β1 w1 a1 B D g1.len (Nat.le_trans hB g1.step.size) g1.st r1 m1 j1) ?_
  rintro ex a' w' ⟨x, β', T', h', s', q, g, he, hr, hm, hj⟩
  cases x with
  | normal =>
    cases he
    obtain ⟨n', m, T0, h0, hlt, k, hI'⟩ := q
    exact ⟨n', hlt, _, T0, h0, s', hI', k.getsX (g1.trans g), k.vals.rel k.via hr, hm, hj.weak k⟩
  | exit i => cases he; exact ⟨.exit i, β', T', h', s', q, g1.trans g, rfl, hr, hm, hj⟩
  | ret => cases he; exact ⟨.ret, β', T', h', s', q, g1.trans g, rfl, hr, hm, hj⟩
  | pan v => obtain ⟨v', rfl, rv⟩ := he; exact ⟨.pan v, β', T', h', s', q, g1.trans g, ⟨v', rfl, rv⟩, hr, hm, hj⟩

/-! ### regions, by the set that evaluates -/
theorem aOp_mono {o : Oper} {next next' pan pan' : AV → Heap → Prop} (hn : ∀ v h', next v h' → next' v h') (hp : ∀ v h', pan v h' → pan' v h') (ho : aOp P o T h next pan) : aOp P o T h next' pan' := by
  unfold aOp at ho ⊢
  split at ho
  · rename_i c hc
    split at ho
    · rename_i f hf
      split at ho
      · refine ho.mono ?_
        intro r h' q
        cases r with
        | ret v => exact hn _ _ q
        | pan v => exact hp _ _ q
      · exact ho.elim
    · split at ho
      · exact hn _ _ ho
      · exact ho.elim
    · exact ho.elim
  · split at ho
    · exact hn _ _ ho
    · exact ho.elim
theorem xOp_of_aOp {o : Oper} {next : AV → Heap → YS → Prop} {pan : AV → Heap → YS → Prop} (ho : aOp P o T h (fun v h' => next v h' s) (fun v h' => pan v h' s)) : xOp P e o T h s next pan := by
  unfold xOp
  split
  · rename_i f as ts hop
    split
    · rename_i l hf
      unfold aOp at ho
      rw [hop] at ho
      simp only [hf, fnArgs] at ho
    · exact ho
  · exact ho
/-- A region without a call for a round. -/
theorem xOps_of_sOps (ops : Array Oper) : ∀ (os : List Oper) (T : List AV) (h : Heap), sOps P (fun x T h => K x T h s) (os.map (slim1 (ops.toList.map (·.dst)))) T h → xOps P e ops K os T h s
  | [], _, _, k => k
  | o :: os, T, h, k => by
    rw [List.map_cons, sOps] at k
    rw [xOps, sGuard_eq]
    split at k
    · rename_i hg
      rw [hg]
      simp only [if_true]
      exact xOp_of_aOp (aOp_mono (fun v h' q => xOps_of_sOps ops os _ h' q) (fun v h' q => q) (sOp_aOp k))
    · rename_i hg
      rw [hg]
      simp only [Bool.false_eq_true, if_false]
      exact xOps_of_sOps ops os _ h k
    · exact k.elim
theorem xOps_app (ops : Array Oper) (os2 : List Oper) : ∀ (os1 : List Oper) (T : List AV) (h : Heap), sOps P (fun x T h => match x with | .normal => xOps P e ops K os2 T h s | x => K x T h s) (os1.map (slim1 (ops.toList.map (·.dst)))) T h → xOps P e ops K (os1 ++ os2) T h s
  | [], _, _, k => k
  | o :: os, T, h, k => by
    rw [List.map_cons, sOps] at k
    rw [List.cons_append, xOps, sGuard_eq]
    split at k
    · rename_i hg
      rw [hg]
      simp only [if_true]
      exact xOp_of_aOp (aOp_mono (fun v h' q => xOps_app ops os2 os _ h' q) (fun v h' q => q) (sOp_aOp k))
    · rename_i hg
      rw [hg]
      simp only [Bool.false_eq_true, if_false]
      exact xOps_app ops os2 os _ h k
    · exact k.elim
/-- A region, and what stands behind it. -/
theorem aX_reg {id : Nat} {ops : Array Oper} {y : Code} (a : ∀ N : List AV → Heap → Prop, (∀ T' h', aX P ρ e y T' h' s K → N T' h') → sOps P (Nx N fun x T h => K x T h s) (slim ops.toList) T h) : aX P ρ e (.seq (.region id ops false) y) T h s K := by
  refine aX_seq (aX_xregion (xOps_of_sOps ops _ T h ?_))
  have := a (fun T' h' => aX P ρ e y T' h' s K) fun _ _ q => q
  unfold slim at this
  have e0 : (fun x T h => ThenX P ρ e y K x T h s) = Nx (fun T' h' => aX P ρ e y T' h' s K) (fun x T h => K x T h s) := by
    funext x T h
    cases x <;> rfl
  rw [e0]
  exact this
theorem aX_reg1 {id : Nat} {ops : Array Oper} (a : ∀ N : List AV → Heap → Prop, (∀ T' h', K .normal T' h' s → N T' h') → sOps P (Nx N fun x T h => K x T h s) (slim ops.toList) T h) : aX P ρ e (.region id ops false) T h s K := by
  refine aX_xregion (xOps_of_sOps ops _ T h ?_)
  have := a (fun T' h' => K .normal T' h' s) fun _ _ q => q
  unfold slim at this
  have e0 : (fun x T h => K x T h s) = Nx (fun T' h' => K .normal T' h' s) (fun x T h => K x T h s) := by
    funext x T h
    cases x <;> rfl
  rw [e0]
  exact this
/-- A region whose operation k asks for a round. -/
theorem aX_regY {id : Nat} {ops : Array Oper} (k : Nat) {oy : Oper} (hk : ops.toList = ops.toList.take k ++ oy :: ops.toList.drop (k + 1)) {f : Operand} {as : Array Operand} {ts : Array TypeId} (hop : oy.op = .call ⟨.value f, as, ts⟩)
    (a : ∀ N : List AV → Heap → Prop, (∀ T' h' l, aGuard ops T' oy = some true → aEval T' f = .fn (.yield l) [] → yArm P e l (as.toList.map (aEval T')) h' s (fun v h2 s2 => sOps P (fun x T h => K x T h s2) ((ops.toList.drop (k + 1)).map (slim1 (ops.toList.map (·.dst)))) (aPut T' oy.dst v) h2) → N T' h') →
      sOps P (Nx N fun x T h => K x T h s) ((ops.toList.take k).map (slim1 (ops.toList.map (·.dst)))) T h) : aX P ρ e (.region id ops false) T h s K := by
  refine aX_xregion ?_
  rw [hk]
  refine xOps_app ops _ _ T h ?_
  have := a (fun T' h' => xOps P e ops K (oy :: ops.toList.drop (k + 1)) T' h' s) fun T' h' l hg hf hy => ?_
  · have e0 : (fun x T h => match x with | .normal => xOps P e ops K (oy :: ops.toList.drop (k + 1)) T h s | x => K x T h s) = Nx (fun T' h' => xOps P e ops K (oy :: ops.toList.drop (k + 1)) T' h' s) (fun x T h => K x T h s) := by
      funext x T h
      cases x <;> rfl
    rw [e0]
    exact this
  · rw [xOps, hg]
    simp only [if_true]
    unfold xOp
    rw [hop]
    simp only [hf]
    obtain ⟨y, h1, h2, h3, h4, h5⟩ := hy
    refine ⟨y, h1, h2, h3, h4, aX_mono h5 ?_⟩
    intro q T1 h1 _ _ hq
    cases q with
    | normal =>
      refine aX_mono hq ?_
      intro q2 T2 h2 _ _ hq2
      cases q2 with
      | normal => exact xOps_of_sOps ops _ _ _ hq2
      | ret => exact xOps_of_sOps ops _ _ _ hq2
      | exit id => exact xOps_of_sOps ops _ _ _ hq2
      | pan v => exact hq2
    | exit id => exact hq
    | ret => exact hq
    | pan v => exact hq
end
end Go.AH
namespace Go.AH
open Go
set_option linter.unusedVariables false
set_option linter.unusedSimpArgs false
section
variable {n0 : Nat} {P : Program} {T : List AV} {h : Heap} {s : YS} {K : KX}

/-- The marks are passed on the way out. -/
theorem leaves_marks {F : Fence} {n : Nat} {fn : Func} {tmps : Array Value} {R : Ending → World → Prop} {u : FrameMode} (hu : u ≠ .run) : ∀ (ks : List Nat) (w : World), ks.Nodup → (∀ k ∈ ks, w.heap[k]? = some (.deferred (some []))) →
    LeavesInM F n P fn tmps R [] u (shut ks w) → LeavesInM F n P fn tmps R (ks.map mark) u w
  | [], _, _, _, h => h
  | k :: ks, w, nd, hk, h => by
    rw [List.nodup_cons] at nd
    refine ⟨hu, .inl ⟨k, _, rfl, run_takeDeferred (hk k (by simp)), ?_⟩⟩
    refine leaves_marks hu ks _ nd.2 (fun x hx => ?_) h
    rw [World.putObj_heap_other (by intro q; subst q; exact nd.1 hx)]
    exact hk x (by simp [hx])

/-- What a function's body may leave. -/
def BodyX (P : Program) (fn : Func) (n0 : Nat) (K : AEnd → Heap → Prop) : KX := fun x T h _ => Body P fn n0 K x T h

theorem acalls_bodyX {f : FuncId} {fn : Func} {c : Code} {args : List AV} {K : AEnd → Heap → Prop} (hf : P.funcs[f]? = some fn) (hb : fn.body = some c) (hn : (fn.name == "runtime.NumGoroutine") = false)
    (a : aX P none (none : Option (YR h.length)) c (args ++ List.replicate (fn.ntmps - args.length) (.tup [])) h .rd (BodyX P fn h.length K)) : ACalls P f args h K := by
  refine fun F β w vs st r => .inl ⟨⟨fn, hf, by rw [hb]; rfl, hn⟩, (callsIn_wide (n := 0)).1 (callsIn_of_wp_marks hf hb trivial ?_ rfl)⟩
  have hl : args.length = vs.size := by have := r.length; simpa using this
  have r0 : RelL (ctx F β w h) (args ++ List.replicate (fn.ntmps - args.length) (.tup [])) (vs ++ Array.replicate (fn.ntmps - vs.size) undef).toList := by
    rw [Array.toList_append, Array.toList_replicate, ← hl]
    exact r.append (RelL.replicate (show Rel _ (.tup []) undef from ⟨#[], rfl, rfl⟩) _)
  refine wpIn_mono (a F β w ⟨_, []⟩ w.heap.size [] (Nat.le_refl _) (Nat.le_refl _) st r0 (mk_nil _ _ _) (jok_none _ _ _ _ _)) ?_
  rintro ex a' w' ⟨x, β', T', h', s', q, g, he, hr, ⟨ks, hd, nd, hks⟩, _⟩
  rw [List.append_nil] at hd
  have g' := g.goes rfl
  obtain ⟨st2, le2, step2, _, _⟩ := St.shut (w0 := w) (O := Own β h) ks w' g.st nd hks g'.step
  have fin : (∃ R m r h0, aResults P fn.results.toList T' h' = some R ∧ Weak h.length m [r] h0 [R] h' ∧ K (.ret r) h0) →
      LeavesInM Fence.wide 0 P fn a'.tmps (fun e w' => ∃ β' h' r, K r h' ∧ Goes F β w h β' w' h' ∧ EndRel (ctx F β' w' h') r e) a'.defers .returning w' := by
    rintro ⟨R, m, r, h0, h1, k, hk⟩
    rw [hd]
    refine leaves_marks (by simp) ks w' nd (fun k hk => (hks k hk).2) ?_
    have hr2 := RelL.le le2 _ _ hr
    obtain ⟨u, hu, ru⟩ := run_aResults (P := P) (fn := fn) st2 hr2 h1
    exact ⟨u, hu, _, h0, .ret r, hk, (k.gets (⟨st2, step2, g.len, g.β⟩ : Gets h.length F β w h β' _ h')).goes, u, rfl, k.vals.1.rel k.via ru⟩
  cases x with
  | normal => cases he; exact fin q
  | ret => cases he; exact fin q
  | exit i => exact q.elim
  | pan v =>
    obtain ⟨v', rfl, rv⟩ := he
    obtain ⟨m, r, h0, k, hk⟩ := q
    show LeavesInM Fence.wide 0 P fn a'.tmps _ a'.defers (.panicking _) w'
    rw [hd]
    refine leaves_marks (by simp) ks w' nd (fun k hk => (hks k hk).2) ?_
    exact ⟨_, h0, .pan r, hk, (k.gets (⟨st2, step2, g.len, g.β⟩ : Gets h.length F β w h β' _ h')).goes, v', rfl, k.vals.1.rel k.via (Rel.le le2 _ _ rv)⟩

/-- What stands behind a range over a function. -/
def RangeK (K : KX) (T : List AV) (s0 : YS) : KX := fun x _ h' s' => match x with
  | .normal | .ret => (match s' with
    | .rd => K .normal T h' s0
    | .dn .ret => K .ret T h' s0
    | .dn (.exit id) => K (.exit id) T h' s0
    | _ => False)
  | _ => False

/-- A RANGE OVER A FUNCTION: what it ranges over is walked in the heap as it stands; where it asks for a round, the round is walked. -/
theorem aX_range {g : Operand} {ps : Array Tmp} {assign body : Code} {gf : FuncId} {caps : List AV} {fn : Func} {c : Code} (hg : aEval T g = .fn (.func gf) caps) (hf : P.funcs[gf]? = some fn) (hb : fn.body = some c)
    (hnm : (fn.name == "runtime.NumGoroutine") = false) (hres : fn.results = #[]) (R : List AV) (hR : LeU R T) (okR : ∀ m : Nat → Nat, (∀ id, id < h.length → m id = id) → LeL m R R)
    (it : ∀ y : YR h.length, y.R = R → y.ps = ps.toList → y.assign = assign → y.body = body → aX P none (some y) c ((.fn (.yield y.l) [] :: caps) ++ List.replicate (fn.ntmps - (caps.length + 1)) (.tup [])) h .rd (RangeK K T s)) :
    aX P none (none : Option (YR n0)) (.rangeFunc g ps assign body) T h s K := by
  intro F β w a B D hn hB st r m _
  refine wpIn_rangeFunc ?_
  intro fid _
  obtain ⟨y, hy⟩ : ∃ y : YR h.length, y = ⟨w.heap.size + 1, w.heap.size, fid, a.tmps, R, ps.toList, assign, body, okR⟩ := ⟨_, rfl⟩
  have hyl : y.l = w.heap.size + 1 := by rw [hy]
  obtain ⟨W1, hW1⟩ : ∃ W1, (w.alloc (.deferred (some []))).alloc (.loop (y.lp .ready none)) = W1 := ⟨_, rfl⟩
  have hL1 : W1.heap[w.heap.size + 1]? = some (.loop (y.lp .ready none)) := by
    rw [← hW1]; have := World.alloc_heap_new (w.alloc (.deferred (some []))) (.loop (y.lp .ready none)); rwa [World.size_alloc] at this
  have hK1 : W1.heap[w.heap.size]? = some (.deferred (some [])) := by
    rw [← hW1]; exact (Go.RowKit.Below.heap_alloc _ _ _ (by simp)).trans (World.alloc_heap_new w _)
  have g1 := st.aside (.deferred (some []))
  have g2 : Goes F β w h β W1 h := by rw [← hW1]; exact g1.trans (g1.st.aside _)
  have rf := aEval_rel r g
  rw [hg] at rf
  obtain ⟨cs, ef, rcs⟩ := rf
  have hsz1 : W1.heap.size = w.heap.size + 2 := by rw [← hW1]; simp
  have hm1 : MK B D a.defers W1 := m.goes st g2
  refine ⟨w.heap.size + 1, [mark w.heap.size], W1, { target := .fn (.func gf) cs, args := #[.func (.yield (w.heap.size + 1)) #[] #[]] }, W1, gf, #[.func (.yield (w.heap.size + 1)) #[] #[]] ++ cs, W1, ?_, ?_, fun f' _ => trivial, ?_, (fun q => by cases q), ?_⟩
  · rw [← hW1, hy]; exact run_enterLoop_outer _ _ _ _ _
  · simp only [resolve, ef, Deferred.ofValue, Sem.run_pure]
    simp [Act.eval]
  · have hc : Callable P gf := ⟨fn, hf, by rw [hb]; rfl, hnm⟩
    exact run_callFunc hc _ W1
  · refine callsIn_of_wp_marks hf hb trivial ?_ rfl
    have hl : cs.size = caps.length := by have := rcs.length; simpa using this.symm
    have rT1 : RelL (ctx F β W1 h) ((.fn (.yield y.l) [] :: caps) ++ List.replicate (fn.ntmps - (caps.length + 1)) (.tup [])) ((#[Value.func (.yield (w.heap.size + 1)) #[] #[]] ++ cs) ++ Array.replicate (fn.ntmps - (#[Value.func (.yield (w.heap.size + 1)) #[] #[]] ++ cs).size) undef).toList := by
      have hsz : (#[.func (.yield (w.heap.size + 1)) #[] #[]] ++ cs : Array Value).size = caps.length + 1 := by simp [hl]; omega
      rw [hsz, Array.toList_append, Array.toList_replicate, Array.toList_append]
      refine RelL.append ?_ (RelL.replicate (show Rel _ (.tup []) undef from ⟨#[], rfl, rfl⟩) _)
      refine ⟨_, _, rfl, ⟨#[], by rw [hyl], rfl⟩, ?_⟩
      exact RelL.le (g2.le st) _ _ rcs
    have kf := Weak.forget (n0 := 0) (h := h) hR (Nat.zero_le _)
    have rR : RelL (ctx F β W1 h) y.R y.tm.toList := by
      have := kf.vals.rel (kf.via (F := F) (β := β) (w := W1)) (RelL.le (g2.le st) _ _ r)
      rw [hy]
      exact this
    have jy : JOK (some y) F β W1 h .rd := by
      intro z hz
      cases hz
      exact ⟨by rw [hyl]; exact hL1, rR⟩
    have hcalls := it y (by rw [hy]) (by rw [hy]) (by rw [hy]) (by rw [hy]) F β W1 ⟨_, []⟩ W1.heap.size [] (Nat.le_refl _) (Nat.le_refl _) g2.st rT1 (mk_nil _ _ _) jy
    refine wpIn_mono hcalls ?_
    rintro ex a' w' ⟨x, β', T', h', s', q, gx, he, hr, ⟨ks, hd, nd, hks⟩, j'⟩
    rw [List.append_nil] at hd
    obtain ⟨hl', hR'⟩ := j' y rfl
    -- the iterator's end
    have isl : ∀ b, isL (some y) b → b = y.l := fun b ⟨z, q1, q2⟩ => by cases q1; exact q2
    have stepI : Step (fun b => Own β h b ∨ b = y.l) W1 w' (Own β' h') := by
      refine ⟨gx.step.os, gx.step.tape, gx.step.output, gx.step.size, fun b hb hO => gx.step.keep b hb fun p => hO (p.imp id (isl b)), gx.step.shape, fun b p => ?_⟩
      rcases gx.step.own b (.inl p) with q | q
      · exact .inl (q.imp id (isl b))
      · exact .inr q
    obtain ⟨st3, le3, step3, hk3, hs3⟩ := St.shut (w0 := W1) (O := fun b => Own β h b ∨ b = y.l) ks w' gx.st nd hks stepI
    have hlks : y.l ∉ ks := fun p => by have := (hks _ p).1; omega
    obtain ⟨lp', hlp'⟩ := y.obj_loop s'
    have hl3 : (shut ks w').heap[y.l]? = some (.loop lp') := by rw [hk3 _ hlks, hl', hlp']
    have hK3 : (shut ks w').heap[w.heap.size]? = some (.deferred (some [])) := by
      rw [hk3 _ (fun p => by have := (hks _ p).1; omega)]
      rw [gx.step.keep w.heap.size (by omega) (fun p => p.elim (fun p => (g2.st.ownObj p).1 _ hK1) fun p => by have := isl _ p; omega)]
      exact hK1
    -- the record is shut
    have core : ∀ (jump : Option Code) (st' : LoopState), lp' = y.lp st' jump → st' ≠ .busy → ∀ (K2 : Exit → Act → World → Prop),
        (∀ w4, St F β' w4 h' → (ctx F β' w' h').le (ctx F β' w4 h') → Step (Own β h) w w4 (Own β' h') → MK B D (mark w.heap.size :: a.defers) w4 →
          (match jump with | none => K2 .normal { a with defers := mark w.heap.size :: a.defers } w4 | some c => c.wpIn Fence.wide 0 P K2 { a with defers := mark w.heap.size :: a.defers } w4)) →
        ∃ jump w4, (Instr.endLoop (w.heap.size + 1)).run P (shut ks w') = .ok jump w4 ∧ (match jump with | none => K2 .normal { a with defers := mark w.heap.size :: a.defers } w4 | some c => c.wpIn Fence.wide 0 P K2 { a with defers := mark w.heap.size :: a.defers } w4) := by
      intro jump st' e1 e2 K2 hK2
      subst e1
      obtain ⟨st4, le4, step4⟩ := st3.putL hl3 { y.lp st' jump with state := .exhausted }
      rw [← hyl]
      refine ⟨jump, _, run_endLoop hl3 e2, hK2 _ st4 ?_ ?_ ?_⟩
      · exact ⟨Nat.le_refl _, fun _ _ => rfl, le3.lt, Nat.le_trans le3.size le4.size, fun b o v hb hN hc => le4.keep b o v (Nat.lt_of_lt_of_le hb le3.size) hN (le3.keep b o v hb hN hc), fun b hb => (le4.shape b (Nat.lt_of_lt_of_le hb le3.size)).trans (le3.shape b hb), fun b q => .inl q, rfl⟩
      · have k1 := g2.step
        refine ⟨by rw [step4.os, step3.os, k1.os], by rw [step4.tape, step3.tape, k1.tape], by rw [step4.output, step3.output, k1.output], Nat.le_trans k1.size (Nat.le_trans step3.size step4.size), fun b hb hO => ?_, fun b hb => ?_, fun b p => ?_⟩
        · have hbl : b ≠ y.l := by omega
          rw [World.putObj_heap_other hbl, step3.keep b (Nat.lt_of_lt_of_le hb k1.size) (fun p => p.elim hO hbl), k1.keep b hb hO]
        · have hbl : b ≠ y.l := by omega
          rw [step4.shape b (Nat.lt_of_lt_of_le hb (Nat.le_trans k1.size step3.size)), step3.shape b (Nat.lt_of_lt_of_le hb k1.size), k1.shape b hb]
        · rcases step3.own b p with q | q
          · rcases q with q | q
            · exact .inl q
            · exact .inr (by omega)
          · exact .inr (Nat.le_trans k1.size q)
      · obtain ⟨ks0, e1, e2, e3⟩ := m
        refine ⟨w.heap.size :: ks0, by rw [e1]; rfl, ?_, ?_⟩
        · rw [List.nodup_cons]
          exact ⟨fun p => by have := lt_heap (e3 _ p).2; omega, e2⟩
        · intro k hk
          rcases List.mem_cons.1 hk with rfl | hk
          · refine ⟨hB, ?_⟩
            rw [World.putObj_heap_other (by omega)]
            exact hK3
          · refine ⟨(e3 k hk).1, ?_⟩
            have hlt := lt_heap (e3 k hk).2
            rw [World.putObj_heap_other (by omega)]
            have hkW : W1.heap[k]? = some (.deferred (some [])) := by
              rw [g2.step.keep k hlt (fun q => (st.ownObj q).1 _ (e3 k hk).2)]
              exact (e3 k hk).2
            rw [step3.keep k (by omega) (fun q => q.elim (fun q => (g2.st.ownObj q).1 _ hkW) (fun q => by omega))]
            exact hkW
    -- what is known of the caller
    have after : ∀ (w4 : World) (K2 : KX) (xx : AExit) (ex : Exit), St F β' w4 h' → (ctx F β' w' h').le (ctx F β' w4 h') → Step (Own β h) w w4 (Own β' h') → MK B D (mark w.heap.size :: a.defers) w4 → ERel (ctx F β' w4 h') xx ex → K2 xx T h' s →
        PostX (none : Option (YR n0)) F β w h B D K2 ex { a with defers := mark w.heap.size :: a.defers } w4 := by
      intro w4 K2 xx ex st4 le4 step mk er k
      have gg : Goes F β w h β' w4 h' := ⟨st4, step, gx.len, gx.β⟩
      exact ⟨xx, β', T, h', s, k, gg.getsX hn, er, RelL.le (gg.le st) _ _ r, mk, jok_none _ _ _ _ _⟩
    have fin : RangeK K T s .ret T' h' s' → LeavesInM Fence.wide (0 - 1) P fn a'.tmps (rangePost Fence.wide 0 P (w.heap.size + 1) (PostX (none : Option (YR n0)) F β w h B D K) { a with defers := [mark w.heap.size] ++ a.defers }) a'.defers .returning w' := by
      intro q
      rw [hd]
      refine leaves_marks (by simp) ks w' nd (fun k hk => (hks k hk).2) ?_
      have hr3 := RelL.le le3 _ _ hr
      have hv : (results fn a'.tmps).run P (shut ks w') = .ok (.tuple #[]) (shut ks w') := by
        rw [results_eq, hres]
        simp only [List.mapM_nil, Sem.run_bind, Sem.run_pure, Result.andThen_ok]
        rfl
      refine ⟨_, hv, ?_⟩
      show ∃ jump w4, _
      unfold RangeK at q
      cases s' with
      | rd =>
        exact core none .ready (by rw [show y.obj .rd = _ from rfl] at hlp'; injection hlp' with e; exact e.symm) (by simp) _ fun w4 st4 le4 step mk => after w4 K .normal .normal st4 le4 step mk rfl q
      | dn c =>
        have e1 : lp' = y.lp .done (some c) := by rw [show y.obj (.dn c) = _ from rfl] at hlp'; injection hlp' with e; exact e.symm
        cases c with
        | ret => exact core (some .ret) .done e1 (by simp) _ fun w4 st4 le4 step mk => wpIn_ret (after w4 K .ret .ret st4 le4 step mk rfl q)
        | exit id => exact core (some (.exit id)) .done e1 (by simp) _ fun w4 st4 le4 step mk => wpIn_exit (after w4 K (.exit id) (.exit id) st4 le4 step mk rfl q)
        | _ => exact q.elim
    cases x with
    | normal => cases he; exact fin q
    | ret => cases he; exact fin q
    | exit i => exact q.elim
    | pan v => exact q.elim
end
end Go.AH
namespace Go.AH
open Go
set_option linter.unusedVariables false
section
variable {N : List AV → Heap → YS → Prop} {K : KX} {T : List AV} {h : Heap} {s : YS} {i j n0 n : Nat} {R : Nat → List AV → Heap → YS → Prop}
theorem nxx_normal (q : N T h s) : NxX N K .normal T h s := q
theorem nxx_exit (q : K (.exit i) T h s) : NxX N K (.exit i) T h s := q
theorem nxx_ret (q : K .ret T h s) : NxX N K .ret T h s := q
theorem ibx_normal (q : K .normal T h s) : InBlockX i K .normal T h s := q
theorem ibx_exit (q : K .normal T h s) : InBlockX i K (.exit i) T h s := by simp only [InBlockX, if_true]; exact q
theorem ibx_exit_ne (e : j ≠ i) (q : K (.exit j) T h s) : InBlockX i K (.exit j) T h s := by simp only [InBlockX, e, if_false]; exact q
theorem ibx_ret (q : K .ret T h s) : InBlockX i K .ret T h s := q
theorem roundx_exit (q : K (.exit i) T h s) : RoundX n0 R n K (.exit i) T h s := q
theorem roundx_ret (q : K .ret T h s) : RoundX n0 R n K .ret T h s := q
end
end Go.AH
namespace Go.AH
open Go
section
variable {n0 : Nat} {P : Program} {ρ : Option Nat} {T : List AV} {h : Heap} {s : YS} {K : KX}
theorem aX_freeze {c : Code} (id : Nat) {cs : List AV} {e : TypeId} {wh : Bool} (hr : rowAt h id = some (cs, e, wh)) (a : aX P ρ (none : Option (YR n0)) c (frzL id cs T) (frzH id cs (h.set id none)) s K) : aX P ρ (none : Option (YR n0)) c T h s K := by
  intro F β w act B D hn hB st r m _
  obtain ⟨k, g⟩ := st.freeze hr
  have hlen : (frzH id cs (h.set id none)).length = h.length := by rw [frzH_length, List.length_set]
  refine wpIn_mono (a F β w act B D (by rw [hlen]; exact hn) hB g.st (RelL.frz k _ _ r) m (jok_none _ _ _ _ _)) ?_
  rintro ex a' w' ⟨x, β', T', h', s', q, g2, rest⟩
  exact ⟨x, β', T', h', s', q, (g.getsX hn).trans g2, rest⟩
end
end Go.AH
