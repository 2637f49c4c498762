/- Plain data, as the rows hand it in. No condition. -/
import Derived.Test.YtieaamjikcjbeaaA24
import Derived.SizedLaws
import Derived.ChangeArms
import Derived.Carry
import Derived.ChangeOld
import Derived.WideShapes
import Derived.OpenShut
namespace Go.AH
open Go
set_option linter.unusedVariables false
set_option linter.unusedSimpArgs false
/-- What stands in the cells of a type: plain data, as the rows hand it in. -/
inductive Sch where
  | bool
  | int (k : IntKind)
  | str
  | sl (s : Sch)
  | st (s : Sch)
  | arr (n : Nat) (s : Sch)
  | pair (a b : Sch)
  | unit
def Sch.Val : Sch → Type
  | .bool => Bool
  | .int _ => Int
  | .str => List UInt8
  | .sl s => List s.Val
  | .st s => s.Val
  | .arr _ s => List s.Val
  | .pair a b => a.Val × b.Val
  | .unit => Unit
def Sch.size : Sch → Nat
  | .bool | .int _ | .str | .sl _ => 1
  | .st s => s.size
  | .arr n s => n * s.size
  | .pair a b => a.size + b.size
  | .unit => 0
def Sch.cells : (s : Sch) → s.Val → List AV
  | .bool, b => [.bool b]
  | .int k, n => [.int k n]
  | .str, s => [.str s]
  | .sl s, (l : List s.Val) => [.isl (l.flatMap s.cells) l.length]
  | .st s, x => s.cells x
  | .arr _ s, (l : List s.Val) => l.flatMap s.cells
  | .pair a b, x => a.cells x.1 ++ b.cells x.2
  | .unit, _ => []
def Sch.ok : (s : Sch) → s.Val → Prop
  | .bool, _ => True
  | .int k, n => (Lit.int k n).wf = true
  | .str, s => s.length ≤ 140737488351232
  | .sl s, (l : List s.Val) => l.length ≤ 140737488351232 ∧ ∀ x ∈ l, s.ok x
  | .st s, x => s.ok x
  | .arr n s, (l : List s.Val) => l.length = n ∧ ∀ x ∈ l, s.ok x
  | .pair a b, x => a.ok x.1 ∧ b.ok x.2
  | .unit, _ => True
mutual
/-- A type has this form. -/
def Sch.fit (P : Program) : Sch → TypeId → Prop
  | .bool, t => P.underlying t = some .bool
  | .int k, t => P.underlying t = some (.int k)
  | .str, t => P.underlying t = some .string
  | .sl s, t => ∃ e, P.underlying t = some (.slice e) ∧ s.fit P e ∧ P.cellsOf e = s.size ∧ 0 < s.size ∧ 0 < P.bytesOf e
  | .st s, t => ∃ fs : Array Field, P.underlying t = some (.struct fs) ∧ s.fitF P fs.toList 0 ∧ P.cellsOf t = s.size
  | .arr n s, t => ∃ e, P.underlying t = some (.array n e) ∧ s.fit P e ∧ P.cellsOf e = s.size ∧ P.cellsOf t = n * s.size
  | .pair _ _, _ => False
  | .unit, _ => False
def Sch.fitF (P : Program) : Sch → List Field → Nat → Prop
  | .unit, fs, _ => fs = []
  | .pair a b, fs, off => ∃ f rest, fs = f :: rest ∧ f.offset = off ∧ P.cellsOf f.type = a.size ∧ a.fit P f.type ∧ b.fitF P rest (off + a.size)
  | _, _, _ => False
end
theorem sch_len : ∀ (s : Sch) (x : s.Val), s.ok x → (s.cells x).length = s.size
  | .bool, _, _ => rfl
  | .int _, _, _ => rfl
  | .str, _, _ => rfl
  | .sl _, _, _ => rfl
  | .st s, x, h => sch_len s x h
  | .arr n s, (l : List s.Val), h => by
    obtain ⟨h1, h2⟩ : l.length = n ∧ ∀ x ∈ l, s.ok x := h
    show (l.flatMap s.cells).length = n * s.size
    subst h1
    induction l with
    | nil => simp
    | cons x l ih =>
      rw [List.flatMap_cons, List.length_append, sch_len s x (h2 x (by simp)), ih (fun y hy => h2 y (by simp [hy])), List.length_cons, Nat.add_mul, Nat.one_mul, Nat.add_comm]
  | .pair a b, x, h => by
    show (a.cells x.1 ++ b.cells x.2).length = a.size + b.size
    rw [List.length_append, sch_len a x.1 h.1, sch_len b x.2 h.2]
  | .unit, _, _ => rfl

theorem Row.append {c : Ctx} : ∀ (xs ys : List AV) (b o : Nat), Row c xs b o → Row c ys b (o + xs.length) → Row c (xs ++ ys) b o
  | [], _, _, _, _, h => h
  | x :: xs, ys, b, o, ⟨h1, h2⟩, h => ⟨h1, Row.append xs ys b (o + 1) h2 (by rw [List.length_cons] at h; rwa [show o + 1 + xs.length = o + (xs.length + 1) by omega])⟩
/-- Rows that stand one behind another. -/
theorem Row.flat {c : Ctx} {α : Type} (f : α → List AV) (n : Nat) : ∀ (l : List α) (b o : Nat), (∀ x ∈ l, (f x).length = n) → (∀ i (h : i < l.length), Row c (f l[i]) b (o + i * n)) → Row c (l.flatMap f) b o
  | [], _, _, _, _ => trivial
  | x :: l, b, o, hl, h => by
    rw [List.flatMap_cons]
    refine Row.append _ _ b o (by have := h 0 (by simp); rw [Nat.zero_mul] at this; exact this) ?_
    rw [hl x (by simp)]
    refine Row.flat f n l b (o + n) (fun y hy => hl y (by simp [hy])) fun i hi => ?_
    have := h (i + 1) (by simpa using hi)
    rw [List.getElem_cons_succ] at this
    rwa [show o + (i + 1) * n = o + n + i * n by rw [Nat.add_mul]; omega] at this
theorem RelL.flat {c : Ctx} {α : Type} (f : α → List AV) (n : Nat) : ∀ (l : List α) (cs : List Value), cs.length = l.length * n → (∀ i (h : i < l.length), RelL c (f l[i]) ((cs.drop (i * n)).take n)) → RelL c (l.flatMap f) cs
  | [], cs, hl, _ => by
    simp at hl
    subst hl
    exact rfl
  | x :: l, cs, hl, h => by
    rw [List.flatMap_cons, ← List.take_append_drop n cs]
    rw [List.length_cons, Nat.add_mul, Nat.one_mul] at hl
    refine RelL.append (by have := h 0 (by simp); rw [Nat.zero_mul, List.drop_zero] at this; exact this) (RelL.flat f n l _ (by rw [List.length_drop]; omega) fun i hi => ?_)
    have := h (i + 1) (by simpa using hi)
    rw [List.getElem_cons_succ] at this
    rwa [List.drop_drop, show n + i * n = (i + 1) * n by rw [Nat.add_mul]; omega]

theorem cells_get {w : World} {base : Nat} {a : Addr} {n : Nat} {cs : List Value} (h : w.cells? base a n = some cs) : cs.length = n ∧ ∀ i, i < n → w.cell? (a.add i) = cs[i]? := by
  unfold World.cells? at h
  split at h
  · exact ⟨by simpa using mapM_some_length h, fun i hi => mapM_some_get h i i (by simp [hi])⟩
  · cases h

theorem list_of {α : Type} (p : Nat → α → Prop) : ∀ (n : Nat), (∀ i, i < n → ∃ x, p i x) → ∃ l : List α, l.length = n ∧ ∀ i (h : i < l.length), p i l[i]
  | 0, _ => ⟨[], rfl, fun i h => by simp at h⟩
  | n + 1, h => by
    obtain ⟨l, h1, h2⟩ := list_of p n fun i hi => h i (by omega)
    obtain ⟨x, hx⟩ := h n (by omega)
    refine ⟨l ++ [x], by simp [h1], fun i hi => ?_⟩
    rw [List.getElem_append]
    split
    · exact h2 i _
    · rename_i hh
      have : i = n := by simp at hi; omega
      subst this
      simpa using hx

theorem weightsAll_mem {H : Type} {P : Program} {e : TypeId} : ∀ {l : List (DataW H)} {d : DataW H}, d ∈ l → ∀ n ∈ d.weights P e, n ∈ DataW.weightsAll P e l
  | [], _, h, _, _ => by simp at h
  | x :: l, d, h, n, hn => by
    simp only [DataW.weightsAll, List.mem_append]
    rcases List.mem_cons.1 h with rfl | h
    · exact .inl hn
    · exact .inr (weightsAll_mem h n hn)

section
variable {H : Type} {enc : TypeId × Value → H} {P : Program} {w : World} {base : Nat} {spare : Nat → Bool} {held : Bool}

mutual
/-- What the cells of such a type hold. -/
theorem Sch.read (c : Ctx) (hc : c.w = w) (hN : ∀ b, ¬ c.N b) : ∀ (s : Sch) (t : TypeId) (fuel : Nat) (cs : List Value) (d : DataW H) (ps : List MemPlace), s.fit P t → DataW.trod enc P w base spare held fuel t cs = some (d, ps) →
    (∀ n ∈ d.weights P t, n ≤ reachBytes) → ∃ x : s.Val, s.ok x ∧ RelL c (s.cells x) cs
  | .bool, t, fuel, cs, d, ps, hf, h, hw => by
    obtain ⟨b, rfl, _⟩ := DataW.trod_bool hf h
    exact ⟨b, trivial, _, _, rfl, rfl, rfl⟩
  | .int k, t, fuel, cs, d, ps, hf, h, hw => by
    obtain ⟨n, rfl, _, hn⟩ := DataW.trod_int hf h
    exact ⟨n, hn, _, _, rfl, rfl, rfl⟩
  | .str, t, fuel, cs, d, ps, hf, h, hw => by
    obtain ⟨s, rfl, hx, hn⟩ := DataW.trod_string hf h
    cases hx
    refine ⟨s.data.toList, hw _ (by simp [DataW.weights]), _, _, rfl, ?_, rfl⟩
    show Value.string s = .string ⟨s.data.toList.toArray⟩
    simp
  | .sl s, t, fuel, cs, d, ps, hf, h, hw => by
    obtain ⟨e, hu, hfe, hce, hpos, hby⟩ := hf
    rcases DataW.trod_slice hu h with ⟨rfl, _⟩ | ⟨a, len, cap, elems, rest, n, _, rfl, hx, hb, hl, hm, hlen, hel, _, _⟩
    · exact ⟨[], ⟨by simp, by simp⟩, _, _, rfl, ⟨none, 0, rfl, Nat.le_refl _, .inl rfl⟩, rfl⟩
    · cases hx
      have hlw : (elems.length + rest.length) * P.bytesOf e ≤ reachBytes := hw _ (by simp [DataW.weights, hu])
      have hlw2 : len ≤ 140737488351232 := by
        have h1 : elems.length + rest.length ≤ (elems.length + rest.length) * P.bytesOf e := Nat.le_mul_of_pos_right _ hby
        have h2 : reachBytes = 140737488351232 := rfl
        omega
      obtain ⟨l, hll, hlp⟩ := list_of (fun i (x : s.Val) => s.ok x ∧ ∃ cs, w.cells? base (a.add (i * P.cellsOf e)) (P.cellsOf e) = some cs ∧ RelL c (s.cells x) cs) len (by
        intro i hi
        have he := hel i hi
        rw [List.getElem?_eq_getElem (by omega), Option.bind_eq_some_iff] at he
        obtain ⟨cs, h1, h2⟩ := he
        obtain ⟨x, hx, hr⟩ := Sch.read c hc hN s e n cs _ _ hfe h2 (fun m hm => hw m (by
          simp only [DataW.weights, hu, List.mem_cons, List.mem_append]
          exact .inr (.inl (weightsAll_mem (List.mem_map.2 ⟨_, List.getElem_mem (by omega), rfl⟩) m hm))))
        exact ⟨x, hx, cs, h1, hr⟩)
      refine ⟨l, ⟨by omega, fun x hx => ?_⟩, _, _, rfl, ?_, rfl⟩
      · obtain ⟨i, hi, rfl⟩ := List.getElem_of_mem hx
        exact (hlp i hi).1
      · show Rel c (.isl (l.flatMap s.cells) l.length) (.slice (some a) len cap)
        refine ⟨some a, cap, by rw [hll], by omega, ?_⟩
        rcases Nat.eq_zero_or_pos l.length with h0 | h0
        · exact .inl h0
        · refine .inr ⟨a.block, a.off, ?_, ?_, hN _, ?_⟩
          · obtain ⟨_, cs, hcs, _⟩ := hlp 0 h0
            obtain ⟨q1, q2⟩ := cells_get hcs
            have q3 := q2 0 (by omega)
            rw [List.getElem?_eq_getElem (by omega)] at q3
            simp only [Nat.zero_mul, Addr.add, if_true] at q3
            obtain ⟨b, o, sp⟩ := a
            cases sp with
            | none => rfl
            | some _ => simp only [World.cell?] at q3; split at q3 <;> simp at q3
          · obtain ⟨_, cs, hcs, _⟩ := hlp 0 h0
            obtain ⟨q1, q2⟩ := cells_get hcs
            have q3 := q2 0 (by omega)
            rw [List.getElem?_eq_getElem (by omega)] at q3
            simp only [Nat.zero_mul, Addr.add, if_true, World.cell?] at q3
            rw [hc]
            rcases Nat.lt_or_ge a.block w.heap.size with q | q
            · exact q
            · rw [Array.getElem?_eq_none q] at q3; cases q3
          · refine Row.flat s.cells s.size l a.block a.off (fun x hx => ?_) fun i hi => ?_
            · obtain ⟨i, hi, rfl⟩ := List.getElem_of_mem hx
              exact sch_len s _ (hlp i hi).1
            · obtain ⟨_, cs, hcs, hr⟩ := hlp i hi
              obtain ⟨q1, q2⟩ := cells_get hcs
              refine row_of_get fun j x hx => ?_
              obtain ⟨y, hy, ry⟩ := hr.get hx
              refine ⟨y, ?_, ry⟩
              have hj : j < s.size := by
                have := lt_of_some hx
                rw [sch_len s _ (hlp i hi).1] at this
                exact this
              have q3 := q2 j (by omega)
              rw [hy, hce] at q3
              rw [hc, ← q3]
              have hsp : ∀ (p q : Addr), p.block = q.block → p.off = q.off → p.spot = none → (w.cell? q).isSome = true → w.cell? p = w.cell? q := by
                intro p q e1 e2 e3 e4
                simp only [World.cell?] at e4 ⊢
                rw [e1, e2, e3]
                split at e4
                · split at e4
                  · simp at e4
                  · rename_i hh; rw [if_neg hh]; simp
                · simp at e4
              refine hsp _ _ ?_ ?_ rfl (by rw [q3]; rfl)
              · simp only [Addr.add]; split <;> split <;> rfl
              · simp only [Addr.add]; split <;> split <;> simp_all <;> omega
  | .st s, t, fuel, cs, d, ps, hf, h, hw => by
    obtain ⟨fs, hu, hff, hsz⟩ := hf
    obtain ⟨xs, n, _, hx, hcl, hxl, hxs⟩ := DataW.trod_struct hu h
    cases hx
    have hxs' : ∀ (i : Nat) (f : Field), fs.toList[i]? = some f → DataW.trod enc P w base spare held n f.type ((cs.drop f.offset).take (P.cellsOf f.type)) = xs[i]? := fun i f hf => hxs i f (by rw [← Array.getElem?_toList]; exact hf)
    obtain ⟨x, hx, hr⟩ := Sch.readF c hc hN s fs.toList 0 n cs xs hff (by rw [hcl, hsz]; omega) (by simp [hxl]) hxs' (fun m hm => hw m (by simp only [DataW.weights, hu]; exact hm))
    exact ⟨x, hx, by rw [List.drop_zero] at hr; exact hr⟩
  | .arr n s, t, fuel, cs, d, ps, hf, h, hw => by
    obtain ⟨e, hu, hfe, hce, hsz⟩ := hf
    obtain ⟨xs, m, _, hx, hcl, hxl, hxs⟩ := DataW.trod_array hu h
    cases hx
    obtain ⟨l, hll, hlp⟩ := list_of (fun i (x : s.Val) => s.ok x ∧ RelL c (s.cells x) ((cs.drop (i * s.size)).take s.size)) n (by
      intro i hi
      have he := hxs i hi
      rw [List.getElem?_eq_getElem (by omega), hce] at he
      exact Sch.read c hc hN s e m _ _ _ hfe he (fun k hk => hw k (by
        simp only [DataW.weights, hu]
        exact weightsAll_mem (List.mem_map.2 ⟨_, List.getElem_mem (by omega), rfl⟩) k hk)))
    refine ⟨l, ⟨hll, fun x hx => ?_⟩, ?_⟩
    · obtain ⟨i, hi, rfl⟩ := List.getElem_of_mem hx
      exact (hlp i hi).1
    · exact RelL.flat s.cells s.size l cs (by rw [hcl, hsz, hll]) fun i hi => (hlp i hi).2
  | .pair _ _, _, _, _, _, _, hf, _, _ => hf.elim
  | .unit, _, _, _, _, _, hf, _, _ => hf.elim
theorem Sch.readF (c : Ctx) (hc : c.w = w) (hN : ∀ b, ¬ c.N b) : ∀ (s : Sch) (fs : List Field) (off : Nat) (n : Nat) (cs : List Value) (xs : List (DataW H × List MemPlace)), s.fitF P fs off → cs.length = off + s.size → xs.length = fs.length →
    (∀ (i : Nat) (f : Field), fs[i]? = some f → DataW.trod enc P w base spare held n f.type ((cs.drop f.offset).take (P.cellsOf f.type)) = xs[i]?) →
    (∀ n ∈ DataW.weightsEach P (fs.map (·.type)) (xs.map (·.1)), n ≤ reachBytes) → ∃ x : s.Val, s.ok x ∧ RelL c (s.cells x) (cs.drop off)
  | .unit, fs, off, n, cs, xs, hf, hl, _, h, hw => by
    refine ⟨(), trivial, ?_⟩
    rw [List.drop_of_length_le (by rw [hl]; exact Nat.le_refl _)]
    exact rfl
  | .pair a b, fs, off, n, cs, xs, hf, hl, hxl, h, hw => by
    obtain ⟨f, rest, rfl, rfl, hsz, hfa, hfb⟩ := hf
    cases xs with
    | nil => simp at hxl
    | cons y ys =>
      have h0 := h 0 f rfl
      simp only [List.getElem?_cons_zero] at h0
      obtain ⟨x, hx, hr⟩ := Sch.read c hc hN a f.type n _ y.1 y.2 hfa h0 (fun m hm => hw m (by simp only [List.map_cons, DataW.weightsEach, List.mem_append]; exact .inl hm))
      obtain ⟨x2, hx2, hr2⟩ := Sch.readF c hc hN b rest (f.offset + a.size) n cs ys hfb (by rw [hl]; show f.offset + (a.size + b.size) = _; omega) (by simpa using hxl) (fun i g hg => by simpa using h (i + 1) g (by simpa using hg)) (fun m hm => hw m (by simp only [List.map_cons, DataW.weightsEach, List.mem_append]; exact .inr hm))
      refine ⟨(x, x2), ⟨hx, hx2⟩, ?_⟩
      show RelL c (a.cells x ++ b.cells x2) (cs.drop f.offset)
      rw [← List.take_append_drop a.size (cs.drop f.offset), List.drop_drop]
      rw [hsz] at hr
      exact RelL.append hr hr2
  | .bool, _, _, _, _, _, hf, _, _, _, _ => hf.elim
  | .int _, _, _, _, _, _, hf, _, _, _, _ => hf.elim
  | .str, _, _, _, _, _, hf, _, _, _, _ => hf.elim
  | .sl _, _, _, _, _, _, hf, _, _, _, _ => hf.elim
  | .st _, _, _, _, _, _, hf, _, _, _, _ => hf.elim
  | .arr _ _, _, _, _, _, _, hf, _, _, _, _ => hf.elim
end
end

/-- A value that is handed in. -/
def Sch.arg : (s : Sch) → s.Val → AV
  | .bool, b => .bool b
  | .int k, n => .int k n
  | .str, s => .str s
  | .sl s, (l : List s.Val) => .isl (l.flatMap s.cells) l.length
  | .st s, x => .agg (s.cells x)
  | .arr _ s, (l : List s.Val) => .agg (l.flatMap s.cells)
  | .pair a b, x => .agg (a.cells x.1 ++ b.cells x.2)
  | .unit, _ => .agg []
theorem Sch.readArg {H : Type} {enc : TypeId × Value → H} {P : Program} {w : World} {base : Nat} {spare : Nat → Bool} {held : Bool} {r : Reach} {b0 : Nat} (s : Sch) {t : TypeId} {v : Value} {d : DataW H} {ps : List MemPlace} (hf : s.fit P t)
    (hval : Value.okWide P w r b0 t v) (h : DataW.Trod enc P w base spare held t v d ps) (hw : ∀ n ∈ d.weights P t, n ≤ reachBytes) :
    ∃ x : s.Val, s.ok x ∧ Rel (ctx (fun _ => False) (fun _ => 0) w []) (s.arg x) v := by
  obtain ⟨fuel, h⟩ := h
  obtain ⟨x, hx, hr⟩ := Sch.read (ctx (fun _ => False) (fun _ => 0) w []) rfl (by rintro b (⟨id, blk, hb, _⟩ | q); simp at hb; exact q) s t fuel _ d ps hf h hw
  refine ⟨x, hx, ?_⟩
  have one : ∀ a : AV, RelL (ctx (fun _ => False) (fun _ => 0) w []) [a] v.cells.toList → (∀ cs, v ≠ .agg cs) → Rel (ctx (fun _ => False) (fun _ => 0) w []) a v := by
    rintro a ⟨y, ys, e, ry, hys⟩ hne
    have hys' : ys = [] := hys
    subst hys'
    have : v.cells.toList = [v] := by
      cases v <;> first | rfl | exact absurd rfl (hne _)
    rw [this] at e
    simp only [List.cons.injEq, and_true] at e
    rw [e]; exact ry
  have agg : ∀ l : List AV, RelL (ctx (fun _ => False) (fun _ => 0) w []) l v.cells.toList → (∃ cs, v = .agg cs) → Rel (ctx (fun _ => False) (fun _ => 0) w []) (.agg l) v := by
    rintro l hl ⟨cs, rfl⟩
    exact ⟨cs, rfl, hl⟩
  cases s with
  | bool => exact one _ hr (fun cs e => by subst e; simp only [Sch.fit] at hf; simp only [Value.okWide, hf, Cell.okWide, Cell.ok] at hval)
  | int k => exact one _ hr (fun cs e => by subst e; simp only [Sch.fit] at hf; simp only [Value.okWide, hf, Cell.okWide, Cell.ok] at hval)
  | str => exact one _ hr (fun cs e => by subst e; simp only [Sch.fit] at hf; simp only [Value.okWide, hf, Cell.okWide, Cell.ok] at hval)
  | sl s => obtain ⟨e, hu, _⟩ := hf; exact one _ hr (fun cs e => by subst e; simp only [Value.okWide, hu, Cell.okWide, Cell.ok] at hval)
  | st s => obtain ⟨fs, hu, _⟩ := hf; simp only [Value.okWide, hu] at hval; obtain ⟨cs, e, _⟩ := hval; exact agg _ hr ⟨cs, e⟩
  | arr n s => obtain ⟨e, hu, _⟩ := hf; simp only [Value.okWide, hu] at hval; obtain ⟨cs, e, _⟩ := hval; exact agg _ hr ⟨cs, e⟩
  | pair a b => exact hf.elim
  | unit => exact hf.elim
theorem weights_of {H : Type} {P : Program} {ts : List TypeId} {ds : List (DataW H)} (h : (DataW.weightsEach P ts ds).all (· ≤ reachBytes) = true) {j : Nat} {t : TypeId} {d : DataW H} (ht : ts[j]? = some t) (hd : ds[j]? = some d) : ∀ n ∈ d.weights P t, n ≤ reachBytes := by
  intro n hn
  have := List.all_eq_true.1 h n (DataW.weights_mem_each ht hd n hn)
  simpa using this
theorem trodLt {H : Type} {enc : TypeId × Value → H} {P : Program} {w : World} {base : Nat} {spare : Nat → Bool} {held : Bool} {t : TypeId} {v : Value} {d : DataW H} {ps : List MemPlace} (h : DataW.Trod enc P w base spare held t v d ps) : ∀ x ∈ ps, x.block < w.heap.size := by
  obtain ⟨m, hm⟩ := h
  exact DataW.trod_lt m _ _ _ hm
end Go.AH
