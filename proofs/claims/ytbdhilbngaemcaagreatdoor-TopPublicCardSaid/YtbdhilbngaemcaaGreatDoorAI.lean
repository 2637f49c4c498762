/- The interpreter over abstract states, run by the kernel, and that it is sound. No condition. -/
import Derived.Test.YtbdhilbngaemcaaGreatDoorAG
import Derived.KernelRfl
import Derived.Test.YtbdhilbngaemcaaGreatDoorAF
import Derived.Defers
set_option linter.unusedVariables false
set_option linter.unusedSimpArgs false
namespace Go.AH
open Go
set_option linter.unusedVariables false
set_option linter.unusedSimpArgs false
/-! ### a part of a heap, by itself -/
abbrev OutH := AV × Heap
/-- The place of a number in a list. -/
def idx : List Nat → Nat → Nat → Option Nat
  | [], _, _ => none
  | j :: ms, k, i => if Nat.beq i j then some k else idx ms (k + 1) i
theorem idx_get : ∀ {ms : List Nat} {k i p : Nat}, idx ms k i = some p → k ≤ p ∧ ms[p - k]? = some i
  | [], _, _, _, h => by simp [idx] at h
  | j :: ms, k, i, p, h => by
    unfold idx at h
    split at h
    · rename_i hb
      simp only [Option.some.injEq] at h
      subst h
      have := Nat.eq_of_beq_eq_true hb
      subst this
      simp
    · obtain ⟨h1, h2⟩ := idx_get h
      refine ⟨by omega, ?_⟩
      rw [show p - k = (p - (k + 1)) + 1 by omega]
      simpa using h2
theorem idx_get0 {ms : List Nat} {i p : Nat} (h : idx ms 0 i = some p) : ms[p]? = some i := by simpa using (idx_get h).2
mutual
def renO (ms : List Nat) : AV → Option AV
  | .ptr id off => match idx ms 0 id with
    | some p => some (.ptr p off)
    | none => none
  | .sl id off len cap => match idx ms 0 id with
    | some p => some (.sl p off len cap)
    | none => none
  | .gsl id len esz => match idx ms 0 id with
    | some p => some (.gsl p len esz)
    | none => none
  | .map id => match idx ms 0 id with
    | some p => some (.map p)
    | none => none
  | .iptr cs => match renOL ms cs with
    | some cs => some (.iptr cs)
    | none => none
  | .isl cs len => match renOL ms cs with
    | some cs => some (.isl cs len)
    | none => none
  | .fn f caps => match renOL ms caps with
    | some caps => some (.fn f caps)
    | none => none
  | .bfn f caps => match renOL ms caps with
    | some caps => some (.bfn f caps)
    | none => none
  | .ifc t v => match renO ms v with
    | some v => some (.ifc t v)
    | none => none
  | .agg cs => match renOL ms cs with
    | some cs => some (.agg cs)
    | none => none
  | .tup cs => match renOL ms cs with
    | some cs => some (.tup cs)
    | none => none
  | .unk => some .unk
  | .bool b => some (.bool b)
  | .int k n => some (.int k n)
  | .str s => some (.str s)
  | .nilp => some .nilp
  | .nilsl => some .nilsl
  | .esl => some .esl
  | .nilm => some .nilm
  | .nilf => some .nilf
  | .nili => some .nili
  | .any k => some (.any k)
  | .lin k e => some (.lin k e)
  | .sym l => some (.sym l)
  | .gptr g off => some (.gptr g off)
  | .anyb => some .anyb
  | .atl k n => some (.atl k n)
  | .txt p j => some (.txt p j)
  | .oct p j => some (.oct p j)
  | .bstr a b => some (.bstr a b)
  | .osl id hi => match idx ms 0 id with
    | some p => some (.osl p hi)
    | none => none
  | .lnb id => match idx ms 0 id with
    | some p => some (.lnb p)
    | none => none
def renOL (ms : List Nat) : List AV → Option (List AV)
  | [] => some []
  | x :: xs => match renO ms x with
    | some x => match renOL ms xs with
      | some xs => some (x :: xs)
      | none => none
    | none => none
end
mutual
theorem renO_ren {ms : List Nat} {m : Nat → Nat} (hm : ∀ p i, ms[p]? = some i → m p = i) : ∀ {x y : AV}, renO ms x = some y → ren m y = x
  | .ptr id off, y, h => by
    unfold renO at h
    split at h <;> simp only [Option.some.injEq, reduceCtorEq] at h
    subst h
    rw [ren, hm _ _ (idx_get0 (by assumption))]
  | .sl id off len cap, y, h => by
    unfold renO at h
    split at h <;> simp only [Option.some.injEq, reduceCtorEq] at h
    subst h
    rw [ren, hm _ _ (idx_get0 (by assumption))]
  | .osl id hi, y, h => by
    unfold renO at h
    split at h <;> simp only [Option.some.injEq, reduceCtorEq] at h
    subst h
    rw [ren, hm _ _ (idx_get0 (by assumption))]
  | .lnb id, y, h => by
    unfold renO at h
    split at h <;> simp only [Option.some.injEq, reduceCtorEq] at h
    subst h
    rw [ren, hm _ _ (idx_get0 (by assumption))]
  | .gsl id len esz, y, h => by
    unfold renO at h
    split at h <;> simp only [Option.some.injEq, reduceCtorEq] at h
    subst h
    rw [ren, hm _ _ (idx_get0 (by assumption))]
  | .map id, y, h => by
    unfold renO at h
    split at h <;> simp only [Option.some.injEq, reduceCtorEq] at h
    subst h
    rw [ren, hm _ _ (idx_get0 (by assumption))]
  | .iptr cs, y, h => by
    unfold renO at h
    split at h <;> simp only [Option.some.injEq, reduceCtorEq] at h
    subst h
    rw [ren, renOL_ren hm (by assumption)]
  | .isl cs len, y, h => by
    unfold renO at h
    split at h <;> simp only [Option.some.injEq, reduceCtorEq] at h
    subst h
    rw [ren, renOL_ren hm (by assumption)]
  | .fn f cs, y, h => by
    unfold renO at h
    split at h <;> simp only [Option.some.injEq, reduceCtorEq] at h
    subst h
    rw [ren, renOL_ren hm (by assumption)]
  | .bfn f cs, y, h => by
    unfold renO at h
    split at h <;> simp only [Option.some.injEq, reduceCtorEq] at h
    subst h
    rw [ren, renOL_ren hm (by assumption)]
  | .ifc t v, y, h => by
    unfold renO at h
    split at h <;> simp only [Option.some.injEq, reduceCtorEq] at h
    subst h
    rw [ren, renO_ren hm (by assumption)]
  | .agg cs, y, h => by
    unfold renO at h
    split at h <;> simp only [Option.some.injEq, reduceCtorEq] at h
    subst h
    rw [ren, renOL_ren hm (by assumption)]
  | .tup cs, y, h => by
    unfold renO at h
    split at h <;> simp only [Option.some.injEq, reduceCtorEq] at h
    subst h
    rw [ren, renOL_ren hm (by assumption)]
  | .unk, y, h | .bool _, y, h | .int _ _, y, h | .str _, y, h | .nilp, y, h | .nilsl, y, h | .esl, y, h | .nilm, y, h | .nilf, y, h | .nili, y, h | .any _, y, h | .lin _ _, y, h | .sym _, y, h | .gptr _ _, y, h | .anyb, y, h | .atl _ _, y, h | .txt _ _, y, h | .oct _ _, y, h | .bstr _ _, y, h => by
    simp only [renO, Option.some.injEq] at h
    subst h
    rfl
theorem renOL_ren {ms : List Nat} {m : Nat → Nat} (hm : ∀ p i, ms[p]? = some i → m p = i) : ∀ {xs ys : List AV}, renOL ms xs = some ys → renL m ys = xs
  | [], ys, h => by simp only [renOL, Option.some.injEq] at h; subst h; rfl
  | x :: xs, ys, h => by
    unfold renOL at h
    split at h <;> try (cases h; done)
    split at h <;> simp only [Option.some.injEq, reduceCtorEq] at h
    subst h
    rw [renL, renO_ren hm (by assumption), renOL_ren hm (by assumption)]
end
def renOE (ms : List Nat) : List (AV × AV × Nat) → Option (List (AV × AV × Nat))
  | [] => some []
  | (k, v, b) :: es => match renO ms k, renO ms v with
    | some k, some v => match renOE ms es with
      | some es => some ((k, v, b) :: es)
      | none => none
    | _, _ => none
def renOB (ms : List Nat) : Blk → Option Blk
  | .row cs e wh => match renOL ms cs with
    | some cs => some (.row cs e wh)
    | none => none
  | .mp es clock => match renOE ms es with
    | some es => some (.mp es clock)
    | none => none
  | .siter s pos => some (.siter s pos)
  | .yiter s pos => some (.yiter s pos)
  | .ubytes e => some (.ubytes e)
theorem renOE_ren {ms : List Nat} {m : Nat → Nat} (hm : ∀ p i, ms[p]? = some i → m p = i) : ∀ {es es' : List (AV × AV × Nat)}, renOE ms es = some es' → (es'.map fun x => (ren m x.1, ren m x.2.1, x.2.2)) = es
  | [], es', h => by simp only [renOE, Option.some.injEq] at h; subst h; rfl
  | (k, v, b) :: es, es', h => by
    unfold renOE at h
    split at h <;> try (cases h; done)
    split at h <;> simp only [Option.some.injEq, reduceCtorEq] at h
    subst h
    rw [List.map_cons, renO_ren hm (by assumption), renO_ren hm (by assumption), renOE_ren hm (by assumption)]
theorem renOB_ren {ms : List Nat} {m : Nat → Nat} (hm : ∀ p i, ms[p]? = some i → m p = i) {b b' : Blk} (h : renOB ms b = some b') : renB m b' = b := by
  cases b <;> simp only [renOB] at h
  · split at h <;> simp only [Option.some.injEq, reduceCtorEq] at h
    subst h
    rw [renB, renOL_ren hm (by assumption)]
  · split at h <;> simp only [Option.some.injEq, reduceCtorEq] at h
    subst h
    rw [renB, renOE_ren hm (by assumption)]
  · simp only [Option.some.injEq] at h; subst h; rfl
  · simp only [Option.some.injEq] at h; subst h; rfl
  · simp only [Option.some.injEq] at h; subst h; rfl
/-- The blocks of a list, read by their places. -/
def subH (ms : List Nat) (h : Heap) : List Nat → Option Heap
  | [] => some []
  | i :: is => match h[i]? with
    | some (some b) => match renOB ms b with
      | some b => match subH ms h is with
        | some bs => some (some b :: bs)
        | none => none
      | none => none
    | some none => match subH ms h is with
      | some bs => some (none :: bs)
      | none => none
    | none => none
theorem subH_keeps {ms : List Nat} {m : Nat → Nat} (hm : ∀ p i, ms[p]? = some i → m p = i) {h : Heap} : ∀ {is : List Nat} {bs : Heap}, subH ms h is = some bs → Keeps m h is bs
  | [], bs, e => by simp only [subH, Option.some.injEq] at e; subst e; trivial
  | i :: is, bs, e => by
    unfold subH at e
    split at e
    · rename_i b hb
      split at e <;> try (cases e; done)
      rename_i b' hb'
      split at e <;> simp only [Option.some.injEq, reduceCtorEq] at e
      rename_i bs' hbs
      subst e
      exact ⟨by rw [hb, renOB_ren hm hb'], subH_keeps hm hbs⟩
    · rename_i hb
      split at e <;> simp only [Option.some.injEq, reduceCtorEq] at e
      rename_i bs' hbs
      subst e
      exact ⟨(List.getElem?_eq_some_iff.1 hb).1, subH_keeps hm hbs⟩
    · cases e
def memB (i : Nat) : List Nat → Bool
  | [] => false
  | j :: l => if Nat.beq i j then true else memB i l
theorem memB_mem {i : Nat} : ∀ {l : List Nat}, memB i l = false → i ∉ l
  | [], _ => by simp
  | j :: l, h => by
    unfold memB at h
    split at h
    · cases h
    · rename_i hb
      rw [List.mem_cons]
      rintro (rfl | q)
      · exact hb (Nat.beq_refl i)
      · exact memB_mem h q
def nodupB : List Nat → Bool
  | [] => true
  | i :: l => if memB i l then false else nodupB l
theorem nodupB_nodup : ∀ {l : List Nat}, nodupB l = true → l.Nodup
  | [], _ => List.nodup_nil
  | i :: l, h => by
    unfold nodupB at h
    split at h
    · cases h
    · rename_i hb
      exact List.nodup_cons.2 ⟨memB_mem (by simpa using hb), nodupB_nodup h⟩
/-- A call over a part of the heap, at the whole. -/
theorem ACalls.framed {P : Program} {f : FuncId} {args0 args : List AV} {h h0 h1 : Heap} {r1 : AV} (c : ACalls P f args0 h0 (fun r h' => r = .ret r1 ∧ h' = h1)) {ms : List Nat}
    (hargs : renOL ms args = some args0) (hh : subH ms h ms = some h0) (nd : nodupB ms = true) (hl : ms.length ≤ h1.length) :
    ACalls P f args h (fun r h' => r = .ret (ren (mf ms h.length) r1) ∧ h' = merge ms h h1) := by
  have hm : ∀ p i, ms[p]? = some i → mf ms h.length p = i := by
    intro p i hp
    have hlt := (List.getElem?_eq_some_iff.1 hp).1
    unfold mf
    rw [if_pos hlt, List.getD, hp]
    rfl
  obtain ⟨k1, k2⟩ := (subH_keeps hm hh).get
  refine c.frame ms [] k1 (nodupB_nodup nd) (fun i hi => ?_) (by simp) ?_ (fun k i b0 hk hb => (k2 k i hk).2 b0 hb) ?_
  · obtain ⟨k, hk⟩ := List.getElem?_of_mem hi
    exact (k2 k i hk).1
  · have e := renOL_ren hm hargs
    clear hargs c hh
    generalize mf ms h.length = m at *
    subst e
    induction args0 with
    | nil => trivial
    | cons x l ih =>
      refine ⟨.inl ?_, ih⟩
      unfold LeV
      split
      · trivial
      · rfl
  · rintro r0 h0' _ ⟨rfl, rfl⟩
    exact ⟨.inl rfl, rfl, rfl⟩
/-! ### what can be reached -/
mutual
def idsA : AV → List Nat → List Nat
  | .ptr id _, l => id :: l
  | .sl id _ _ _, l => id :: l
  | .gsl id _ _, l => id :: l
  | .osl id _, l => id :: l
  | .lnb id, l => id :: l
  | .map id, l => id :: l
  | .iptr cs, l => idsL cs l
  | .isl cs _, l => idsL cs l
  | .fn _ cs, l => idsL cs l
  | .bfn _ cs, l => idsL cs l
  | .ifc _ v, l => idsA v l
  | .agg cs, l => idsL cs l
  | .tup cs, l => idsL cs l
  | _, l => l
def idsL : List AV → List Nat → List Nat
  | [], l => l
  | x :: xs, l => idsA x (idsL xs l)
end
def idsE : List (AV × AV × Nat) → List Nat → List Nat
  | [], l => l
  | (k, v, _) :: es, l => idsA k (idsA v (idsE es l))
def idsB : Blk → List Nat → List Nat
  | .row cs _ _, l => idsL cs l
  | .mp es _, l => idsE es l
  | _, l => l
/-- Numbers that are new go behind the others. -/
def addNew : List Nat → List Nat → List Nat
  | [], ms => ms
  | i :: l, ms => if memB i ms then addNew l ms else addNew l (ms ++ [i])
/-- The blocks that can be reached from those of a list, which stand first. -/
def reach : Nat → Heap → List Nat → Nat → List Nat
  | 0, _, ms, _ => ms
  | n + 1, h, ms, k => match ms[k]? with
    | none => ms
    | some i => match h[i]? with
      | some (some b) => reach n h (addNew (idsB b []) ms) (k + 1)
      | _ => reach n h ms (k + 1)
def rangeB : Nat → List Nat → List Nat
  | 0, l => l
  | n + 1, l => rangeB n (n :: l)
/-- What a call leaves: its first blocks, and what can be reached. -/
def gc (n0 : Nat) (R : AV) (h : Heap) : Option OutH :=
  let ks := reach (h.length + 1) h (addNew (idsA R []) (List.range n0)) 0
  match renO ks R with
  | some r => match subH ks h ks with
    | some h1 => if nodupB ks then if (List.range n0).isPrefixOf ks then some (r, h1) else none else none
    | none => none
  | none => none
theorem gc_body {P : Program} {fn : Func} {n0 : Nat} {T : List AV} {h h1 : Heap} {R r : AV} (hr : aResults P fn.results.toList T h = some R) (hg : gc n0 R h = some (r, h1)) :
    (∃ R m r' h0, aResults P fn.results.toList T h = some R ∧ Weak n0 m [r'] h0 [R] h ∧ (AEnd.ret r' = .ret r ∧ h0 = h1)) ∧ n0 ≤ h1.length := by
  unfold gc at hg
  simp only at hg
  generalize reach (h.length + 1) h (addNew (idsA R []) (List.range n0)) 0 = ks at hg
  split at hg <;> try (cases hg; done)
  rename_i r' hr'
  split at hg <;> try (cases hg; done)
  rename_i h1' hh
  split at hg <;> try (cases hg; done)
  rename_i nd
  split at hg <;> simp only [Option.some.injEq, Prod.mk.injEq, reduceCtorEq] at hg
  rename_i hp
  obtain ⟨rfl, rfl⟩ := hg
  have hm : ∀ p i, ks[p]? = some i → pf ks h.length p = i := by
    intro p i hp
    unfold pf
    rw [List.getD, hp]
    rfl
  have hpre : List.range n0 <+: ks := List.isPrefixOf_iff_prefix.1 hp
  have hk := subH_keeps hm hh
  have w : Weak n0 (pf ks h.length) [r'] h1' [R] h := Weak.lit ks ⟨by
    have e := renO_ren hm hr'
    unfold LeV
    split
    · trivial
    · exact e, trivial⟩ hk (nodupB_nodup nd) hpre
  exact ⟨⟨R, _, r', h1', hr, w, rfl, rfl⟩, w.len⟩
end Go.AH
namespace Go.AH
open Go
set_option linter.unusedVariables false
set_option linter.unusedSimpArgs false
/-! ### what is left where a first block is given up, or handed back in a new place -/
def gcN (n0 : Nat) (R : AV) (h : Heap) : Option OutH := match R with
  | .gsl 0 len esz =>
    let ks := reach (h.length + 1) h (addNew (idsA R []) (List.range n0)) 0
    match subH ks h ks with
    | some h1 => match h1[0]? with
      | some (some b) => if nodupB ks then if (List.range n0).isPrefixOf ks then if 0 < n0 then some (.gsl ks.length len esz, h1.set 0 none ++ [some b]) else none else none else none
      | _ => none
    | none => none
  | R => match gc n0 R h with
    | some (r, h1) => some (r, h1.set 0 none)
    | none => none
theorem gcN_body {P : Program} {fn : Func} {n0 : Nat} {T : List AV} {h h1 : Heap} {R r : AV} (hr : aResults P fn.results.toList T h = some R) (hg : gcN n0 R h = some (r, h1)) :
    ∃ R m r' h0, aResults P fn.results.toList T h = some R ∧ Weak n0 m [r'] h0 [R] h ∧ (AEnd.ret r' = .ret r ∧ h0 = h1) := by
  unfold gcN at hg
  split at hg
  · rename_i len esz
    simp only at hg
    generalize reach (h.length + 1) h (addNew (idsA (.gsl 0 len esz) []) (List.range n0)) 0 = ks at hg
    split at hg <;> try (cases hg; done)
    rename_i h1' hh
    split at hg <;> try (cases hg; done)
    rename_i b hb
    split at hg <;> try (cases hg; done)
    rename_i nd
    split at hg <;> try (cases hg; done)
    rename_i hp
    split at hg <;> simp only [Option.some.injEq, Prod.mk.injEq, reduceCtorEq] at hg
    rename_i hn
    obtain ⟨rfl, rfl⟩ := hg
    have hpre : List.range n0 <+: ks := List.isPrefixOf_iff_prefix.1 hp
    have hm : ∀ p i, ks[p]? = some i → pf (ks ++ [0]) h.length p = i := by
      intro p i hp
      unfold pf
      rw [List.getD, List.getElem?_append_left (List.getElem?_eq_some_iff.1 hp).1, hp]
      rfl
    have hlast : pf (ks ++ [0]) h.length ks.length = 0 := by
      unfold pf
      rw [List.getD, List.getElem?_append_right (Nat.le_refl _)]
      simp
    have hk := subH_keeps hm hh
    obtain ⟨hl, hget⟩ := hk.get
    have h0k : ks[0]? = some 0 := by
      obtain ⟨tl, rfl⟩ := hpre
      rw [List.getElem?_append_left (by simpa using hn), List.getElem?_range hn]
    have hb0 : h[0]? = some (some (renB (pf (ks ++ [0]) h.length) b)) := (hget 0 0 h0k).2 b hb
    have ndk := nodupB_nodup nd
    have get1 : ∀ id b0, (h1'.set 0 none ++ [some b])[id]? = some (some b0) → (id = ks.length ∧ b0 = b) ∨ (id < ks.length ∧ id ≠ 0 ∧ h1'[id]? = some (some b0)) := by
      intro id b0 q
      rw [List.getElem?_append] at q
      rw [List.length_set] at q
      split at q
      · rename_i hlt
        right
        rw [List.getElem?_set] at q
        split at q
        · split at q <;> simp at q
        · rename_i hne
          exact ⟨by omega, fun z => hne z.symm, q⟩
      · rename_i hlt
        left
        have : id - h1'.length = 0 := by
          rcases Nat.eq_zero_or_pos (id - h1'.length) with z | z
          · exact z
          · rw [List.getElem?_eq_none (by simp; omega)] at q; cases q
        rw [this] at q
        simp at q
        exact ⟨by omega, q.symm⟩
    refine ⟨_, pf (ks ++ [0]) h.length, _, _, hr, ⟨⟨?_, trivial⟩, ?_, ?_, ?_, ?_, ?_, ?_⟩, rfl, rfl⟩
    · show ren _ (.gsl ks.length len esz) = _
      rw [ren, hlast]
    · intro id b0 q
      rcases get1 id b0 q with ⟨rfl, rfl⟩ | ⟨q1, q2, q3⟩
      · rw [hlast]; exact hb0
      · have := hget id _ (List.getElem?_eq_getElem q1)
        rw [hm id _ (List.getElem?_eq_getElem q1)]
        exact this.2 b0 q3
    · intro i j bi bj hi hj e
      rcases get1 i bi hi with ⟨rfl, rfl⟩ | ⟨q1, q2, q3⟩ <;> rcases get1 j bj hj with ⟨rfl, rfl⟩ | ⟨p1, p2, p3⟩
      · rfl
      · exfalso
        rw [hlast, hm j _ (List.getElem?_eq_getElem p1)] at e
        have h0 := h0k
        rw [List.getElem?_eq_getElem (by omega)] at h0
        simp only [Option.some.injEq] at h0
        exact p2 ((List.getElem_inj ndk).1 (by rw [h0, ← e]))
      · exfalso
        rw [hlast, hm i _ (List.getElem?_eq_getElem q1)] at e
        have h0 := h0k
        rw [List.getElem?_eq_getElem (by omega)] at h0
        simp only [Option.some.injEq] at h0
        exact q2 ((List.getElem_inj ndk).1 (by rw [h0, e]))
      · rw [hm i _ (List.getElem?_eq_getElem q1), hm j _ (List.getElem?_eq_getElem p1)] at e
        exact (List.getElem_inj ndk).1 e
    · intro id hid
      obtain ⟨tl, rfl⟩ := hpre
      exact hm id id (by rw [List.getElem?_append_left (by simpa using hid), List.getElem?_range hid])
    · obtain ⟨tl, rfl⟩ := hpre
      have := hl
      simp only [List.length_append, List.length_range, List.length_set, List.length_singleton] at this ⊢
      omega
    · intro id hid
      simp only [List.length_append, List.length_set, List.length_singleton] at hid
      rcases Nat.lt_or_ge id ks.length with q | q
      · rw [hm id _ (List.getElem?_eq_getElem q)]
        exact (hget id _ (List.getElem?_eq_getElem q)).1
      · have : id = ks.length := by omega
        rw [this, hlast]
        exact lt_of_some hb0
    · intro id hid
      simp only [List.length_append, List.length_set, List.length_singleton]
      rcases Nat.lt_or_ge id (ks.length + 1) with q | q
      · omega
      · unfold pf at hid
        rw [List.getD, List.getElem?_eq_none (by simp; omega)] at hid
        simp only [Option.getD_none] at hid
        omega
  · split at hg <;> simp only [Option.some.injEq, Prod.mk.injEq, reduceCtorEq] at hg
    rename_i r1 h2 hgc
    obtain ⟨rfl, rfl⟩ := hg
    obtain ⟨R', m, r', h0, e1, k, e2, e3⟩ := (gc_body hr hgc).1
    cases e2
    subst e3
    have sub : ∀ (id : Nat) (b0 : Blk), (h0.set 0 none)[id]? = some (some b0) → h0[id]? = some (some b0) := by
      intro id b0 q
      rw [List.getElem?_set] at q
      split at q
      · split at q <;> simp at q
      · exact q
    exact ⟨R', m, _, _, e1, ⟨k.vals, fun id b0 q => k.blk id b0 (sub id b0 q), fun i j bi bj hi hj e => k.inj i j bi bj (sub i bi hi) (sub j bj hj) e, k.fix, by rw [List.length_set]; exact k.len, fun id hid => k.lt id (by rwa [List.length_set] at hid), fun id hid => by rw [List.length_set]; exact k.out id hid⟩, rfl, rfl⟩
end Go.AH
namespace Go.AH
open Go
set_option linter.unusedVariables false
set_option linter.unusedSimpArgs false
/-! ### equality -/
def eqBytes : List UInt8 → List UInt8 → Bool
  | [], [] => true
  | x :: xs, y :: ys => if Nat.beq x.toNat y.toNat then eqBytes xs ys else false
  | _, _ => false
theorem eqBytes_eq : ∀ {x y : List UInt8}, eqBytes x y = true → x = y
  | [], [], _ => rfl
  | [], _ :: _, h => by simp [eqBytes] at h
  | _ :: _, [], h => by simp [eqBytes] at h
  | x :: xs, y :: ys, h => by
    unfold eqBytes at h
    split at h
    · rename_i hb
      rw [UInt8.toNat_inj.1 (Nat.eq_of_beq_eq_true hb), eqBytes_eq h]
    · cases h
theorem cond_eq_true_iff' {a b : Bool} : ((bif a then b else false) = true) = (a = true ∧ b = true) := by cases a <;> simp
mutual
def eqAV : AV → AV → Bool
  | .unk , y => match y with
    | .unk  => true
    | _ => false
  | .nilp , y => match y with
    | .nilp  => true
    | _ => false
  | .nilsl , y => match y with
    | .nilsl  => true
    | _ => false
  | .esl , y => match y with
    | .esl  => true
    | _ => false
  | .nilm , y => match y with
    | .nilm  => true
    | _ => false
  | .nilf , y => match y with
    | .nilf  => true
    | _ => false
  | .nili , y => match y with
    | .nili  => true
    | _ => false
  | .anyb , y => match y with
    | .anyb  => true
    | _ => false
  | .bool x0, y => match y with
    | .bool y0 => (x0 == y0)
    | _ => false
  | .int x0 x1, y => match y with
    | .int y0 y1 => bif decide (x0 = y0) then decide (x1 = y1) else false
    | _ => false
  | .str x0, y => match y with
    | .str y0 => eqBytes x0 y0
    | _ => false
  | .ptr x0 x1, y => match y with
    | .ptr y0 y1 => bif Nat.beq x0 y0 then Nat.beq x1 y1 else false
    | _ => false
  | .iptr x0, y => match y with
    | .iptr y0 => eqAL x0 y0
    | _ => false
  | .sl x0 x1 x2 x3, y => match y with
    | .sl y0 y1 y2 y3 => bif Nat.beq x0 y0 then bif Nat.beq x1 y1 then bif Nat.beq x2 y2 then decide (x3 = y3) else false else false else false
    | _ => false
  | .gsl x0 x1 x2, y => match y with
    | .gsl y0 y1 y2 => bif Nat.beq x0 y0 then bif Nat.beq x1 y1 then Nat.beq x2 y2 else false else false
    | _ => false
  | .isl x0 x1, y => match y with
    | .isl y0 y1 => bif eqAL x0 y0 then Nat.beq x1 y1 else false
    | _ => false
  | .map x0, y => match y with
    | .map y0 => Nat.beq x0 y0
    | _ => false
  | .fn x0 x1, y => match y with
    | .fn y0 y1 => bif decide (x0 = y0) then eqAL x1 y1 else false
    | _ => false
  | .bfn x0 x1, y => match y with
    | .bfn y0 y1 => bif decide (x0 = y0) then eqAL x1 y1 else false
    | _ => false
  | .ifc x0 x1, y => match y with
    | .ifc y0 y1 => bif Nat.beq x0 y0 then eqAV x1 y1 else false
    | _ => false
  | .agg x0, y => match y with
    | .agg y0 => eqAL x0 y0
    | _ => false
  | .tup x0, y => match y with
    | .tup y0 => eqAL x0 y0
    | _ => false
  | .any x0, y => match y with
    | .any y0 => decide (x0 = y0)
    | _ => false
  | .lin x0 x1, y => match y with
    | .lin y0 y1 => bif decide (x0 = y0) then decide (x1 = y1) else false
    | _ => false
  | .sym x0, y => match y with
    | .sym y0 => decide (x0 = y0)
    | _ => false
  | .gptr x0 x1, y => match y with
    | .gptr y0 y1 => bif Nat.beq x0 y0 then Nat.beq x1 y1 else false
    | _ => false
  | .atl x0 x1, y => match y with
    | .atl y0 y1 => bif decide (x0 = y0) then Nat.beq x1 y1 else false
    | _ => false
  | .txt x0 x1, y => match y with
    | .txt y0 y1 => bif eqBytes x0 y0 then Nat.beq x1 y1 else false
    | _ => false
  | .bstr x0 x1, y => match y with
    | .bstr y0 y1 => bif Nat.beq x0 y0 then Nat.beq x1 y1 else false
    | _ => false
  | .oct x0 x1, y => match y with
    | .oct y0 y1 => bif Nat.beq x0 y0 then Nat.beq x1 y1 else false
    | _ => false
  | .osl x0 x1, y => match y with
    | .osl y0 y1 => bif Nat.beq x0 y0 then Nat.beq x1 y1 else false
    | _ => false
  | .lnb x0, y => match y with
    | .lnb y0 => Nat.beq x0 y0
    | _ => false
def eqAL : List AV → List AV → Bool
  | [], y => match y with
    | [] => true
    | _ => false
  | x :: xs, y => match y with
    | y :: ys => bif eqAV x y then eqAL xs ys else false
    | _ => false
end
mutual
theorem eqAV_eq : ∀ {x y : AV}, eqAV x y = true → x = y
  | .unk , y, h => by
    unfold eqAV at h
    split at h <;> try (cases h; done)
    rfl
  | .nilp , y, h => by
    unfold eqAV at h
    split at h <;> try (cases h; done)
    rfl
  | .nilsl , y, h => by
    unfold eqAV at h
    split at h <;> try (cases h; done)
    rfl
  | .esl , y, h => by
    unfold eqAV at h
    split at h <;> try (cases h; done)
    rfl
  | .nilm , y, h => by
    unfold eqAV at h
    split at h <;> try (cases h; done)
    rfl
  | .nilf , y, h => by
    unfold eqAV at h
    split at h <;> try (cases h; done)
    rfl
  | .nili , y, h => by
    unfold eqAV at h
    split at h <;> try (cases h; done)
    rfl
  | .anyb , y, h => by
    unfold eqAV at h
    split at h <;> try (cases h; done)
    rfl
  | .bool x0, y, h => by
    unfold eqAV at h
    split at h <;> try (cases h; done)
    have h0 := h
    rw [eq_of_beq h0]
  | .int x0 x1, y, h => by
    unfold eqAV at h
    split at h <;> try (cases h; done)
    simp only [cond_eq_true_iff'] at h
    obtain ⟨h0, h1⟩ := h
    rw [of_decide_eq_true h0, of_decide_eq_true h1]
  | .str x0, y, h => by
    unfold eqAV at h
    split at h <;> try (cases h; done)
    have h0 := h
    rw [eqBytes_eq h0]
  | .ptr x0 x1, y, h => by
    unfold eqAV at h
    split at h <;> try (cases h; done)
    simp only [cond_eq_true_iff'] at h
    obtain ⟨h0, h1⟩ := h
    rw [Nat.eq_of_beq_eq_true h0, Nat.eq_of_beq_eq_true h1]
  | .iptr x0, y, h => by
    unfold eqAV at h
    split at h <;> try (cases h; done)
    have h0 := h
    rw [eqAL_eq h0]
  | .sl x0 x1 x2 x3, y, h => by
    unfold eqAV at h
    split at h <;> try (cases h; done)
    simp only [cond_eq_true_iff'] at h
    obtain ⟨h0, h1, h2, h3⟩ := h
    rw [Nat.eq_of_beq_eq_true h0, Nat.eq_of_beq_eq_true h1, Nat.eq_of_beq_eq_true h2, of_decide_eq_true h3]
  | .gsl x0 x1 x2, y, h => by
    unfold eqAV at h
    split at h <;> try (cases h; done)
    simp only [cond_eq_true_iff'] at h
    obtain ⟨h0, h1, h2⟩ := h
    rw [Nat.eq_of_beq_eq_true h0, Nat.eq_of_beq_eq_true h1, Nat.eq_of_beq_eq_true h2]
  | .isl x0 x1, y, h => by
    unfold eqAV at h
    split at h <;> try (cases h; done)
    simp only [cond_eq_true_iff'] at h
    obtain ⟨h0, h1⟩ := h
    rw [eqAL_eq h0, Nat.eq_of_beq_eq_true h1]
  | .map x0, y, h => by
    unfold eqAV at h
    split at h <;> try (cases h; done)
    have h0 := h
    rw [Nat.eq_of_beq_eq_true h0]
  | .fn x0 x1, y, h => by
    unfold eqAV at h
    split at h <;> try (cases h; done)
    simp only [cond_eq_true_iff'] at h
    obtain ⟨h0, h1⟩ := h
    rw [of_decide_eq_true h0, eqAL_eq h1]
  | .bfn x0 x1, y, h => by
    unfold eqAV at h
    split at h <;> try (cases h; done)
    simp only [cond_eq_true_iff'] at h
    obtain ⟨h0, h1⟩ := h
    rw [of_decide_eq_true h0, eqAL_eq h1]
  | .ifc x0 x1, y, h => by
    unfold eqAV at h
    split at h <;> try (cases h; done)
    simp only [cond_eq_true_iff'] at h
    obtain ⟨h0, h1⟩ := h
    rw [Nat.eq_of_beq_eq_true h0, eqAV_eq h1]
  | .agg x0, y, h => by
    unfold eqAV at h
    split at h <;> try (cases h; done)
    have h0 := h
    rw [eqAL_eq h0]
  | .tup x0, y, h => by
    unfold eqAV at h
    split at h <;> try (cases h; done)
    have h0 := h
    rw [eqAL_eq h0]
  | .any x0, y, h => by
    unfold eqAV at h
    split at h <;> try (cases h; done)
    have h0 := h
    rw [of_decide_eq_true h0]
  | .lin x0 x1, y, h => by
    unfold eqAV at h
    split at h <;> try (cases h; done)
    simp only [cond_eq_true_iff'] at h
    obtain ⟨h0, h1⟩ := h
    rw [of_decide_eq_true h0, of_decide_eq_true h1]
  | .sym x0, y, h => by
    unfold eqAV at h
    split at h <;> try (cases h; done)
    have h0 := h
    rw [of_decide_eq_true h0]
  | .gptr x0 x1, y, h => by
    unfold eqAV at h
    split at h <;> try (cases h; done)
    simp only [cond_eq_true_iff'] at h
    obtain ⟨h0, h1⟩ := h
    rw [Nat.eq_of_beq_eq_true h0, Nat.eq_of_beq_eq_true h1]
  | .atl x0 x1, y, h => by
    unfold eqAV at h
    split at h <;> try (cases h; done)
    simp only [cond_eq_true_iff'] at h
    obtain ⟨h0, h1⟩ := h
    rw [of_decide_eq_true h0, Nat.eq_of_beq_eq_true h1]
  | .txt x0 x1, y, h => by
    unfold eqAV at h
    split at h <;> try (cases h; done)
    simp only [cond_eq_true_iff'] at h
    obtain ⟨h0, h1⟩ := h
    rw [eqBytes_eq h0, Nat.eq_of_beq_eq_true h1]
  | .bstr x0 x1, y, h => by
    unfold eqAV at h
    split at h <;> try (cases h; done)
    simp only [cond_eq_true_iff'] at h
    obtain ⟨h0, h1⟩ := h
    rw [Nat.eq_of_beq_eq_true h0, Nat.eq_of_beq_eq_true h1]
  | .oct x0 x1, y, h => by
    unfold eqAV at h
    split at h <;> try (cases h; done)
    simp only [cond_eq_true_iff'] at h
    obtain ⟨h0, h1⟩ := h
    rw [Nat.eq_of_beq_eq_true h0, Nat.eq_of_beq_eq_true h1]
  | .osl x0 x1, y, h => by
    unfold eqAV at h
    split at h <;> try (cases h; done)
    simp only [cond_eq_true_iff'] at h
    obtain ⟨h0, h1⟩ := h
    rw [Nat.eq_of_beq_eq_true h0, Nat.eq_of_beq_eq_true h1]
  | .lnb x0, y, h => by
    unfold eqAV at h
    split at h <;> try (cases h; done)
    rw [Nat.eq_of_beq_eq_true h]
theorem eqAL_eq : ∀ {x y : List AV}, eqAL x y = true → x = y
  | [], y, h => by
    unfold eqAL at h
    split at h <;> try (cases h; done)
    rfl
  | x :: xs, y, h => by
    unfold eqAL at h
    split at h <;> try (cases h; done)
    simp only [cond_eq_true_iff'] at h
    rw [eqAV_eq h.1, eqAL_eq h.2]
end


def eqE : List (AV × AV × Nat) → List (AV × AV × Nat) → Bool
  | [], [] => true
  | (k, v, b) :: es, (k', v', b') :: es' => bif eqAV k k' then bif eqAV v v' then bif Nat.beq b b' then eqE es es' else false else false else false
  | _, _ => false
theorem eqE_eq : ∀ {x y : List (AV × AV × Nat)}, eqE x y = true → x = y
  | [], [], _ => rfl
  | [], _ :: _, h => by simp [eqE] at h
  | _ :: _, [], h => by simp [eqE] at h
  | (k, v, b) :: es, (k', v', b') :: es', h => by
    simp only [eqE, cond_eq_true_iff'] at h
    obtain ⟨h1, h2, h3, h4⟩ := h
    rw [eqAV_eq h1, eqAV_eq h2, Nat.eq_of_beq_eq_true h3, eqE_eq h4]
def eqBk : Blk → Blk → Bool
  | .row a e w, y => match y with
    | .row b f v => bif Nat.beq e f then bif w == v then eqAL a b else false else false
    | _ => false
  | .mp a n, y => match y with
    | .mp b m => bif Nat.beq n m then eqE a b else false
    | _ => false
  | .siter a n, y => match y with
    | .siter b m => bif Nat.beq n m then eqBytes a b else false
    | _ => false
  | .yiter a n, y => match y with
    | .yiter b m => bif Nat.beq n m then decide (a = b) else false
    | _ => false
  | .ubytes e, y => match y with
    | .ubytes f => Nat.beq e f
    | _ => false
theorem eqBk_eq {x y : Blk} (h : eqBk x y = true) : x = y := by
  cases x <;> simp only [eqBk] at h <;> split at h <;> try (cases h; done)
  · simp only [cond_eq_true_iff'] at h
    rw [Nat.eq_of_beq_eq_true h.1, eq_of_beq h.2.1, eqAL_eq h.2.2]
  · simp only [cond_eq_true_iff'] at h
    rw [Nat.eq_of_beq_eq_true h.1, eqE_eq h.2]
  · simp only [cond_eq_true_iff'] at h
    rw [Nat.eq_of_beq_eq_true h.1, eqBytes_eq h.2]
  · simp only [cond_eq_true_iff'] at h
    rw [Nat.eq_of_beq_eq_true h.1, of_decide_eq_true h.2]
  · rw [Nat.eq_of_beq_eq_true h]
def eqH : Heap → Heap → Bool
  | [], y => match y with
    | [] => true
    | _ => false
  | none :: h, y => match y with
    | none :: g => eqH h g
    | _ => false
  | some a :: h, y => match y with
    | some b :: g => bif eqBk a b then eqH h g else false
    | _ => false
theorem eqH_eq : ∀ {x y : Heap}, eqH x y = true → x = y
  | [], y, h => by
    unfold eqH at h
    split at h <;> try (cases h; done)
    rfl
  | none :: x, y, h => by
    unfold eqH at h
    split at h <;> try (cases h; done)
    rw [eqH_eq h]
  | some a :: x, y, h => by
    unfold eqH at h
    split at h <;> try (cases h; done)
    simp only [cond_eq_true_iff'] at h
    rw [eqBk_eq h.1, eqH_eq h.2]
def eqOut (x y : OutH) : Bool := bif eqAV x.1 y.1 then eqH x.2 y.2 else false
theorem eqOut_eq {x y : OutH} (h : eqOut x y = true) : x = y := by
  simp only [eqOut, cond_eq_true_iff'] at h
  exact Prod.ext (eqAV_eq h.1) (eqH_eq h.2)
/-- Two answers that must be one. -/
def both (a b : Option OutH) : Option OutH := match a with
  | some x => match b with
    | some y => bif eqOut x y then some x else none
    | none => none
  | none => none
theorem both_some {a b : Option OutH} {r : OutH} (h : both a b = some r) : a = some r ∧ b = some r := by
  unfold both at h
  split at h <;> try (cases h; done)
  split at h <;> try (cases h; done)
  rename_i _ x _ y
  cases hb : eqOut x y with
  | false => rw [hb] at h; cases h
  | true =>
    rw [hb] at h
    simp only [cond_true, Option.some.injEq] at h
    subst h
    rw [eqOut_eq hb]
    exact ⟨rfl, rfl⟩
end Go.AH
namespace Go.AH
open Go
set_option linter.unusedVariables false
set_option linter.unusedSimpArgs false
/-! ### slots by a tree -/
inductive TT where
  | out
  | lf (v : AV)
  | nd (k : Nat) (l r : TT)
noncomputable def tget (t : TT) (i : Nat) : AV := TT.rec (motive := fun _ => AV) .unk (fun v => v) (fun k _ _ gl gr => Bool.rec gl gr (Nat.ble k i)) t
noncomputable def tset (t : TT) (i : Nat) (v : AV) : TT := TT.rec (motive := fun _ => TT) .out (fun _ => .lf v) (fun k l r sl sr => Bool.rec (.nd k sl r) (.nd k l sr) (Nat.ble k i)) t
/-- Slots from lo on, of n, that hold nothing. -/
noncomputable def tblank (d lo n : Nat) : TT := Nat.rec (motive := fun _ => Nat → TT) (fun lo => Bool.rec .out (.lf (.tup [])) (Nat.ble (lo + 1) n)) (fun d ih lo => .nd (lo + 2 ^ d) (ih lo) (ih (lo + 2 ^ d))) d lo
noncomputable def troot (n : Nat) : TT := .nd (2 ^ (Nat.log2 n + 1)) (tblank (Nat.log2 n + 1) 0 n) .out
noncomputable def targs (xs : List AV) (i : Nat) (t : TT) : TT := List.rec (motive := fun _ => Nat → TT → TT) (fun _ t => t) (fun x _ ih i t => ih (i + 1) (tset t i x)) xs i t
def toL : TT → List AV
  | .out => []
  | .lf v => [v]
  | .nd _ l r => toL l ++ toL r
/-- The tree's slots are those from lo to hi, or fewer at its end. -/
def wfT : TT → Nat → Nat → Prop
  | .out, lo, hi => lo ≤ hi
  | .lf _, lo, hi => hi = lo + 1
  | .nd k l r, lo, hi => wfT l lo k ∧ wfT r k hi ∧ ((toL l).length = k - lo ∨ toL r = [])
theorem wfT.le : ∀ {t : TT} {lo hi : Nat}, wfT t lo hi → lo ≤ hi
  | .out, _, _, h => h
  | .lf _, _, _, h => by unfold wfT at h; omega
  | .nd _ _ _, _, _, h => Nat.le_trans h.1.le h.2.1.le
theorem wfT.len : ∀ {t : TT} {lo hi : Nat}, wfT t lo hi → (toL t).length ≤ hi - lo
  | .out, _, _, h => Nat.zero_le _
  | .lf _, _, _, h => by unfold wfT at h; simp [toL]; omega
  | .nd k l r, lo, hi, h => by
    have h1 := h.1.len
    have h2 := h.2.1.len
    have h3 := h.1.le
    have h4 := h.2.1.le
    simp only [toL, List.length_append]
    omega
theorem gD_out {α : Type} {l : List α} {i : Nat} {d : α} (h : l.length ≤ i) : l.getD i d = d := by rw [List.getD, List.getElem?_eq_none h]; rfl
theorem gD_left {α : Type} {l r : List α} {i : Nat} {d : α} (h : i < l.length) : (l ++ r).getD i d = l.getD i d := by rw [List.getD, List.getD, List.getElem?_append_left h]
theorem gD_right {α : Type} {l r : List α} {i : Nat} {d : α} (h : l.length ≤ i) : (l ++ r).getD i d = r.getD (i - l.length) d := by rw [List.getD, List.getD, List.getElem?_append_right h]
theorem set_out {α : Type} {l : List α} {i : Nat} {v : α} (h : l.length ≤ i) : l.set i v = l := List.set_eq_of_length_le h
theorem toL_out : toL .out = [] := rfl
theorem toL_nd (k : Nat) (l r : TT) : toL (.nd k l r) = toL l ++ toL r := rfl
theorem tget_nd (k : Nat) (l r : TT) (i : Nat) : tget (.nd k l r) i = if k ≤ i then tget r i else tget l i := by
  have e : tget (.nd k l r) i = Bool.rec (motive := fun _ => AV) (tget l i) (tget r i) (Nat.ble k i) := rfl
  rw [e]
  cases h : Nat.ble k i
  · rw [if_neg (by intro q; rw [Nat.ble_eq_true_of_le q] at h; cases h)]
  · rw [if_pos (Nat.le_of_ble_eq_true h)]
theorem tset_nd (k : Nat) (l r : TT) (i : Nat) (v : AV) : tset (.nd k l r) i v = if k ≤ i then .nd k l (tset r i v) else .nd k (tset l i v) r := by
  have e : tset (.nd k l r) i v = Bool.rec (motive := fun _ => TT) (TT.nd k (tset l i v) r) (TT.nd k l (tset r i v)) (Nat.ble k i) := rfl
  rw [e]
  cases h : Nat.ble k i
  · rw [if_neg (by intro q; rw [Nat.ble_eq_true_of_le q] at h; cases h)]
  · rw [if_pos (Nat.le_of_ble_eq_true h)]
theorem tget_spec : ∀ {t : TT} {lo hi i : Nat}, wfT t lo hi → lo ≤ i → i < hi → tget t i = (toL t).getD (i - lo) .unk
  | .out, _, _, _, _, _, _ => by simp [toL]; rfl
  | .lf v, lo, hi, i, h, h1, h2 => by
    unfold wfT at h
    have : i - lo = 0 := by omega
    rw [this]; rfl
  | .nd k l r, lo, hi, i, ⟨ha, hb, hc⟩, h1, h2 => by
    rw [tget_nd, toL]
    have l1 := ha.len
    have l2 := ha.le
    split
    · rename_i hk
      rw [tget_spec hb hk h2]
      rcases hc with hc | hc
      · rw [gD_right (by omega)]
        congr 1; omega
      · rw [hc, List.append_nil, gD_out (l := toL l) (by omega), gD_out (l := ([] : List AV)) (Nat.zero_le _)]
    · rename_i hk
      rw [tget_spec ha h1 (by omega)]
      rcases hc with hc | hc
      · rw [gD_left (by omega)]
      · rw [hc, List.append_nil]
theorem tset_spec : ∀ {t : TT} {lo hi i : Nat} {v : AV}, wfT t lo hi → lo ≤ i → i < hi → wfT (tset t i v) lo hi ∧ toL (tset t i v) = (toL t).set (i - lo) v
  | .out, _, _, _, _, h, _, _ => ⟨h, rfl⟩
  | .lf v, lo, hi, i, _, h, h1, h2 => by
    unfold wfT at h
    have : i - lo = 0 := by omega
    rw [this]
    exact ⟨h, rfl⟩
  | .nd k l r, lo, hi, i, v, ⟨ha, hb, hc⟩, h1, h2 => by
    rw [tset_nd]
    have l1 := ha.len
    have l2 := ha.le
    split
    · rename_i hk
      obtain ⟨w1, w2⟩ := tset_spec (v := v) hb hk h2
      refine ⟨⟨ha, w1, ?_⟩, ?_⟩
      · rcases hc with hc | hc
        · exact .inl hc
        · right; rw [w2, hc]; rfl
      · rw [toL, toL, w2]
        rcases hc with hc | hc
        · rw [List.set_append_right _ _ (by omega)]
          congr 2; omega
        · rw [hc, List.append_nil, set_out (l := toL l) (by omega)]
          simp
    · rename_i hk
      obtain ⟨w1, w2⟩ := tset_spec (v := v) ha h1 (by omega)
      refine ⟨⟨w1, hb, ?_⟩, ?_⟩
      · rw [w2, List.length_set]; exact hc
      · rw [toL, toL, w2]
        rcases hc with hc | hc
        · rw [List.set_append_left _ _ (by omega)]
        · rw [hc, List.append_nil, List.append_nil]
/-- A tree of all slots. -/
def Root (t : TT) : Prop := ∃ k l, t = .nd k l .out ∧ wfT l 0 k
theorem Root.get {t : TT} (h : Root t) (i : Nat) : tget t i = (toL t).getD i .unk := by
  obtain ⟨k, l, rfl, hw⟩ := h
  rw [tget_nd, toL_nd, toL_out, List.append_nil]
  have := hw.len
  split
  · rw [gD_out (by omega)]; rfl
  · rw [tget_spec hw (Nat.zero_le _) (by omega)]; rfl
theorem Root.set {t : TT} (h : Root t) (i : Nat) (v : AV) : Root (tset t i v) ∧ toL (tset t i v) = (toL t).set i v := by
  obtain ⟨k, l, rfl, hw⟩ := h
  rw [tset_nd, toL_nd, toL_out, List.append_nil]
  have := hw.len
  split
  · refine ⟨⟨k, l, rfl, hw⟩, ?_⟩
    rw [set_out (l := toL l) (by omega), toL_nd]
    show toL l ++ [] = _
    rw [List.append_nil]
  · obtain ⟨w1, w2⟩ := tset_spec (v := v) (i := i) hw (Nat.zero_le _) (by omega)
    refine ⟨⟨k, _, rfl, w1⟩, ?_⟩
    rw [toL_nd, toL_out, List.append_nil, w2]; rfl
theorem tblank_spec (n : Nat) : ∀ (d lo : Nat), wfT (tblank d lo n) lo (lo + 2 ^ d) ∧ toL (tblank d lo n) = List.replicate (min (2 ^ d) (n - lo)) (.tup [])
  | 0, lo => by
    show wfT (Bool.rec (motive := fun _ => TT) .out (.lf (.tup [])) (Nat.ble (lo + 1) n)) lo (lo + 1) ∧ toL (Bool.rec (motive := fun _ => TT) .out (.lf (.tup [])) (Nat.ble (lo + 1) n)) = _
    cases h : Nat.ble (lo + 1) n
    · have : ¬ lo + 1 ≤ n := by intro q; rw [Nat.ble_eq_true_of_le q] at h; cases h
      refine ⟨Nat.le_succ lo, ?_⟩
      rw [show min (2 ^ 0) (n - lo) = 0 by simp; omega]; rfl
    · have := Nat.le_of_ble_eq_true h
      refine ⟨rfl, ?_⟩
      rw [show min (2 ^ 0) (n - lo) = 1 by simp; omega]; rfl
  | d + 1, lo => by
    obtain ⟨h1, h2⟩ := tblank_spec n d lo
    obtain ⟨h3, h4⟩ := tblank_spec n d (lo + 2 ^ d)
    have e : tblank (d + 1) lo n = .nd (lo + 2 ^ d) (tblank d lo n) (tblank d (lo + 2 ^ d) n) := rfl
    have e2 : 2 ^ (d + 1) = 2 ^ d + 2 ^ d := by rw [Nat.pow_succ]; omega
    rw [e]
    refine ⟨⟨h1, by rw [e2, ← Nat.add_assoc]; exact h3, ?_⟩, ?_⟩
    · rw [h2, h4, List.length_replicate]
      have := Nat.min_def (m := n - lo) (n := 2 ^ d)
      by_cases q : 2 ^ d ≤ n - lo
      · left; omega
      · right; rw [show min (2 ^ d) (n - (lo + 2 ^ d)) = 0 by omega]; rfl
    · rw [toL_nd, h2, h4, List.replicate_append_replicate]
      congr 1
      rw [e2]
      generalize 2 ^ d = p
      simp only [Nat.min_def]
      repeat' split
      all_goals omega
theorem troot_spec (n : Nat) : Root (troot n) ∧ toL (troot n) = List.replicate n (.tup []) := by
  obtain ⟨h1, h2⟩ := tblank_spec n (Nat.log2 n + 1) 0
  rw [Nat.zero_add] at h1
  refine ⟨⟨_, _, rfl, h1⟩, ?_⟩
  show toL (tblank _ 0 n) ++ [] = _
  have := @Nat.lt_log2_self n
  rw [List.append_nil, h2, show min (2 ^ (Nat.log2 n + 1)) (n - 0) = n by omega]
theorem set_take {α : Type} : ∀ (L : List α) (i : Nat) (x : α), i < L.length → L.set i x = L.take i ++ x :: L.drop (i + 1)
  | [], _, _, h => by simp at h
  | y :: L, 0, x, _ => by simp
  | y :: L, i + 1, x, h => by rw [List.set_cons_succ, set_take L i x (by simpa using h)]; simp
theorem targs_spec : ∀ (xs A B : List AV) {t : TT}, Root t → toL t = A ++ B → xs.length ≤ B.length → Root (targs xs A.length t) ∧ toL (targs xs A.length t) = A ++ xs ++ B.drop xs.length
  | [], A, B, t, h, e, _ => by
    refine ⟨h, ?_⟩
    show toL t = _
    rw [e]; simp
  | x :: xs, A, [], t, h, e, hl => by simp at hl
  | x :: xs, A, y :: B, t, h, e, hl => by
    obtain ⟨h1, h2⟩ := h.set A.length x
    have e2 : toL (tset t A.length x) = (A ++ [x]) ++ B := by
      rw [h2, e, List.set_append_right _ _ (Nat.le_refl _)]
      simp
    have := targs_spec xs (A ++ [x]) B h1 e2 (by simpa using hl)
    rw [List.length_append, List.length_singleton] at this
    refine ⟨this.1, ?_⟩
    show toL (targs xs (A.length + 1) (tset t A.length x)) = _
    rw [this.2]; simp
theorem tstart_spec (n : Nat) (xs : List AV) (h : xs.length ≤ n) : Root (targs xs 0 (troot n)) ∧ toL (targs xs 0 (troot n)) = xs ++ List.replicate (n - xs.length) (.tup []) := by
  obtain ⟨h1, h2⟩ := troot_spec n
  have := targs_spec xs [] (List.replicate n (.tup [])) h1 (by rw [h2]; rfl) (by simpa using h)
  refine ⟨this.1, ?_⟩
  rw [List.length_nil] at this
  rw [this.2]
  simp
/-! ### operands -/
noncomputable def teval (t : TT) (x : Operand) : AV := match x with
  | .tmp i => tget t i
  | .const v => ofConst v
  | .global g => .gptr g 0
  | .func f => .fn (.func f) []
noncomputable def tput (t : TT) (d : Option Tmp) (v : AV) : TT := match d with
  | some d => tset t d v
  | none => t
noncomputable def tguard (t : TT) (g : Option (Option Tmp × Bool)) : Option Bool := match g with
  | none => some true
  | some (none, _) => some false
  | some (some d, want) => match tget t d with
    | .bool b => some (b == want)
    | .tup _ => some false
    | _ => none
theorem Root.eval {t : TT} (h : Root t) : teval t = aEval (toL t) := by
  funext x
  cases x with
  | tmp i => exact h.get i
  | const v => rfl
  | global g => rfl
  | func f => rfl
theorem Root.put {t : TT} (h : Root t) (d : Option Tmp) (v : AV) : Root (tput t d v) ∧ toL (tput t d v) = aPut (toL t) d v := by
  cases d with
  | none => exact ⟨h, rfl⟩
  | some d => exact h.set d v
theorem getD_in {T : List AV} {d : Nat} {x : AV} (h : T.getD d .unk = x) (hx : x ≠ .unk) : T[d]? = some x := by
  rw [List.getD] at h
  cases q : T[d]? with
  | none => rw [q] at h; exact absurd h.symm hx
  | some y => rw [q] at h; exact congrArg some h
theorem Root.guard {t : TT} (h : Root t) {g : Option (Option Tmp × Bool)} {b : Bool} (e : tguard t g = some b) : sGuard (toL t) g = some b := by
  unfold tguard at e
  unfold sGuard
  split at e
  · exact e
  · exact e
  · rename_i d want
    simp only
    split at e <;> simp only [Option.some.injEq, reduceCtorEq] at e
    · rename_i b0 hb
      rw [h.get] at hb
      rw [getD_in hb (by simp)]
      simpa using e
    · rename_i l hb
      rw [h.get] at hb
      rw [getD_in hb (by simp)]
      simpa using e
end Go.AH
namespace Go.AH
open Go
set_option linter.unusedVariables false
set_option linter.unusedSimpArgs false
/-! ### the interpreter -/
/-- How a region that draws its order is walked. -/
inductive RPlan where
  | chain (pl : Plan)
  | tree (t : DT) (anc : List (List Nat)) (E : List Nat)
/-- The plans of regions; calls that are known; deferred calls that are known; how a function's body is walked: 0 as code, 1 as code that ranges over functions, 2 as code with deferred calls, 3 as code that gives up its first argument's block. -/
structure Itp where
  plan : FuncId → Nat → Option RPlan
  sp : FuncId → List AV → Heap → Option OutH
  dsp : FuncId → List AV → Heap → Option Heap
  kind : FuncId → Nat
abbrev CallF := FuncId → List AV → Heap → Option OutH
abbrev KC := AExit → TT → Heap → Option OutH
noncomputable def rOp (P : Program) (call : CallF) (op : Op) (t : TT) (h : Heap) : Option OutH := match op with
  | .call c => match c.callee with
    | .value f => match fnArgs (teval t f) (c.args.toList.map (teval t)) with
      | some (n, as) => call n as h
      | none => none
    | .builtin b => bEv P h b c.argTypes (c.args.toList.map (teval t))
    | .invoke _ _ => none
  | op => ev P (teval t) op h
noncomputable def rOps (P : Program) (call : CallF) (os : List SOp) : TT → Heap → Option (TT × Heap) :=
  List.rec (motive := fun _ => TT → Heap → Option (TT × Heap)) (fun t h => some (t, h)) (fun o _ ih t h => match tguard t o.g with
    | some true => match rOp P call o.op t h with
      | some r => ih (tput t o.dst r.1) r.2
      | none => none
    | some false => ih (tput t o.dst (.tup [])) h
    | none => none) os
/-- An operation that leaves the heap as it is. -/
def keepsHeap : Op → Bool
  | .move _ => true
  | .assign _ => true
  | .pick _ _ _ => true
  | .build _ _ => true
  | .load _ _ => true
  | .nilCheck _ => true
  | .binOp _ _ _ _ _ => true
  | .unOp _ _ _ => true
  | .makeInterface _ _ => true
  | .makeFunc _ _ _ => true
  | .slice _ _ _ _ _ => true
  | .fieldAddr _ _ _ => true
  | .field _ _ _ => true
  | .indexAddr _ _ _ => true
  | .index _ _ _ => true
  | .extract _ _ => true
  | .lookup _ _ _ _ => true
  | .sliceToArrayPointer _ _ => true
  | .call c => match c.callee with
    | .builtin b => match b with
      | .len => true
      | .cap => true
      | .min => true
      | .max => true
      | .unsafeSliceData => true
      | _ => false
    | _ => false
  | _ => false
def isConv : Op → Bool
  | .convert _ _ _ => true
  | _ => false
noncomputable def nsRunT (P : Program) (ops : List SOp) (h : Heap) (l : List Nat) : TT → Option TT :=
  List.rec (motive := fun _ => TT → Option TT) (fun t => some t) (fun i _ ih t => match ops[i]? with
    | none => none
    | some o => match tguard t o.g with
      | some true => match ev P (teval t) o.op h with
        | some r => ih (tput t o.dst r.1)
        | none => none
      | some false => ih (tput t o.dst (.tup []))
      | none => none) l
def isUnk : AV → Bool
  | .unk => true
  | _ => false
noncomputable def again1B (P : Program) (ops : List SOp) (t : TT) (h : Heap) (i : Nat) : Bool := match ops[i]? with
  | none => false
  | some o => match o.dst with
    | none => false
    | some d => bif isUnk (tget t d) then false else match tguard t o.g with
        | some true => match ev P (teval t) o.op h with
          | some (v', h') => bif keepsHeap o.op then eqAV v' (tget t d) else (bif isConv o.op && Nat.beq h'.length h.length then eqAV v' (tget t d) else false)
          | none => false
        | some false => eqAV (tget t d) (.tup [])
        | none => false
noncomputable def againB (P : Program) (ops : List SOp) (t : TT) (h : Heap) (l : List Nat) : Bool :=
  List.rec (motive := fun _ => Bool) true (fun i _ ih => bif again1B P ops t h i then ih else false) l
/-- One effect. -/
noncomputable def rKid (P : Program) (call : CallF) (ops : List SOp) (e : Nat) (N : TT → Heap → Option OutH) (t : TT) (h : Heap) : Option OutH := match ops[e]? with
  | some o => match tguard t o.g with
    | some true => match rOp P call o.op t h with
      | some r => N (tput t o.dst r.1) r.2
      | none => none
    | some false => N (tput t o.dst (.tup [])) h
    | none => none
  | none => none
noncomputable def rDraw (P : Program) (call : CallF) (ops : List SOp) (k : TT → Heap → Option OutH) : List Nat → List (List Nat) → List (List Nat) → TT → Heap → Option OutH
  | [], n :: _, f :: _, t, h => match nsRunT P ops h n t with
    | some t1 => bif againB P ops t1 h f then k t1 h else none
    | none => none
  | e :: es, n :: ns, f :: fs, t, h => match nsRunT P ops h n t with
    | some t1 => bif againB P ops t1 h f then rKid P call ops e (rDraw P call ops k es ns fs) t1 h else none
    | none => none
  | _, _, _, _, _ => none
noncomputable def rTree (P : Program) (call : CallF) (ops : List SOp) (k : TT → Heap → Option OutH) : DT → TT → Heap → Option OutH
  | .fin ns fs, T, h => match nsRunT P ops h ns T with
    | some T1 => bif againB P ops T1 h fs then k T1 h else none
    | none => none
  | .one ns fs e t, T, h => match nsRunT P ops h ns T with
    | some T1 => bif againB P ops T1 h fs then rKid P call ops e (rTree P call ops k t) T1 h else none
    | none => none
  | .two ns fs e1 t1 e2 t2, T, h => match nsRunT P ops h ns T with
    | some T1 => bif againB P ops T1 h fs then both (rKid P call ops e1 (rTree P call ops k t1) T1 h) (rKid P call ops e2 (rTree P call ops k t2) T1 h) else none
    | none => none
/-- Results, from a tree of slots. -/
noncomputable def tRess (P : Program) (t : TT) (h : Heap) : List ResultVar → Option (List AV)
  | [] => some []
  | r :: rs => match (match r with | .tmp i => some (tget t i) | .cell a ty => aLoad P h ty (tget t a)), tRess P t h rs with
    | some v, some vs => some (v :: vs)
    | _, _ => none
noncomputable def tResults (P : Program) (rs : List ResultVar) (t : TT) (h : Heap) : Option AV := match tRess P t h rs with
  | some [v] => some v
  | some vs => some (.tup vs)
  | none => none
/-- What a function hands back. -/
noncomputable def fin (P : Program) (fn : Func) (n0 : Nat) : KC := fun e t h => match e with
  | .ret => match tResults P fn.results.toList t h with
    | some R => gc n0 R h
    | none => none
  | .normal => match tResults P fn.results.toList t h with
    | some R => gc n0 R h
    | none => none
  | _ => none
/-- What a function hands back that gives up its first argument's block, or hands it back. -/
noncomputable def finN (P : Program) (fn : Func) (n0 : Nat) : KC := fun e t h => match e with
  | .ret => match tResults P fn.results.toList t h with
    | some R => gcN n0 R h
    | none => none
  | .normal => match tResults P fn.results.toList t h with
    | some R => gcN n0 R h
    | none => none
  | _ => none
/-- A call over a part of the heap: its answer at the whole. -/
def back (ms : List Nat) (h : Heap) (o : OutH) : Option OutH := match o.2 with
  | [] => match ms with
    | [] => match renO [] o.1 with
      | some r => some (r, h)
      | none => none
    | _ => none
  | h1 => bif Nat.ble ms.length h1.length then some (ren (mf ms h.length) o.1, merge ms h h1) else none
/-- An open loop: the slots, what is handed, the round. -/
structure XL where
  R : TT
  ps : List Tmp
  as : Code
  body : Code
inductive XS where
  | rd
  | dr
  | de (id : Nat)
abbrev KXC := AExit → TT → Heap → XS → Option OutH
def isYph : AV → Bool
  | .fn (.yield l) [] => Nat.beq l 0
  | _ => false
noncomputable def noYph (t : TT) (op : Op) : Bool := op.operands.toList.all fun x => !isYph (teval t x)
noncomputable def setsT (t : TT) : List Tmp → List AV → TT
  | p :: ps, x :: xs => setsT (tset t p x) ps xs
  | _, _ => t
def sameLen {α β : Type} : List α → List β → Bool
  | [], [] => true
  | _ :: a, _ :: b => sameLen a b
  | _, _ => false
/-- A function value in a slot. -/
def calleeV (op : Op) : Option Tmp := match op with
  | .call c => match c.callee with
    | .value (.tmp i) => some i
    | _ => none
  | _ => none
def callArgs (op : Op) : List Operand := match op with
  | .call c => c.args.toList
  | _ => []
def moveOf (op : Op) : Option Tmp := match op with
  | .move (.tmp i) => some i
  | _ => none
/-- What the steps of the fuel give. -/
structure IS where
  code : FuncId → Code → TT → Heap → KC → Option OutH
  body : FuncId → List AV → Heap → Option OutH
  call : CallF
  xc : Option XL → Bool → Code → TT → Heap → XS → KXC → Option OutH
  dc : FuncId → Code → TT → Heap → List (FuncId × List AV) → (AExit → TT → Heap → List (FuncId × List AV) → Option OutH) → Option OutH
noncomputable def codeS (P : Program) (I : Itp) (ih : IS) (f : FuncId) (c : Code) (t : TT) (h : Heap) (k : KC) : Option OutH := match c with
  | .skip => k .normal t h
  | .region id ops d => bif d then (match I.plan f id with
    | some (.chain pl) => rDraw P ih.call (slim ops.toList) (k .normal) pl.eff pl.ns pl.fs t h
    | some (.tree dt anc E) => rTree P ih.call (slim ops.toList) (k .normal) dt t h
    | none => none) else (match rOps P ih.call (slim ops.toList) t h with
    | some r => k .normal r.1 r.2
    | none => none)
  | .seq a b => ih.code f a t h fun e t' h' => match e with
    | .normal => ih.code f b t' h' k
    | e => k e t' h'
  | .cond c a b => match teval t c with
    | .bool b0 => bif b0 then ih.code f a t h k else ih.code f b t h k
    | .anyb => both (ih.code f a t h k) (ih.code f b t h k)
    | _ => none
  | .block id a => ih.code f a t h fun e t' h' => match e with
    | .exit i => bif Nat.beq i id then k .normal t' h' else k (.exit i) t' h'
    | e => k e t' h'
  | .loop a => ih.code f a t h fun e t' h' => match e with
    | .normal => ih.code f (.loop a) t' h' k
    | e => k e t' h'
  | .exit i => k (.exit i) t h
  | .ret => k .ret t h
  | _ => none
/-- One operation of a walk that may ask for a round. -/
noncomputable def xOpR (P : Program) (ih : IS) (e : Option XL) (op : Op) (t : TT) (h : Heap) (s : XS) (N : AV → Heap → XS → Option OutH) : Option OutH :=
  match moveOf op with
  | some i => N (tget t i) h s
  | none => bif noYph t op then (match rOp P ih.call op t h with
      | some r => bif isYph r.1 then none else N r.1 r.2 s
      | none => none) else match e, s, calleeV op with
    | some y, .rd, some g => bif isYph (tget t g) then (bif sameLen (callArgs op) y.ps then (bif (callArgs op).all (fun x => !isYph (teval t x)) then
        ih.xc none false y.as (setsT y.R y.ps ((callArgs op).map (teval t))) h .rd fun q t1 h1 _ => match q with
          | .normal => ih.xc none false y.body t1 h1 .rd fun q2 _ h2 _ => match q2 with
            | .normal => N (.bool true) h2 .rd
            | .ret => N (.bool false) h2 .dr
            | .exit id => N (.bool false) h2 (.de id)
            | .pan _ => none
          | _ => none
        else none) else none) else none
    | _, _, _ => none
noncomputable def xOpsR (P : Program) (ih : IS) (e : Option XL) (k : TT → Heap → XS → Option OutH) (os : List SOp) : TT → Heap → XS → Option OutH :=
  List.rec (motive := fun _ => TT → Heap → XS → Option OutH) k (fun o _ nx t h s => match tguard t o.g with
    | some true => xOpR P ih e o.op t h s fun v h' s' => nx (tput t o.dst v) h' s'
    | some false => nx (tput t o.dst (.tup [])) h s
    | none => none) os
def allLt (n : Nat) : List Nat → Bool
  | [] => true
  | i :: l => bif Nat.ble n i then false else allLt n l
noncomputable def xcS (P : Program) (ih : IS) (e : Option XL) (top : Bool) (c : Code) (t : TT) (h : Heap) (s : XS) (k : KXC) : Option OutH := match c with
  | .skip => k .normal t h s
  | .region id ops d => bif d then none else xOpsR P ih e (k .normal) (slim ops.toList) t h s
  | .seq a b => ih.xc e top a t h s fun x t' h' s' => match x with
    | .normal => ih.xc e top b t' h' s' k
    | x => k x t' h' s'
  | .cond c a b => match teval t c with
    | .bool b0 => bif b0 then ih.xc e top a t h s k else ih.xc e top b t h s k
    | _ => none
  | .block id a => ih.xc e top a t h s fun x t' h' s' => match x with
    | .exit i => bif Nat.beq i id then k .normal t' h' s' else k (.exit i) t' h' s'
    | x => k x t' h' s'
  | .loop a => ih.xc e top a t h s fun x t' h' s' => match x with
    | .normal => ih.xc e top (.loop a) t' h' s' k
    | x => k x t' h' s'
  | .exit i => k (.exit i) t h s
  | .ret => k .ret t h s
  | .rangeFunc g ps as body => bif top then (match e, teval t g with
    | none, .fn (.func gf) caps => match P.funcs[gf]? with
      | some fn => match fn.body, fn.results.toList with
        | some c', [] => bif allLt h.length (idsL (toL t) []) then (bif Nat.ble (caps.length + 1) fn.ntmps && caps.all (fun x => !isYph x) then
            ih.xc (some ⟨t, ps.toList, as, body⟩) false c' (targs (.fn (.yield 0) [] :: caps) 0 (troot fn.ntmps)) h .rd fun x _ h' s' => match x with
              | .normal => (match s' with | .rd => k .normal t h' s | .dr => k .ret t h' s | .de id => k (.exit id) t h' s)
              | .ret => (match s' with | .rd => k .normal t h' s | .dr => k .ret t h' s | .de id => k (.exit id) t h' s)
              | _ => none
            else none) else none
        | _, _ => none
      | none => none
    | _, _ => none) else none
  | _ => none
/-- Operations among which calls are deferred. -/
noncomputable def dOpsR (P : Program) (ih : IS) (k : TT → Heap → List (FuncId × List AV) → Option OutH) (os : List SOp) : TT → Heap → List (FuncId × List AV) → Option OutH :=
  List.rec (motive := fun _ => TT → Heap → List (FuncId × List AV) → Option OutH) k (fun o _ nx t h D => match tguard t o.g with
    | some true => match o.op with
      | .defer c => match c.callee, c.args.toList with
        | .value g, [] => match teval t g with
          | .fn (.func n) caps => nx (tput t o.dst (.tup [])) h ((n, caps) :: D)
          | _ => none
        | _, _ => none
      | op => match rOp P ih.call op t h with
        | some r => nx (tput t o.dst r.1) r.2 D
        | none => none
    | some false => nx (tput t o.dst (.tup [])) h D
    | none => none) os
noncomputable def dcS (P : Program) (ih : IS) (f : FuncId) (c : Code) (t : TT) (h : Heap) (D : List (FuncId × List AV)) (k : AExit → TT → Heap → List (FuncId × List AV) → Option OutH) : Option OutH := match c with
  | .region id ops d => bif d then ih.code f (.region id ops d) t h (fun e t' h' => k e t' h' D) else dOpsR P ih (k .normal) (slim ops.toList) t h D
  | .seq a b => ih.dc f a t h D fun e t' h' D' => match e with
    | .normal => ih.dc f b t' h' D' k
    | e => k e t' h' D'
  | c => ih.code f c t h fun e t' h' => k e t' h' D
/-- A function's body, to its end. -/
noncomputable def plainS (P : Program) (nm : Bool) (ih : IS) (f : FuncId) (args : List AV) (h : Heap) : Option OutH := match P.funcs[f]? with
  | some fn => match fn.body with
    | some c => bif Nat.ble args.length fn.ntmps then ih.code f c (targs args 0 (troot fn.ntmps)) h (bif nm then finN P fn h.length else fin P fn h.length) else none
    | none => none
  | none => none
/-- The deferred calls, one after the other. -/
noncomputable def runD (P : Program) (I : Itp) (ih : IS) (k : Heap → Option OutH) (D : List (FuncId × List AV)) : Heap → Option OutH :=
  List.rec (motive := fun _ => Heap → Option OutH) k (fun d _ nx h => match I.dsp d.1 d.2 h with
    | some h' => nx h'
    | none => match plainS P false ih d.1 d.2 h with
      | some r => nx r.2
      | none => none) D
noncomputable def bodyS (P : Program) (I : Itp) (ih : IS) (f : FuncId) (args : List AV) (h : Heap) : Option OutH := match I.kind f with
  | 0 => plainS P false ih f args h
  | 3 => plainS P true ih f args h
  | 1 => match P.funcs[f]? with
    | some fn => match fn.body with
      | some c => bif Nat.ble args.length fn.ntmps then ih.xc none true c (targs args 0 (troot fn.ntmps)) h .rd (fun e t h1 _ => fin P fn h.length e t h1) else none
      | none => none
    | none => none
  | _ => match P.funcs[f]? with
    | some fn => match fn.body with
      | some c => bif Nat.ble args.length fn.ntmps then ih.dc f c (targs args 0 (troot fn.ntmps)) h [] (fun e t h1 D => match e with
        | .ret => runD P I ih (fun h2 => fin P fn h.length .ret t h2) D h1
        | .normal => runD P I ih (fun h2 => fin P fn h.length .ret t h2) D h1
        | _ => none) else none
      | none => none
    | none => none
noncomputable def callS (P : Program) (I : Itp) (ih : IS) (f : FuncId) (args : List AV) (h : Heap) : Option OutH :=
  let ms := reach (h.length + 1) h (addNew (idsL args []) []) 0
  match renOL ms args with
  | some args0 => match subH ms h ms with
    | some h0 => bif nodupB ms then (match (match I.sp f args0 h0 with
      | some o => some o
      | none => ih.body f args0 h0) with
      | some o => back ms h o
      | none => none) else none
    | none => none
  | none => none
noncomputable def isZ : IS := ⟨fun _ _ _ _ _ => none, fun _ _ _ => none, fun _ _ _ => none, fun _ _ _ _ _ _ _ => none, fun _ _ _ _ _ _ => none⟩
noncomputable def stepIS (P : Program) (I : Itp) (ih : IS) : IS := ⟨codeS P I ih, bodyS P I ih, callS P I ih, xcS P ih, dcS P ih⟩
noncomputable def rAll (P : Program) (I : Itp) (n : Nat) : IS := Nat.rec (motive := fun _ => IS) isZ (fun _ ih => stepIS P I ih) n
end Go.AH
namespace Go.AH
open Go
set_option linter.unusedVariables false
set_option linter.unusedSimpArgs false
/-! ### the interpreter is sound -/
/-- What a call's answer says. -/
def CallOk (P : Program) (call : CallF) : Prop := ∀ f args h r h', call f args h = some (r, h') → ACalls P f args h (fun r' h'' => r' = .ret r ∧ h'' = h')
section
variable {P : Program} {call : CallF} {n0 : Nat} {t : TT} {h : Heap}
theorem rOp_sound (hc : CallOk P call) (ht : Root t) {op : Op} {v : AV} {h' : Heap} (hr : rOp P call op t h = some (v, h')) {next pan : AV → Heap → Prop} (hn : next v h') : sOp P op (toL t) h next pan := by
  unfold rOp at hr
  rw [ht.eval] at hr
  unfold sOp
  split at hr
  · rename_i c
    simp only
    split at hr
    · rename_i f hf
      rw [hf]
      simp only
      split at hr <;> try (cases hr; done)
      rename_i n as hv
      rw [hv]
      refine (hc _ _ _ _ _ hr).mono ?_
      rintro r h2 ⟨rfl, rfl⟩
      exact hn
    · rename_i b hb
      rw [hb]
      simp only
      rw [hr]
      exact hn
    · cases hr
  · rename_i hne
    split
    · exact absurd rfl (hne _)
    · rw [hr]
      exact hn
theorem rOps_nil (t : TT) (h : Heap) : rOps P call [] t h = some (t, h) := rfl
theorem rOps_cons (o : SOp) (os : List SOp) (t : TT) (h : Heap) : rOps P call (o :: os) t h = match tguard t o.g with
    | some true => match rOp P call o.op t h with
      | some r => rOps P call os (tput t o.dst r.1) r.2
      | none => none
    | some false => rOps P call os (tput t o.dst (.tup [])) h
    | none => none := rfl
theorem rOps_sound (hc : CallOk P call) {K : AExit → List AV → Heap → Prop} : ∀ {os : List SOp} {t : TT} {h : Heap} {t' : TT} {h' : Heap}, Root t → rOps P call os t h = some (t', h') → (Root t' → K .normal (toL t') h') → sOps P K os (toL t) h
  | [], t, h, t', h', ht, e, k => by
    simp only [rOps_nil, Option.some.injEq, Prod.mk.injEq] at e
    obtain ⟨rfl, rfl⟩ := e
    exact k ht
  | o :: os, t, h, t', h', ht, e, k => by
    rw [rOps_cons] at e
    unfold sOps
    split at e
    · rename_i hg
      rw [ht.guard hg]
      simp only
      split at e <;> try (cases e; done)
      rename_i r hr
      obtain ⟨p1, p2⟩ := ht.put o.dst r.1
      refine rOp_sound hc ht hr ?_
      rw [← p2]
      exact rOps_sound hc p1 e k
    · rename_i hg
      rw [ht.guard hg]
      obtain ⟨p1, p2⟩ := ht.put o.dst (.tup [])
      simp only
      rw [← p2]
      exact rOps_sound hc p1 e k
    · cases e
theorem keeps_ev {ρ : Operand → AV} {op : Op} (hk : keepsHeap op = true) {v : AV} {h' : Heap} (he : ev P ρ op h = some (v, h')) : h' = h := by
  have mp : ∀ {x : Option AV} {v : AV} {h' : Heap}, x.map (·, h) = some (v, h') → h' = h := by
    intro x v h' hx
    rw [Option.map_eq_some_iff] at hx
    obtain ⟨y, hy, e⟩ := hx
    simp only [Prod.mk.injEq] at e
    exact e.2.symm
  have mp0 : ∀ {x y v : AV} {h' : Heap}, some (x, h) = some (v, h') → h' = h := by
    intro x y v h' hx
    simp only [Option.some.injEq, Prod.mk.injEq] at hx
    exact hx.2.symm
  have or : (∀ {v h'}, ev0 P ρ op h = some (v, h') → h' = h) → (∀ {v h'}, ev2 P ρ op h = some (v, h') → h' = h) → h' = h := by
    intro h0 h2
    unfold ev at he
    cases hx : ev0 P ρ op h with
    | some r =>
      rw [hx] at he
      simp only [orElse, Option.some.injEq] at he
      subst he
      exact h0 hx
    | none => rw [hx] at he; exact h2 he
  cases op <;> simp only [keepsHeap, Bool.false_eq_true] at hk
  case call c =>
    split at hk <;> try (cases hk; done)
    rename_i b hb
    rw [ev_builtin hb] at he
    have or : (∀ {v h'}, aBuiltin P h b c.argTypes (c.args.toList.map ρ) = some (v, h') → h' = h) → (∀ {v h'}, b2 P h b c.argTypes (c.args.toList.map ρ) = some (v, h') → h' = h) → h' = h := by
      intro h0 h2
      unfold bEv at he
      cases hx : aBuiltin P h b c.argTypes (c.args.toList.map ρ) with
      | some r =>
        rw [hx] at he
        simp only [orB, Option.some.injEq] at he
        subst he
        exact h0 hx
      | none => rw [hx] at he; exact h2 he
    split at hk <;> try (cases hk; done)
    all_goals
      refine or ?_ ?_
      · intro v h' q
        simp only [aBuiltin] at q
        first
          | exact mp q
          | (split at q <;> first | exact mp q | (cases q; done))
          | (cases q; done)
      · intro v h' q
        simp only [b2] at q
        first
          | exact mp q
          | (split at q <;> first | exact mp q | (cases q; done) | (split at q <;> first | exact mp q | exact mp0 (y := .unk) q))
  all_goals
    refine or ?_ ?_
    · intro v h' q
      simp only [ev0, reduceCtorEq] at q <;> first
        | exact mp q
        | exact mp0 (y := .unk) q
        | (split at q <;> first | exact mp q | exact mp0 (y := .unk) q | (cases q; done))
    · intro v h' q
      simp only [ev2, reduceCtorEq] at q <;> first
        | exact mp q
        | (split at q <;> first | exact mp q | exact mp0 (y := .unk) q | (split at q <;> first | exact mp q | exact mp0 (y := .unk) q | (cases q; done)) | (cases q; done))
theorem keeps_conv {ρ : Operand → AV} {op : Op} (hk : isConv op = true) {v : AV} {h' : Heap} (hl : h'.length = h.length) (he : ev P ρ op h = some (v, h')) : h' = h := by
  have mp : ∀ {x : Option AV} {v : AV} {h' : Heap}, x.map (·, h) = some (v, h') → h' = h := by
    intro x v h' hx
    rw [Option.map_eq_some_iff] at hx
    obtain ⟨y, hy, e⟩ := hx
    simp only [Prod.mk.injEq] at e
    exact e.2.symm
  have app : ∀ {x v : AV} {b : Option Blk} {h' : Heap}, some (x, h ++ [b]) = some (v, h') → h'.length ≠ h.length := by
    intro x v b h' q
    simp only [Option.some.injEq, Prod.mk.injEq] at q
    rw [← q.2]; simp
  cases op <;> simp only [isConv, Bool.false_eq_true] at hk
  rename_i src dst x
  unfold ev at he
  cases hx : ev0 P ρ (.convert src dst x) h with
  | some r =>
    rw [hx] at he
    simp only [orElse, Option.some.injEq] at he
    subst he
    simp only [ev0] at hx
    unfold aConvert at hx
    split at hx
    · split at hx <;> try (cases hx; done)
      split at hx
      · exact absurd hl (app hx)
      · cases hx
    · split at hx <;> try (cases hx; done)
      split at hx <;> try (cases hx; done)
      split at hx <;> first | (cases hx; done) | skip
      rw [Option.map_eq_some_iff] at hx
      obtain ⟨y, hy, e⟩ := hx
      simp only [Prod.mk.injEq] at e
      exact e.2.symm
    · exact mp hx
  | none =>
    rw [hx] at he
    have he : ev2 P ρ (.convert src dst x) h = some (v, h') := he
    simp only [ev2] at he
    split at he
    · simp only [Option.some.injEq, Prod.mk.injEq] at he; exact he.2.symm
    · split at he
      · simp only [Option.some.injEq, Prod.mk.injEq] at he; exact he.2.symm
      · unfold symConv at he
        split at he
        · split at he <;> try (cases he; done)
          split at he
          · exact absurd hl (app he)
          · cases he
        · split at he <;> try (cases he; done)
          simp only [Option.some.injEq, Prod.mk.injEq] at he; exact he.2.symm
        · split at he <;> try (cases he; done)
          split at he <;> try (cases he; done)
          split at he <;> first | (cases he; done) | skip
          rw [Option.map_eq_some_iff] at he
          obtain ⟨y, hy, e⟩ := he
          simp only [Prod.mk.injEq] at e
          exact e.2.symm
        · cases he
theorem nsRunT_nil (ops : List SOp) (h : Heap) (t : TT) : nsRunT P ops h [] t = some t := rfl
theorem nsRunT_cons (ops : List SOp) (h : Heap) (i : Nat) (is : List Nat) (t : TT) : nsRunT P ops h (i :: is) t = match ops[i]? with
    | none => none
    | some o => match tguard t o.g with
      | some true => match ev P (teval t) o.op h with
        | some r => nsRunT P ops h is (tput t o.dst r.1)
        | none => none
      | some false => nsRunT P ops h is (tput t o.dst (.tup []))
      | none => none := rfl
theorem nsRunT_sound {ops : List SOp} {h : Heap} : ∀ {l : List Nat} {t t1 : TT}, Root t → nsRunT P ops h l t = some t1 → Root t1 ∧ nsRun P ops l (toL t) h = some (toL t1)
  | [], t, t1, ht, e => by
    rw [nsRunT_nil] at e
    cases e
    exact ⟨ht, rfl⟩
  | i :: is, t, t1, ht, e => by
    rw [nsRunT_cons] at e
    unfold nsRun
    split at e <;> try (cases e; done)
    rename_i o ho
    rw [ho]
    simp only
    split at e
    · rename_i hg
      rw [ht.guard hg]
      simp only
      split at e <;> try (cases e; done)
      rename_i r hr
      rw [ht.eval] at hr
      rw [hr]
      obtain ⟨p1, p2⟩ := ht.put o.dst r.1
      simp only
      rw [← p2]
      exact nsRunT_sound p1 e
    · rename_i hg
      rw [ht.guard hg]
      obtain ⟨p1, p2⟩ := ht.put o.dst (.tup [])
      simp only
      rw [← p2]
      exact nsRunT_sound p1 e
    · cases e
theorem cond_some {α : Type} {b : Bool} {x : Option α} {r : α} (h : (bif b then x else none) = some r) : b = true ∧ x = some r := by cases b <;> simp at h ⊢; exact h
theorem cond_false_r {b x : Bool} (h : (bif b then false else x) = true) : b = false ∧ x = true := by cases b <;> simp at h ⊢; exact h
theorem again1B_sound {ops : List SOp} {i : Nat} (ht : Root t) (hb : again1B P ops t h i = true) : again1 P ops (toL t) h i := by
  unfold again1B at hb
  unfold again1
  split at hb <;> try (cases hb; done)
  rename_i o ho
  rw [ho]
  simp only
  split at hb <;> try (cases hb; done)
  rename_i d hd
  rw [hd]
  simp only
  obtain ⟨hu, hb⟩ := cond_false_r hb
  have hv : (toL t)[d]? = some (tget t d) := getD_in (ht.get d).symm (by intro q; rw [q] at hu; cases hu)
  rw [hv]
  simp only
  split at hb <;> try (cases hb; done)
  · rename_i hg
    rw [ht.guard hg]
    simp only at hb ⊢
    split at hb <;> try (cases hb; done)
    rename_i v' h' he
    rw [ht.eval] at he
    cases hk : keepsHeap o.op with
    | true =>
      rw [hk] at hb
      simp only [cond_true] at hb
      rw [he, keeps_ev hk he, eqAV_eq hb]
    | false =>
      rw [hk] at hb
      simp only [cond_false, cond_eq_true_iff', Bool.and_eq_true] at hb
      rw [he, keeps_conv hb.1.1 (Nat.eq_of_beq_eq_true hb.1.2) he, eqAV_eq hb.2]
  · rename_i hg
    rw [ht.guard hg]
    exact eqAV_eq hb
theorem againB_cons (ops : List SOp) (t : TT) (h : Heap) (i : Nat) (l : List Nat) : againB P ops t h (i :: l) = (bif again1B P ops t h i then againB P ops t h l else false) := rfl
theorem againB_sound {ops : List SOp} (ht : Root t) : ∀ {l : List Nat}, againB P ops t h l = true → again P ops (toL t) h l
  | [], _ => trivial
  | i :: l, hb => by
    rw [againB_cons] at hb
    simp only [cond_eq_true_iff'] at hb
    exact ⟨again1B_sound ht hb.1, againB_sound ht hb.2⟩
theorem rKid_sound (hc : CallOk P call) (ht : Root t) {ops : List SOp} {e : Nat} {N : TT → Heap → Option OutH} {R : OutH} (hr : rKid P call ops e N t h = some R) :
    ∃ o, ops[e]? = some o ∧ ((sGuard (toL t) o.g = some true ∧ ∃ v h', rOp P call o.op t h = some (v, h') ∧ Root (tput t o.dst v) ∧ toL (tput t o.dst v) = aPut (toL t) o.dst v ∧ N (tput t o.dst v) h' = some R) ∨
      (sGuard (toL t) o.g = some false ∧ Root (tput t o.dst (.tup [])) ∧ toL (tput t o.dst (.tup [])) = aPut (toL t) o.dst (.tup []) ∧ N (tput t o.dst (.tup [])) h = some R)) := by
  unfold rKid at hr
  split at hr <;> try (cases hr; done)
  rename_i o ho
  refine ⟨o, ho, ?_⟩
  split at hr
  · rename_i hg
    left
    split at hr <;> try (cases hr; done)
    rename_i r hv
    obtain ⟨p1, p2⟩ := ht.put o.dst r.1
    exact ⟨ht.guard hg, r.1, r.2, hv, p1, p2, hr⟩
  · rename_i hg
    right
    obtain ⟨p1, p2⟩ := ht.put o.dst (.tup [])
    exact ⟨ht.guard hg, p1, p2, hr⟩
  · cases hr
theorem rDraw_sound (hc : CallOk P call) {ops : List SOp} {K : AExit → List AV → Heap → Prop} {k : TT → Heap → Option OutH} {R : OutH} (hk : ∀ t' h', Root t' → k t' h' = some R → K .normal (toL t') h') :
    ∀ {es : List Nat} {ns fs : List (List Nat)} {t : TT} {h : Heap}, Root t → rDraw P call ops k es ns fs t h = some R → sDraw P ops K es ns fs (toL t) h
  | [], [], _, _, _, _, e => by simp [rDraw] at e
  | [], _ :: _, [], _, _, _, e => by simp [rDraw] at e
  | [], n :: _, f :: _, t, h, ht, e => by
    unfold rDraw at e
    unfold sDraw
    split at e <;> try (cases e; done)
    rename_i t1 hn
    obtain ⟨r1, hn⟩ := nsRunT_sound ht hn
    rw [hn]
    obtain ⟨h1, h2⟩ := cond_some e
    exact ⟨againB_sound r1 h1, hk _ _ r1 h2⟩
  | _ :: _, [], _, _, _, _, e => by simp [rDraw] at e
  | _ :: _, _ :: _, [], _, _, _, e => by simp [rDraw] at e
  | i :: es, n :: ns, f :: fs, t, h, ht, e => by
    unfold rDraw at e
    unfold sDraw
    split at e <;> try (cases e; done)
    rename_i t1 hn
    obtain ⟨r1, hn⟩ := nsRunT_sound ht hn
    rw [hn]
    obtain ⟨h1, h2⟩ := cond_some e
    refine ⟨againB_sound r1 h1, ?_⟩
    obtain ⟨o, ho, hh⟩ := rKid_sound hc r1 h2
    rw [ho]
    simp only
    rcases hh with ⟨hg, v, h', hv, p1, p2, hN⟩ | ⟨hg, p1, p2, hN⟩
    · rw [hg]
      refine rOp_sound hc r1 hv ?_
      rw [← p2]
      exact rDraw_sound hc hk p1 hN
    · rw [hg]
      simp only
      rw [← p2]
      exact rDraw_sound hc hk p1 hN
theorem rTree_sound (hc : CallOk P call) {ops : List SOp} {K : AExit → List AV → Heap → Prop} {k : TT → Heap → Option OutH} {R : OutH} (hk : ∀ t' h', Root t' → k t' h' = some R → K .normal (toL t') h') : ∀ {d : DT} {t : TT} {h : Heap}, Root t → rTree P call ops k d t h = some R → d.run P ops K (toL t) h
  | .fin ns fs, t, h, ht, e => by
    unfold rTree at e
    unfold DT.run
    split at e <;> try (cases e; done)
    rename_i T1 hn
    obtain ⟨r1, hn⟩ := nsRunT_sound ht hn
    rw [hn]
    obtain ⟨h1, h2⟩ := cond_some e
    exact ⟨againB_sound r1 h1, hk _ _ r1 h2⟩
  | .one ns fs i d, t, h, ht, e => by
    unfold rTree at e
    unfold DT.run
    split at e <;> try (cases e; done)
    rename_i T1 hn
    obtain ⟨r1, hn⟩ := nsRunT_sound ht hn
    rw [hn]
    obtain ⟨h1, h2⟩ := cond_some e
    refine ⟨againB_sound r1 h1, ?_⟩
    obtain ⟨o, ho, hh⟩ := rKid_sound hc r1 h2
    unfold kidRun
    rw [ho]
    simp only
    rcases hh with ⟨hg, v, h', hv, p1, p2, hN⟩ | ⟨hg, p1, p2, hN⟩
    · rw [hg]
      refine rOp_sound hc r1 hv ?_
      rw [← p2]
      exact rTree_sound hc hk p1 hN
    · rw [hg]
      simp only
      rw [← p2]
      exact rTree_sound hc hk p1 hN
  | .two ns fs i d j u, t, h, ht, e => by
    unfold rTree at e
    unfold DT.run
    split at e <;> try (cases e; done)
    rename_i T1 hn
    obtain ⟨r1, hn⟩ := nsRunT_sound ht hn
    rw [hn]
    obtain ⟨h1, h2⟩ := cond_some e
    obtain ⟨h3, h4⟩ := both_some h2
    refine ⟨againB_sound r1 h1, ?_, ?_⟩
    · obtain ⟨o, ho, hh⟩ := rKid_sound hc r1 h3
      unfold kidRun
      rw [ho]
      simp only
      rcases hh with ⟨hg, v, h', hv, p1, p2, hN⟩ | ⟨hg, p1, p2, hN⟩
      · rw [hg]
        refine rOp_sound hc r1 hv ?_
        rw [← p2]
        exact rTree_sound hc hk p1 hN
      · rw [hg]
        simp only
        rw [← p2]
        exact rTree_sound hc hk p1 hN
    · obtain ⟨o, ho, hh⟩ := rKid_sound hc r1 h4
      unfold kidRun
      rw [ho]
      simp only
      rcases hh with ⟨hg, v, h', hv, p1, p2, hN⟩ | ⟨hg, p1, p2, hN⟩
      · rw [hg]
        refine rOp_sound hc r1 hv ?_
        rw [← p2]
        exact rTree_sound hc hk p1 hN
      · rw [hg]
        simp only
        rw [← p2]
        exact rTree_sound hc hk p1 hN
theorem tRess_eq {t : TT} (ht : Root t) {h : Heap} : ∀ (rs : List ResultVar), tRess P t h rs = aRess P (toL t) h rs
  | [] => rfl
  | r :: rs => by
    unfold tRess aRess
    rw [tRess_eq ht rs]
    cases r with
    | tmp i => simp only [aRes1, ht.get]; cases aRess P (toL t) h rs <;> rfl
    | cell a ty => simp only [aRes1, ht.get]; cases aLoad P h ty ((toL t).getD a .unk) <;> cases aRess P (toL t) h rs <;> rfl
theorem tResults_eq {t : TT} (ht : Root t) {h : Heap} (rs : List ResultVar) : tResults P rs t h = aResults P rs (toL t) h := by
  unfold tResults aResults
  rw [tRess_eq ht]
  cases aRess P (toL t) h rs with
  | none => rfl
  | some l => cases l with
    | nil => rfl
    | cons x l => cases l <;> rfl
theorem fin_body {fn : Func} {e : AExit} {R : OutH} (ht : Root t) (hf : fin P fn n0 e t h = some R) : Body P fn n0 (fun r' h'' => r' = .ret R.1 ∧ h'' = R.2) e (toL t) h := by
  obtain ⟨r, h1⟩ := R
  unfold fin at hf
  split at hf <;> try (cases hf; done)
  all_goals
    rw [tResults_eq ht] at hf
    split at hf <;> try (cases hf; done)
    rename_i R hR
    exact (gc_body hR hf).1
theorem finN_body {fn : Func} {e : AExit} {R : OutH} (ht : Root t) (hf : finN P fn n0 e t h = some R) : Body P fn n0 (fun r' h'' => r' = .ret R.1 ∧ h'' = R.2) e (toL t) h := by
  obtain ⟨r, h1⟩ := R
  unfold finN at hf
  split at hf <;> try (cases hf; done)
  all_goals
    rw [tResults_eq ht] at hf
    split at hf <;> try (cases hf; done)
    rename_i R hR
    exact gcN_body hR hf
end
end Go.AH
namespace Go.AH
open Go
set_option linter.unusedVariables false
set_option linter.unusedSimpArgs false
/-! ### deferred calls -/
abbrev DL := List (FuncId × List AV)
/-- Deferred calls of closures, without arguments. -/
def DRel (c : Ctx) : DL → List Deferred → Prop
  | [], ds => ds = []
  | (n, caps) :: D, ds => ∃ cs ds', ds = { target := .fn (.func n) cs, args := #[] } :: ds' ∧ RelL c caps cs.toList ∧ DRel c D ds'
theorem DRel.le {c c' : Ctx} (hl : c.le c') : ∀ {D : DL} {ds : List Deferred}, DRel c D ds → DRel c' D ds
  | [], _, h => h
  | (_, _) :: _, _, ⟨cs, ds', e, h1, h2⟩ => ⟨cs, ds', e, RelL.le hl _ _ h1, DRel.le hl h2⟩
/-- What a deferred call of a closure does. -/
def ADefer (P : Program) (f : FuncId) (caps : List AV) (h : Heap) (K : Heap → Prop) : Prop :=
  Callable P f ∧ ∀ (F : Fr) (β : Nat → Nat) (w : World) (cs : Array Value), St F β w h → RelL (ctx F β w h) caps cs.toList →
    CallsD P f cs .returning w fun e u' w' => ∃ v β' h', e = .returned v ∧ u' = .returning ∧ K h' ∧ Goes F β w h β' w' h'
theorem CallsD.mono {P : Program} {f : FuncId} {args : Array Value} {u : FrameMode} {w : World} {R R' : Ending → FrameMode → World → Prop} (h : CallsD P f args u w R) (hr : ∀ e u' w', R e u' w' → R' e u' w') : CallsD P f args u w R' := by
  intro c cs hc
  obtain ⟨e, u', w', fr, q, rest⟩ := h c cs hc
  exact ⟨e, u', w', fr, hr _ _ _ q, rest⟩
section
variable {P : Program} {n0 : Nat} {T : List AV} {h : Heap}
theorem adefer_body {f : FuncId} {fn : Func} {c : Code} {args : List AV} {R : OutH} (hf : P.funcs[f]? = some fn) (hb : fn.body = some c) (hn : (fn.name == "runtime.NumGoroutine") = false)
    (a : aW P h.length c (args ++ List.replicate (fn.ntmps - args.length) (.tup [])) h (Body P fn h.length fun r h'' => r = .ret R.1 ∧ h'' = R.2)) : ADefer P f args h (fun h'' => h'' = R.2) := by
  refine ⟨⟨fn, hf, by rw [hb]; rfl, hn⟩, fun F β w vs s r => (callsD_of_wp (R := fun e w' => ∃ v β' h', e = .returned v ∧ h' = R.2 ∧ Goes F β w h β' w' h') hf hb ?_).mono ?_⟩
  · have hl : args.length = vs.size := by have := r.length; simpa using this
    have r0 : RelL (ctx F β w h) (args ++ List.replicate (fn.ntmps - args.length) (.tup [])) (vs ++ Array.replicate (fn.ntmps - vs.size) undef).toList := by
      rw [Array.toList_append, Array.toList_replicate, ← hl]
      exact r.append (RelL.replicate (show Rel _ (.tup []) undef from ⟨#[], rfl, rfl⟩) _)
    refine wp_mono (a F β w _ [] (Nat.le_refl _) s r0 rfl) ?_
    rintro e a' w' ⟨x, β', T', h', q, g, he, hr, hd'⟩
    have fin : (∃ Q m r h0, aResults P fn.results.toList T' h' = some Q ∧ Weak h.length m [r] h0 [Q] h' ∧ (AEnd.ret r = .ret R.1 ∧ h0 = R.2)) → ∃ v, (results fn a'.tmps).run P w' = .ok v w' ∧ ∃ v' β' h', Ending.returned v = .returned v' ∧ h' = R.2 ∧ Goes F β w h β' w' h' := by
      rintro ⟨Q, m, r, h0, h1, k, hk⟩
      obtain ⟨u, hu, ru⟩ := run_aResults (P := P) (fn := fn) g.st hr h1
      exact ⟨u, hu, u, _, h0, rfl, hk.2, (k.gets g).goes⟩
    cases x with
    | normal => cases he; exact ⟨hd', fin q⟩
    | ret => cases he; exact ⟨hd', fin q⟩
    | exit i => exact q.elim
    | pan v =>
      obtain ⟨m, r, h0, k, hk, _⟩ := q
      cases hk
  · rintro e u' w' ⟨rfl, v, β', h', e1, e2, e3⟩
    exact ⟨v, β', h', e1, rfl, e2, e3⟩
/-! ### code that defers -/
abbrev KD := AExit → List AV → Heap → DL → Prop
def PostD (F : Fr) (β : Nat → Nat) (w : World) (h : Heap) (K : KD) (e : Exit) (a : Act) (w' : World) : Prop :=
  ∃ x β' T' h' D', K x T' h' D' ∧ Goes F β w h β' w' h' ∧ ERel (ctx F β' w' h') x e ∧ RelL (ctx F β' w' h') T' a.tmps.toList ∧ DRel (ctx F β' w' h') D' a.defers
def aD (P : Program) (c : Code) (T : List AV) (h : Heap) (D : DL) (K : KD) : Prop :=
  ∀ (F : Fr) (β : Nat → Nat) (w : World) (a : Act), St F β w h → RelL (ctx F β w h) T a.tmps.toList → DRel (ctx F β w h) D a.defers → c.wp P (PostD F β w h K) a w
theorem aD_of_aW {c : Code} {D : DL} {K : KD} (a : aW P h.length c T h (fun e T' h' => K e T' h' D)) : aD P c T h D K := by
  intro F β w act s r hd
  refine wp_mono (a F β w act _ (Nat.le_refl _) s r rfl) ?_
  rintro e a' w' ⟨x, β', T', h', q, g, he, hr, hd'⟩
  exact ⟨x, β', T', h', D, q, g.goes, he, hr, by rw [hd']; exact DRel.le (g.goes.le s) hd⟩
theorem aD_seq {x y : Code} {D : DL} {K : KD} (a : aD P x T h D fun e T' h' D' => match e with | .normal => aD P y T' h' D' K | e => K e T' h' D') : aD P (.seq x y) T h D K := by
  intro F β w act s r hd
  refine wp_seq (wp_mono (a F β w act s r hd) ?_)
  rintro e a' w' ⟨x, β', T', h', D', q, g, he, hr, hd'⟩
  cases x with
  | normal =>
    cases he
    refine wp_mono (q F β' w' a' g.st hr hd') ?_
    rintro e2 a2 w2 ⟨x2, β2, T2, h2, D2, q2, g2, rest⟩
    exact ⟨x2, β2, T2, h2, D2, q2, g.trans g2, rest⟩
  | exit id => cases he; exact ⟨.exit id, β', T', h', D', q, g, rfl, hr, hd'⟩
  | ret => cases he; exact ⟨.ret, β', T', h', D', q, g, rfl, hr, hd'⟩
  | pan v => obtain ⟨v', rfl, rv⟩ := he; exact ⟨.pan v, β', T', h', D', q, g, ⟨v', rfl, rv⟩, hr, hd'⟩
theorem dOpsR_nil (P : Program) (ih : IS) (k : TT → Heap → DL → Option OutH) (t : TT) (h : Heap) (D : DL) : dOpsR P ih k [] t h D = k t h D := rfl
theorem dOpsR_cons (P : Program) (ih : IS) (k : TT → Heap → DL → Option OutH) (o : SOp) (os : List SOp) (t : TT) (h : Heap) (D : DL) : dOpsR P ih k (o :: os) t h D = match tguard t o.g with
    | some true => match o.op with
      | .defer c => match c.callee, c.args.toList with
        | .value g, [] => match teval t g with
          | .fn (.func n) caps => dOpsR P ih k os (tput t o.dst (.tup [])) h ((n, caps) :: D)
          | _ => none
        | _, _ => none
      | op => match rOp P ih.call op t h with
        | some r => dOpsR P ih k os (tput t o.dst r.1) r.2 D
        | none => none
    | some false => dOpsR P ih k os (tput t o.dst (.tup [])) h D
    | none => none := rfl
theorem Act.put_tmps_defers (a : Act) (d : Deferred) (x : Option Tmp) (v : Value) : ({ a with defers := d :: a.defers }.put x v).tmps = (a.put x v).tmps ∧ ({ a with defers := d :: a.defers }.put x v).defers = d :: a.defers := by cases x <;> exact ⟨rfl, rfl⟩
theorem dOps_sound {ih : IS} (hc : CallOk P ih.call) {ops : Array Oper} {K : KD} {k : TT → Heap → DL → Option OutH} {R : OutH} (hk : ∀ t' h' D', Root t' → k t' h' D' = some R → K .normal (toL t') h' D') {F : Fr} {β0 : Nat → Nat} {w0 : World} {h0 : Heap} :
    ∀ (os : List Oper) (l : List Nat) (β : Nat → Nat) (w : World) (h : Heap) (t : TT) (a : Act) (D : DL), l.map (fun i => ops[i]?) = os.map some → Root t → dOpsR P ih k (os.map (slim1 (ops.toList.map (·.dst)))) t h D = some R →
      Goes F β0 w0 h0 β w h → RelL (ctx F β w h) (toL t) a.tmps.toList → DRel (ctx F β w h) D a.defers → wpOps P ops (PostD F β0 w0 h0 K) l a w
  | [], l, β, w, h, t, a, D, hl, ht, e, g, r, hd => by
    cases l with
    | cons _ _ => simp at hl
    | nil => exact ⟨.normal, β, toL t, h, D, hk _ _ _ ht e, g, rfl, r, hd⟩
  | o :: os, l, β, w, h, t, a, D, hl, ht, e, g, r, hd => by
    cases l with
    | nil => simp at hl
    | cons i l =>
      simp only [List.map_cons, List.cons.injEq] at hl
      obtain ⟨ho, hl⟩ := hl
      rw [List.map_cons, dOpsR_cons] at e
      split at e
      · rename_i hg
        have hgd := ht.guard hg
        rw [← sGuard_eq] at hgd
        have hw := aGuard_rel r hgd
        simp only [wpOps, ho, hw, if_true]
        left
        split at e
        · rename_i c hop
          have hop' : o.op = .defer c := hop
          split at e <;> try (cases e; done)
          rename_i gg hcal hargs
          split at e <;> try (cases e; done)
          rename_i n caps hv
          have rf := aEval_rel r gg
          rw [← ht.eval, hv] at rf
          obtain ⟨cs, ef, rcs⟩ := rf
          have hargs' : c.args = #[] := by
            rw [← Array.toArray_toList (xs := c.args), hargs]
          have hrun : (execOp a.eval o).run P w = .ok (.defer { target := .fn (.func n) cs, args := #[] }) w := by
            simp [execOp, hop', resolve, hcal, ef, hargs', Deferred.ofValue, Sem.run_bind, Sem.run_pure, Result.andThen_ok]
          unfold Oper.wp
          rw [hrun, Oper.upon_defer]
          obtain ⟨p1, p2⟩ := ht.put o.dst (.tup [])
          obtain ⟨q1, q2⟩ := Act.put_tmps_defers a { target := .fn (.func n) cs, args := #[] } o.dst undef
          refine dOps_sound hc hk os l β w h _ _ ((n, caps) :: D) hl p1 e g ?_ ?_
          · rw [q1]
            have : toL (tput t o.dst (.tup [])) = aPut (toL t) o.dst (.tup []) := p2
            rw [this]
            exact aPut_rel r (show Rel _ (.tup []) undef from ⟨#[], rfl, rfl⟩) _
          · rw [q2]
            exact ⟨cs, a.defers, rfl, rcs, hd⟩
        · split at e <;> try (cases e; done)
          rename_i v hv
          obtain ⟨p1, p2⟩ := ht.put o.dst v.1
          have hs : sOp P o.op (toL t) h (fun v' h' => v' = v.1 ∧ h' = v.2) (fun _ _ => False) := rOp_sound hc ht hv ⟨rfl, rfl⟩
          refine aOp_sound (sOp_aOp hs) g.st r ?_ ?_
          · rintro v1 v' w' β' h' ⟨rfl, rfl⟩ hg rv
            refine dOps_sound hc hk os l β' w' v.2 _ _ D hl p1 e (g.trans hg) ?_ ?_
            · have : toL (tput t o.dst v.1) = aPut (toL t) o.dst v.1 := p2
              show RelL _ (toL (tput t o.dst v.1)) _
              rw [this]
              exact aPut_rel (RelL.le (hg.le g.st) _ _ r) rv _
            · rw [Act.put_defers']
              exact DRel.le (hg.le g.st) hd
          · intro v1 v' w' β' h' q
            exact q.elim
      · rename_i hg
        have hgd := ht.guard hg
        rw [← sGuard_eq] at hgd
        have hw := aGuard_rel r hgd
        simp only [wpOps, ho, hw, Bool.false_eq_true, if_false]
        obtain ⟨p1, p2⟩ := ht.put o.dst (.tup [])
        refine dOps_sound hc hk os l β w h _ _ D hl p1 e g ?_ ?_
        · have : toL (tput t o.dst (.tup [])) = aPut (toL t) o.dst (.tup []) := p2
          show RelL _ (toL (tput t o.dst (.tup []))) _
          rw [this]
          exact aPut_rel r (show Rel _ (.tup []) undef from ⟨#[], rfl, rfl⟩) _
        · rw [Act.put_defers']
          exact hd
      · cases e
theorem aD_region {ih : IS} (hc : CallOk P ih.call) {id : Nat} {ops : Array Oper} {D : DL} {K : KD} {k : TT → Heap → DL → Option OutH} {R : OutH} {t : TT} (hk : ∀ t' h' D', Root t' → k t' h' D' = some R → K .normal (toL t') h' D') (ht : Root t)
    (e : dOpsR P ih k (slim ops.toList) t h D = some R) : aD P (.region id ops false) (toL t) h D K := by
  intro F β w a s r hd
  refine wp_region (dOps_sound hc hk ops.toList _ β w h t a D ?_ ht e (Goes.refl s) r hd)
  apply List.ext_getElem?
  intro i
  by_cases hi : i < ops.size
  · simp [hi]
  · rw [List.getElem?_eq_none (by simpa using hi), List.getElem?_eq_none (by simpa using hi)]
/-- The deferred calls, and then the end. -/
theorem leaves_D {ih : IS} {I : Itp} {k : Heap → Option OutH} {R : OutH} {fn : Func} {tmps : Array Value} {Q : Ending → World → Prop} {F : Fr} {β0 : Nat → Nat} {w0 : World} {h0 : Heap}
    (hD : ∀ n caps h h', (match I.dsp n caps h with | some h' => some h' | none => (plainS P false ih n caps h).map (·.2)) = some h' → ADefer P n caps h (fun h'' => h'' = h'))
    (hk : ∀ β w h, Goes F β0 w0 h0 β w h → k h = some R → ∃ v, (results fn tmps).run P w = .ok v w ∧ Q (.returned v) w) :
    ∀ {D : DL} {ds : List Deferred} {β : Nat → Nat} {w : World} {h : Heap}, Goes F β0 w0 h0 β w h → DRel (ctx F β w h) D ds → runD P I ih k D h = some R → Leaves P fn tmps Q ds .returning w
  | [], ds, β, w, h, g, hd, e => by
    have : ds = [] := hd
    subst this
    exact hk β w h g e
  | (n, caps) :: D, ds, β, w, h, g, ⟨cs, ds', e1, e2, e3⟩, e => by
    subst e1
    have e' : (match I.dsp n caps h with | some h' => runD P I ih k D h' | none => match plainS P false ih n caps h with | some r => runD P I ih k D r.2 | none => none) = some R := e
    have key : ∃ h', (match I.dsp n caps h with | some h' => some h' | none => (plainS P false ih n caps h).map (·.2)) = some h' ∧ runD P I ih k D h' = some R := by
      cases q : I.dsp n caps h with
      | some h' => rw [q] at e'; exact ⟨h', rfl, e'⟩
      | none =>
        rw [q] at e'
        simp only at e'
        cases q2 : plainS P false ih n caps h with
        | some r => rw [q2] at e'; exact ⟨r.2, rfl, e'⟩
        | none => rw [q2] at e'; cases e'
    obtain ⟨h', hq, e4⟩ := key
    obtain ⟨hcal, hc⟩ := hD _ _ _ _ hq
    refine leaves_cons (by simp) (f := n) (args := #[] ++ cs) ?_ ?_
    · show (callFunc n (#[] ++ cs)).run P w = _
      exact run_callFunc hcal _ w
    · rw [Array.empty_append]
      refine (hc F β w cs g.st e2).mono ?_
      rintro e5 u' w' ⟨v, β', h2, rfl, rfl, rfl, g2⟩
      exact leaves_D hD hk (g.trans g2) (DRel.le (g2.le g.st) e3) e4
end
end Go.AH
namespace Go.AH
open Go
set_option linter.unusedVariables false
set_option linter.unusedSimpArgs false
/-! ### walks that ask for rounds -/
/-- What stands for the open loop's own function is read as that. -/
def sub1 (l : Nat) (v : AV) : AV := if isYph v = true then .fn (.yield l) [] else v
def sub (l : Nat) (T : List AV) : List AV := T.map (sub1 l)
theorem isYph_eq {v : AV} (h : isYph v = true) : v = .fn (.yield 0) [] := by
  unfold isYph at h
  split at h
  · rw [Nat.eq_of_beq_eq_true h]
  · cases h
theorem sub1_zero (v : AV) : sub1 0 v = v := by
  unfold sub1
  split
  · rename_i h; rw [isYph_eq h]
  · rfl
theorem sub_zero (T : List AV) : sub 0 T = T := by
  unfold sub
  rw [List.map_congr_left (g := id) fun x _ => sub1_zero x, List.map_id]
theorem sub1_no {l : Nat} {v : AV} (h : isYph v = false) : sub1 l v = v := by
  unfold sub1
  rw [h]; rfl
theorem sub1_unk (l : Nat) : sub1 l .unk = .unk := rfl
theorem sub_getD (l : Nat) (T : List AV) (i : Nat) : (sub l T).getD i .unk = sub1 l (T.getD i .unk) := by
  unfold sub
  rw [List.getD, List.getD, List.getElem?_map]
  cases T[i]? <;> rfl
theorem sub_put (l : Nat) (T : List AV) (d : Option Tmp) (v : AV) : aPut (sub l T) d (sub1 l v) = sub l (aPut T d v) := by
  cases d with
  | none => rfl
  | some d =>
    show (T.map _).set d _ = (T.set d v).map _
    rw [List.map_set]
theorem sub_guard {l : Nat} {T : List AV} {g : Option (Option Tmp × Bool)} {b : Bool} (h : sGuard T g = some b) : sGuard (sub l T) g = some b := by
  cases g with
  | none => exact h
  | some x =>
    obtain ⟨d, want⟩ := x
    cases d with
    | none => exact h
    | some d =>
      unfold sGuard at h ⊢
      simp only at h ⊢
      unfold sub
      rw [List.getElem?_map]
      cases q : T[d]? with
      | none => rw [q] at h; exact h
      | some v =>
        rw [q] at h
        simp only [Option.map_some]
        cases v <;> first | exact h | (cases h; done)
theorem sOp_mono' {P : Program} {op : Op} {T : List AV} {h : Heap} {next next' pan pan' : AV → Heap → Prop} (ho : sOp P op T h next pan) (hn : ∀ v h', next v h' → next' v h') (hp : ∀ v h', pan v h' → pan' v h') : sOp P op T h next' pan' := by
  unfold sOp at ho ⊢
  split at ho
  · split at ho
    · split at ho
      · refine ho.mono ?_
        intro r h' q
        cases r with
        | ret v => exact hn _ _ q
        | pan v => exact hp _ _ q
      · exact ho.elim
    · split at ho
      · exact hn _ _ ho
      · exact ho.elim
    · exact ho.elim
  · split at ho
    · exact hn _ _ ho
    · exact ho.elim
def YSof : XS → YS
  | .rd => .rd
  | .dr => .dn .ret
  | .de id => .dn (.exit id)
def lN {n0 : Nat} : Option (YR n0) → Nat
  | some y => y.l
  | none => 0
def XE {n0 : Nat} : Option XL → Option (YR n0) → Prop
  | none, none => True
  | some x, some y => y.R = toL x.R ∧ y.ps = x.ps ∧ y.assign = x.as ∧ y.body = x.body ∧ Root x.R
  | _, _ => False
/-- What is to come, of slots as they are read. -/
def XPost (l : Nat) (k : KXC) (R : OutH) : KX := fun x T' h' s' => ∃ t' s2, Root t' ∧ T' = sub l (toL t') ∧ s' = YSof s2 ∧ k x t' h' s2 = some R
/-- A walk that may ask for rounds is sound. -/
def XcOk (P : Program) (ih : IS) : Prop := ∀ (n0 : Nat) (ρ : Option Nat) (e : Option XL) (e' : Option (YR n0)) (top : Bool) (c : Code) (t : TT) (h : Heap) (s : XS) (k : KXC) (R : OutH),
  XE e e' → (top = true → ρ = none ∧ e = none) → Root t → ih.xc e top c t h s k = some R → aX P ρ e' c (sub (lN e') (toL t)) h (YSof s) (XPost (lN e') k R)
theorem setsT_spec : ∀ {ps : List Tmp} {xs : List AV} {t : TT}, Root t → Root (setsT t ps xs) ∧ toL (setsT t ps xs) = setsL (toL t) ps xs
  | [], xs, t, h => by
    unfold setsT setsL
    exact ⟨h, rfl⟩
  | p :: ps, [], t, h => by
    unfold setsT setsL
    exact ⟨h, rfl⟩
  | p :: ps, x :: xs, t, h => by
    unfold setsT setsL
    obtain ⟨h1, h2⟩ := h.set p x
    rw [← h2]
    exact setsT_spec h1
theorem sameLen_eq {α β : Type} : ∀ {a : List α} {b : List β}, sameLen a b = true → a.length = b.length
  | [], [], _ => rfl
  | _ :: a, _ :: b, h => by simp only [List.length_cons]; rw [sameLen_eq (a := a) (b := b) h]
  | [], _ :: _, h => by cases h
  | _ :: _, [], h => by cases h
theorem xOpsR_nil (P : Program) (ih : IS) (e : Option XL) (k : TT → Heap → XS → Option OutH) (t : TT) (h : Heap) (s : XS) : xOpsR P ih e k [] t h s = k t h s := rfl
theorem xOpsR_cons (P : Program) (ih : IS) (e : Option XL) (k : TT → Heap → XS → Option OutH) (o : SOp) (os : List SOp) (t : TT) (h : Heap) (s : XS) : xOpsR P ih e k (o :: os) t h s = match tguard t o.g with
    | some true => xOpR P ih e o.op t h s fun v h' s' => xOpsR P ih e k os (tput t o.dst v) h' s'
    | some false => xOpsR P ih e k os (tput t o.dst (.tup [])) h s
    | none => none := rfl
theorem all_no {t : TT} {l : List Operand} (h : (l.all fun x => !isYph (teval t x)) = true) : ∀ x ∈ l, isYph (teval t x) = false := by
  intro x hx
  have := List.all_eq_true.1 h x hx
  simpa using this
theorem aEval_sub_no {l : Nat} {t : TT} (ht : Root t) {x : Operand} (h : isYph (teval t x) = false) : aEval (sub l (toL t)) x = teval t x := by
  cases x with
  | tmp i =>
    have h1 : teval t (.tmp i) = (toL t).getD i .unk := ht.get i
    show (sub l (toL t)).getD i .unk = _
    rw [sub_getD, ← h1, sub1_no h]
  | const v => rfl
  | global g => rfl
  | func f => rfl
section
variable {P : Program} {ih : IS} {n0 : Nat} {e : Option XL} {e' : Option (YR n0)}
theorem xOpR_sound (hc : CallOk P ih.call) (hx : XcOk P ih) (he : XE e e') {o : Oper} {t : TT} {h : Heap} {s : XS} {N : AV → Heap → XS → Option OutH} {R : OutH} (ht : Root t) (hr : xOpR P ih e o.op t h s N = some R)
    {next : AV → Heap → YS → Prop} {pan : AV → Heap → YS → Prop} (hn : ∀ v h' s', N v h' s' = some R → next (sub1 (lN e') v) h' (YSof s')) : xOp P e' o (sub (lN e') (toL t)) h (YSof s) next pan := by
  unfold xOpR at hr
  split at hr
  · rename_i i hm
    have hop : o.op = .move (.tmp i) := by
      unfold moveOf at hm
      split at hm
      · rename_i j hj; cases hm; exact hj
      · cases hm
    refine xOp_of_aOp ?_
    unfold aOp
    rw [hop]
    have : ev P (aEval (sub (lN e') (toL t))) (.move (.tmp i)) h = some (aEval (sub (lN e') (toL t)) (.tmp i), h) := rfl
    simp only [this]
    have e1 : aEval (sub (lN e') (toL t)) (.tmp i) = sub1 (lN e') (tget t i) := by
      show (sub (lN e') (toL t)).getD i .unk = _
      rw [sub_getD, ht.get]
    rw [e1]
    exact hn _ _ _ hr
  · rename_i hm
    cases hy : noYph t o.op with
    | true =>
      rw [hy] at hr
      simp only [cond_true] at hr
      split at hr <;> try (cases hr; done)
      rename_i r hrop
      cases hv : isYph r.1 with
      | true => rw [hv] at hr; cases hr
      | false =>
        rw [hv] at hr
        simp only [cond_false] at hr
        have hno := all_no hy
        refine xOp_of_aOp (sOp_aOp ?_)
        have hs : sOp P o.op (toL t) h (fun v h' => v = r.1 ∧ h' = r.2) (fun _ _ => False) := rOp_sound hc ht hrop ⟨rfl, rfl⟩
        have hs2 := sOp_congr (T' := sub (lN e') (toL t)) o.op h (fun x hx => by
          rw [aEval_sub_no ht (hno x (by simpa using hx)), ht.eval]) hs
        have hn' : next r.1 r.2 (YSof s) := by
          have := hn _ _ _ hr
          rwa [sub1_no hv] at this
        exact sOp_mono' hs2 (by rintro v h' ⟨rfl, rfl⟩; exact hn') (fun _ _ q => q.elim)
    | false =>
      rw [hy] at hr
      simp only [cond_false] at hr
      split at hr <;> try (cases hr; done)
      rename_i y i hcal
      cases e' with
      | none => exact he.elim
      | some y' =>
      obtain ⟨e1, e2, e3, e4, e5⟩ := he
      obtain ⟨q1, hr⟩ := cond_some hr
      obtain ⟨q2, hr⟩ := cond_some hr
      obtain ⟨q3, hr⟩ := cond_some hr
      obtain ⟨as, ts, hop⟩ : ∃ as ts, o.op = .call ⟨.value (.tmp i), as, ts⟩ := by
        unfold calleeV at hcal
        split at hcal <;> try (cases hcal; done)
        rename_i c hc0
        obtain ⟨ce, as, ts⟩ := c
        cases ce with
        | value g => cases g with
          | tmp j => cases hcal; exact ⟨as, ts, hc0⟩
          | _ => cases hcal
        | _ => cases hcal
      have hca : callArgs o.op = as.toList := by rw [hop]; rfl
      rw [hca] at q2 q3 hr
      have hf : aEval (sub y'.l (toL t)) (.tmp i) = .fn (.yield y'.l) [] := by
        show (sub y'.l (toL t)).getD i .unk = _
        rw [sub_getD, ← ht.get]
        unfold sub1
        rw [if_pos q1]
      have hargs : as.toList.map (aEval (sub y'.l (toL t))) = as.toList.map (teval t) := List.map_congr_left fun x hx => aEval_sub_no ht (all_no q3 x hx)
      have hxop : xOp P (some y') o (sub (lN (some y')) (toL t)) h (YSof .rd) next pan = yArm P (some y') y'.l (as.toList.map (aEval (sub y'.l (toL t)))) h (YSof .rd) next := by
        unfold xOp
        rw [hop]
        simp only
        split
        · rename_i l' hl'
          have : aEval (sub y'.l (toL t)) (.tmp i) = .fn (.yield l') [] := hl'
          rw [hf] at this
          cases this
          rfl
        · rename_i hne
          exact absurd hf (hne _)
      rw [hxop, hargs]
      obtain ⟨s1, s2⟩ := setsT_spec (ps := y.ps) (xs := as.toList.map (teval t)) e5
      refine ⟨y', rfl, rfl, rfl, ?_, ?_⟩
      · rw [List.length_map, e2]; exact sameLen_eq q2
      · have a1 := hx h.length (some y'.l) none none false y.as _ h .rd _ R trivial (fun q => by cases q) s1 hr
        rw [e1, e2, e3, ← s2]
        have z : ∀ T, sub (lN (none : Option (YR h.length))) T = T := sub_zero
        rw [z] at a1
        refine aX_mono a1 ?_
        rintro x T1 h1 s3 _ ⟨t1, s4, r1, rfl, rfl, hk⟩
        rw [z]
        cases x with
        | normal =>
          simp only at hk ⊢
          have a2 := hx h.length (some y'.l) none none false y.body _ h1 .rd _ R trivial (fun q => by cases q) r1 hk
          rw [z] at a2
          rw [e4]
          refine aX_mono a2 ?_
          rintro x2 T2 h2 s5 _ ⟨t2, s6, r2, rfl, rfl, hk2⟩
          cases x2 with
          | normal => exact hn _ _ _ hk2
          | ret => exact hn _ _ _ hk2
          | exit id => exact hn _ _ _ hk2
          | pan v => cases hk2
        | ret => cases hk
        | exit id => cases hk
        | pan v => cases hk
theorem xOps_sound' (hc : CallOk P ih.call) (hx : XcOk P ih) (he : XE e e') {ops : Array Oper} {K : KX} {k : TT → Heap → XS → Option OutH} {R : OutH} (hk : ∀ t' h' s', Root t' → k t' h' s' = some R → K .normal (sub (lN e') (toL t')) h' (YSof s')) :
    ∀ (os : List Oper) {t : TT} {h : Heap} {s : XS}, Root t → xOpsR P ih e k (os.map (slim1 (ops.toList.map (·.dst)))) t h s = some R → xOps P e' ops K os (sub (lN e') (toL t)) h (YSof s)
  | [], t, h, s, ht, hr => hk _ _ _ ht hr
  | o :: os, t, h, s, ht, hr => by
    rw [List.map_cons, xOpsR_cons] at hr
    unfold xOps
    rw [sGuard_eq]
    split at hr
    · rename_i hg
      rw [sub_guard (ht.guard hg)]
      simp only [if_true]
      refine xOpR_sound hc hx he ht hr ?_
      intro v h' s' hn
      obtain ⟨p1, p2⟩ := ht.put (slim1 (ops.toList.map (·.dst)) o).dst v
      have := xOps_sound' hc hx he hk os p1 hn
      rw [p2, ← sub_put] at this
      exact this
    · rename_i hg
      rw [sub_guard (ht.guard hg)]
      simp only [Bool.false_eq_true, if_false]
      obtain ⟨p1, p2⟩ := ht.put (slim1 (ops.toList.map (·.dst)) o).dst (.tup [])
      have := xOps_sound' hc hx he hk os p1 hr
      rw [p2, ← sub_put] at this
      exact this
    · cases hr
end
/-! ### ids that are known to the caller -/
theorem allLt_mem {n : Nat} : ∀ {l : List Nat}, allLt n l = true → ∀ i ∈ l, i < n
  | [], _, i, h => by simp at h
  | j :: l, h, i, hi => by
    unfold allLt at h
    obtain ⟨h1, h2⟩ := cond_false_r h
    rcases List.mem_cons.1 hi with rfl | hi
    · exact Nat.lt_of_not_le fun q => by rw [Nat.ble_eq_true_of_le q] at h1; cases h1
    · exact allLt_mem h2 i hi
mutual
theorem ren_ids {m : Nat → Nat} : ∀ (x : AV) {l : List Nat}, (∀ i ∈ idsA x l, m i = i) → ren m x = x ∧ ∀ i ∈ l, m i = i
  | .ptr id off, l, h => ⟨by rw [ren, h id (by simp [idsA])], fun i hi => h i (by simp [idsA, hi])⟩
  | .sl id off len cap, l, h => ⟨by rw [ren, h id (by simp [idsA])], fun i hi => h i (by simp [idsA, hi])⟩
  | .gsl id len esz, l, h => ⟨by rw [ren, h id (by simp [idsA])], fun i hi => h i (by simp [idsA, hi])⟩
  | .osl id hi, l, h => ⟨by rw [ren, h id (by simp [idsA])], fun i hi => h i (by simp [idsA, hi])⟩
  | .lnb id, l, h => ⟨by rw [ren, h id (by simp [idsA])], fun i hi => h i (by simp [idsA, hi])⟩
  | .map id, l, h => ⟨by rw [ren, h id (by simp [idsA])], fun i hi => h i (by simp [idsA, hi])⟩
  | .iptr cs, l, h => by obtain ⟨h1, h2⟩ := renL_ids cs (by simpa only [idsA] using h); exact ⟨by rw [ren, h1], h2⟩
  | .isl cs len, l, h => by obtain ⟨h1, h2⟩ := renL_ids cs (by simpa only [idsA] using h); exact ⟨by rw [ren, h1], h2⟩
  | .fn f cs, l, h => by obtain ⟨h1, h2⟩ := renL_ids cs (by simpa only [idsA] using h); exact ⟨by rw [ren, h1], h2⟩
  | .bfn f cs, l, h => by obtain ⟨h1, h2⟩ := renL_ids cs (by simpa only [idsA] using h); exact ⟨by rw [ren, h1], h2⟩
  | .agg cs, l, h => by obtain ⟨h1, h2⟩ := renL_ids cs (by simpa only [idsA] using h); exact ⟨by rw [ren, h1], h2⟩
  | .tup cs, l, h => by obtain ⟨h1, h2⟩ := renL_ids cs (by simpa only [idsA] using h); exact ⟨by rw [ren, h1], h2⟩
  | .ifc t v, l, h => by obtain ⟨h1, h2⟩ := ren_ids v (by simpa only [idsA] using h); exact ⟨by rw [ren, h1], h2⟩
  | .unk, l, h | .bool _, l, h | .int _ _, l, h | .str _, l, h | .nilp, l, h | .nilsl, l, h | .esl, l, h | .nilm, l, h | .nilf, l, h | .nili, l, h | .any _, l, h | .lin _ _, l, h | .sym _, l, h | .gptr _ _, l, h | .anyb, l, h | .atl _ _, l, h | .txt _ _, l, h | .oct _ _, l, h | .bstr _ _, l, h =>
    ⟨rfl, fun i hi => h i (by simpa only [idsA] using hi)⟩
theorem renL_ids {m : Nat → Nat} : ∀ (xs : List AV) {l : List Nat}, (∀ i ∈ idsL xs l, m i = i) → renL m xs = xs ∧ ∀ i ∈ l, m i = i
  | [], l, h => ⟨rfl, fun i hi => h i (by simpa only [idsL] using hi)⟩
  | x :: xs, l, h => by
    obtain ⟨h1, h2⟩ := ren_ids x (by simpa only [idsL] using h)
    obtain ⟨h3, h4⟩ := renL_ids xs h2
    exact ⟨by rw [renL, h1, h3], h4⟩
end
theorem leL_self {m : Nat → Nat} : ∀ {xs : List AV}, renL m xs = xs → LeL m xs xs
  | [], _ => trivial
  | x :: xs, h => by
    simp only [renL, List.cons.injEq] at h
    refine ⟨?_, leL_self h.2⟩
    unfold LeV
    split
    · trivial
    · exact h.1
end Go.AH
namespace Go.AH
open Go
set_option linter.unusedVariables false
set_option linter.unusedSimpArgs false
def plOk (I : Itp) (f : FuncId) : Code → Bool
  | .region id ops d => bif d then (match I.plan f id with
    | some (.chain pl) => planOk ops.toList pl
    | some (.tree t anc E) => treeOk ops.toList anc E t
    | none => true) else true
  | .seq a b => plOk I f a && plOk I f b
  | .cond _ a b => plOk I f a && plOk I f b
  | .block _ a => plOk I f a
  | .loop a => plOk I f a
  | _ => true
structure ItpOk (P : Program) (I : Itp) : Prop where
  sp : CallOk P I.sp
  dsp : ∀ n caps h h', I.dsp n caps h = some h' → ADefer P n caps h (fun h'' => h'' = h')
  plan : ∀ f fn c, P.funcs[f]? = some fn → fn.body = some c → plOk I f c = true
  mixed : P.follows .mixedOrders = true
  name : ∀ (f : FuncId) (fn : Func), P.funcs[f]? = some fn → (fn.name == "runtime.NumGoroutine") = false
section
variable {P : Program} {n0 : Nat} {T : List AV} {h : Heap}
theorem aW_condAny {c : Operand} {x y : Code} {K : AExit → List AV → Heap → Prop} (hc : aEval T c = .anyb) (ht : aW P n0 x T h K) (hf : aW P n0 y T h K) : aW P n0 (.cond c x y) T h K := by
  intro F β w act D hn s r hd
  have rc := aEval_rel r c
  rw [hc] at rc
  obtain ⟨b, rc⟩ := rc
  exact wp_cond_split rc (fun e => ht F β w act D hn s r hd) (fun e => hf F β w act D hn s r hd)
theorem renO_self {x y : AV} (h : renO [] x = some y) (m : Nat → Nat) : ren m x = y := by
  have h1 : ∀ m, ren m y = x := fun m => renO_ren (by simp) h
  have h2 : y = x := by rw [← h1 (fun i => i), ren_id]
  rw [← h1 m, h2]
  have h3 := h1 m
  rw [h2] at h3
  rw [h3, h3]
theorem back_sound {f : FuncId} {args0 args : List AV} {h0 h1 : Heap} {r1 : AV} (c : ACalls P f args0 h0 (fun r h' => r = .ret r1 ∧ h' = h1)) {ms : List Nat}
    (hargs : renOL ms args = some args0) (hh : subH ms h ms = some h0) (nd : nodupB ms = true) {r : AV} {h' : Heap} (hb : back ms h (r1, h1) = some (r, h')) :
    ACalls P f args h (fun r' h'' => r' = .ret r ∧ h'' = h') := by
  unfold back at hb
  simp only at hb
  split at hb
  · split at hb <;> try (cases hb; done)
    split at hb <;> simp only [Option.some.injEq, Prod.mk.injEq, reduceCtorEq] at hb
    rename_i r' hr
    obtain ⟨rfl, rfl⟩ := hb
    refine (c.framed hargs hh nd (by simp)).mono ?_
    rintro r2 h2 ⟨rfl, rfl⟩
    exact ⟨by rw [renO_self hr], by simp [merge, upd]⟩
  · obtain ⟨h2, h3⟩ := cond_some hb
    simp only [Option.some.injEq, Prod.mk.injEq] at h3
    obtain ⟨rfl, rfl⟩ := h3
    exact c.framed hargs hh nd (Nat.le_of_ble_eq_true h2)


/-- What a walk says. -/
def CodeOk (P : Program) (I : Itp) (ih : IS) : Prop := ∀ (f : FuncId) (c : Code) (t : TT) (h : Heap) (k : KC) (R : OutH) (n0 : Nat), plOk I f c = true → Root t → ih.code f c t h k = some R →
  aW P n0 c (toL t) h (fun e T' h' => ∃ t', Root t' ∧ T' = toL t' ∧ k e t' h' = some R)
def DcOk (P : Program) (I : Itp) (ih : IS) : Prop := ∀ (f : FuncId) (c : Code) (t : TT) (h : Heap) (D : DL) (k : AExit → TT → Heap → DL → Option OutH) (R : OutH), plOk I f c = true → Root t → ih.dc f c t h D k = some R →
  aD P c (toL t) h D (fun e T' h' D' => ∃ t', Root t' ∧ T' = toL t' ∧ k e t' h' D' = some R)
structure ISok (P : Program) (I : Itp) (ih : IS) : Prop where
  code : CodeOk P I ih
  body : CallOk P ih.body
  call : CallOk P ih.call
  xc : XcOk P ih
  dc : DcOk P I ih
theorem isZ_ok (I : Itp) : ISok P I isZ := ⟨fun _ _ _ _ _ _ _ _ _ e => (by cases e), fun _ _ _ _ _ e => (by cases e), fun _ _ _ _ _ e => (by cases e), fun _ _ _ _ _ _ _ _ _ _ _ _ _ _ e => (by cases e), fun _ _ _ _ _ _ _ _ _ e => (by cases e)⟩
theorem fin_body' {fn : Func} {e : AExit} {R : OutH} {T : List AV} (hx : ∃ t, Root t ∧ T = toL t ∧ fin P fn n0 e t h = some R) : Body P fn n0 (fun r' h'' => r' = .ret R.1 ∧ h'' = R.2) e T h := by
  obtain ⟨t, ht, rfl, hf⟩ := hx
  exact fin_body ht hf
theorem fin_body2 {nm : Bool} {fn : Func} {e : AExit} {R : OutH} {T : List AV} (hx : ∃ t, Root t ∧ T = toL t ∧ (bif nm then finN P fn n0 else fin P fn n0) e t h = some R) : Body P fn n0 (fun r' h'' => r' = .ret R.1 ∧ h'' = R.2) e T h := by
  obtain ⟨t, ht, rfl, hf⟩ := hx
  cases nm with
  | true => exact finN_body ht hf
  | false => exact fin_body ht hf
theorem plainS_sound {I : Itp} (ok : ItpOk P I) {nm : Bool} {ih : IS} (hc : CodeOk P I ih) {f : FuncId} {args : List AV} {h : Heap} {R : OutH} (e : plainS P nm ih f args h = some R) :
    ∃ fn c, P.funcs[f]? = some fn ∧ fn.body = some c ∧ aW P h.length c (args ++ List.replicate (fn.ntmps - args.length) (.tup [])) h (Body P fn h.length fun r' h'' => r' = .ret R.1 ∧ h'' = R.2) := by
  unfold plainS at e
  split at e <;> try (cases e; done)
  rename_i fn hf
  split at e <;> try (cases e; done)
  rename_i c hb
  obtain ⟨hl, e⟩ := cond_some e
  obtain ⟨h1, h2⟩ := tstart_spec fn.ntmps args (Nat.le_of_ble_eq_true hl)
  refine ⟨fn, c, hf, hb, ?_⟩
  have := hc f c _ h _ R h.length (ok.plan f fn c hf hb) h1 e
  rw [h2] at this
  exact aW_mono this fun x T' h' _ q => fin_body2 q
theorem codeS_sound {I : Itp} (ok : ItpOk P I) {n : Nat} (hi : ∀ m, m < n + 1 → ISok P I (rAll P I m)) : CodeOk P I (rAll P I (n + 1)) := by
  have ihn := hi n (Nat.lt_succ_self n)
  intro f c t h k R n0 hp ht e
  have e : codeS P I (rAll P I n) f c t h k = some R := e
  unfold codeS at e
  cases c with
  | skip => exact aW_skip ⟨t, ht, rfl, e⟩
  | region id ops d =>
    simp only at e
    cases d with
    | false =>
      simp only [cond_false] at e
      split at e <;> try (cases e; done)
      rename_i r hr
      exact aW_region (sOps_aOps P ops _ ops.toList _ h (rOps_sound (K := fun e T' h' => ∃ t', Root t' ∧ T' = toL t' ∧ k e t' h' = some R) ihn.call ht hr fun hr' => ⟨r.1, hr', rfl, e⟩))
    | true =>
      simp only [cond_true] at e
      unfold plOk at hp
      simp only [cond_true] at hp
      split at e <;> try (cases e; done)
      · rename_i pl hpl
        rw [hpl] at hp
        exact aW_draw ok.mixed pl hp (rDraw_sound (K := fun e T' h' => ∃ t', Root t' ∧ T' = toL t' ∧ k e t' h' = some R) ihn.call (fun t' h' ht' q => ⟨t', ht', rfl, q⟩) ht e)
      · rename_i dt anc E hpl
        rw [hpl] at hp
        exact aW_tdraw ok.mixed dt anc E hp (rTree_sound (K := fun e T' h' => ∃ t', Root t' ∧ T' = toL t' ∧ k e t' h' = some R) ihn.call (fun t' h' ht' q => ⟨t', ht', rfl, q⟩) ht e)
  | seq a b =>
    simp only at e
    unfold plOk at hp
    rw [Bool.and_eq_true] at hp
    refine aW_seq (aW_mono (ihn.code f a t h _ R n0 hp.1 ht e) ?_)
    rintro x T' h' _ ⟨t', ht', rfl, q⟩
    cases x with
    | normal => exact ihn.code f b t' h' k R n0 hp.2 ht' q
    | _ => exact ⟨t', ht', rfl, q⟩
  | cond x a b =>
    simp only at e
    unfold plOk at hp
    rw [Bool.and_eq_true] at hp
    rw [ht.eval] at e
    split at e <;> try (cases e; done)
    · rename_i b0 hb
      cases b0 with
      | true => exact aW_cond hb (fun _ => ihn.code f a t h k R n0 hp.1 ht e) (fun q => by cases q)
      | false => exact aW_cond hb (fun q => by cases q) (fun _ => ihn.code f b t h k R n0 hp.2 ht e)
    · rename_i hb
      obtain ⟨h1, h2⟩ := both_some e
      exact aW_condAny hb (ihn.code f a t h k R n0 hp.1 ht h1) (ihn.code f b t h k R n0 hp.2 ht h2)
  | block i a =>
    simp only at e
    unfold plOk at hp
    refine aW_block (aW_mono (ihn.code f a t h _ R n0 hp ht e) ?_)
    rintro x T' h' _ ⟨t', ht', rfl, q⟩
    cases x with
    | exit j =>
      simp only at q
      simp only [InBlock]
      cases hj : Nat.beq j i with
      | true =>
        rw [hj] at q
        rw [if_pos (Nat.eq_of_beq_eq_true hj)]
        exact ⟨t', ht', rfl, q⟩
      | false =>
        rw [hj] at q
        rw [if_neg (fun p => by rw [p, Nat.beq_refl] at hj; cases hj)]
        exact ⟨t', ht', rfl, q⟩
    | _ => exact ⟨t', ht', rfl, q⟩
  | loop a =>
    have hp' : plOk I f a = true := by unfold plOk at hp; exact hp
    refine aW_loop (fun m T h => ∃ t, m ≤ n + 1 ∧ Root t ∧ T = toL t ∧ (rAll P I m).code f (.loop a) t h k = some R) (n + 1) ⟨t, Nat.le_refl _, ht, rfl, e⟩ ?_
    rintro m T h hn ⟨t, hm, ht, rfl, hr⟩
    cases m with
    | zero => cases hr
    | succ m =>
      have hr : (rAll P I m).code f a t h (fun e t' h' => match e with
        | .normal => (rAll P I m).code f (.loop a) t' h' k
        | e => k e t' h') = some R := hr
      refine aW_mono ((hi m (by omega)).code f a t h _ R n0 hp' ht hr) ?_
      rintro x T' h' hl ⟨t', ht', rfl, q⟩
      cases x with
      | normal => exact ⟨m, _, toL t', h', Nat.lt_succ_self m, Weak.forget (LeU.refl _) hl, t', by omega, ht', rfl, q⟩
      | _ => exact ⟨t', ht', rfl, q⟩
  | exit i => exact aW_exit ⟨t, ht, rfl, e⟩
  | ret => exact aW_ret ⟨t, ht, rfl, e⟩
  | _ => cases e
theorem dcS_sound {I : Itp} {n : Nat} (hi : ISok P I (rAll P I n)) : DcOk P I (rAll P I (n + 1)) := by
  intro f c t h D k R hp ht e
  have e : dcS P (rAll P I n) f c t h D k = some R := e
  have other : (rAll P I n).code f c t h (fun e t' h' => k e t' h' D) = some R → aD P c (toL t) h D (fun e T' h' D' => ∃ t', Root t' ∧ T' = toL t' ∧ k e t' h' D' = some R) := fun e => aD_of_aW (hi.code f c t h _ R h.length hp ht e)
  unfold dcS at e
  cases c with
  | region id ops d =>
    simp only at e
    cases d with
    | true => exact other e
    | false => exact aD_region hi.call (fun t' h' D' ht' q => ⟨t', ht', rfl, q⟩) ht e
  | seq a b =>
    simp only at e
    unfold plOk at hp
    rw [Bool.and_eq_true] at hp
    refine aD_seq ?_
    intro F β w act s r hd
    refine wp_mono (hi.dc f a t h D _ R hp.1 ht e F β w act s r hd) ?_
    rintro e2 a2 w2 ⟨x, β', T', h', D', ⟨t', ht', rfl, q⟩, rest⟩
    refine ⟨x, β', toL t', h', D', ?_, rest⟩
    cases x with
    | normal => exact hi.dc f b t' h' D' k R hp.2 ht' q
    | _ => exact ⟨t', ht', rfl, q⟩
  | _ => exact other e
end
end Go.AH
namespace Go.AH
open Go
set_option linter.unusedVariables false
set_option linter.unusedSimpArgs false
section
variable {P : Program}
theorem aX_xreg' {n0 : Nat} {ρ : Option Nat} {e : Option XL} {e' : Option (YR n0)} {ih : IS} (hc : CallOk P ih.call) (hx : XcOk P ih) (he : XE e e') {id : Nat} {ops : Array Oper} {t : TT} {h : Heap} {s : XS} {k : KXC} {R : OutH} (ht : Root t)
    (hr : xOpsR P ih e (k .normal) (slim ops.toList) t h s = some R) : aX P ρ e' (.region id ops false) (sub (lN e') (toL t)) h (YSof s) (XPost (lN e') k R) :=
  aX_xregion (xOps_sound' hc hx he (fun t' h' s' ht' q => ⟨t', s', ht', rfl, rfl, q⟩) ops.toList ht hr)
theorem xcS_sound {I : Itp} (ok : ItpOk P I) {n : Nat} (hi : ∀ m, m < n + 1 → ISok P I (rAll P I m)) : XcOk P (rAll P I (n + 1)) := by
  have ihn := hi n (Nat.lt_succ_self n)
  intro n0 ρ e e' top c t h s k R he htop ht hr
  have hr : xcS P (rAll P I n) e top c t h s k = some R := hr
  unfold xcS at hr
  cases c with
  | skip => exact aX_skip ⟨t, s, ht, rfl, rfl, hr⟩
  | region id ops d =>
    simp only at hr
    cases d with
    | true => cases hr
    | false => exact aX_xreg' ihn.call ihn.xc he ht hr
  | seq a b =>
    simp only at hr
    refine aX_seq (aX_mono (ihn.xc n0 ρ e e' top a t h s _ R he htop ht hr) ?_)
    rintro x T' h' s' _ ⟨t', s2, ht', rfl, rfl, q⟩
    cases x with
    | normal => exact ihn.xc n0 ρ e e' top b t' h' s2 k R he htop ht' q
    | _ => exact ⟨t', s2, ht', rfl, rfl, q⟩
  | cond x a b =>
    simp only at hr
    split at hr <;> try (cases hr; done)
    rename_i b0 hb
    have hb' : aEval (sub (lN e') (toL t)) x = .bool b0 := by rw [aEval_sub_no ht (by rw [hb]; rfl), hb]
    cases b0 with
    | true => exact aX_cond hb' (fun _ => ihn.xc n0 ρ e e' top a t h s k R he htop ht hr) (fun q => by cases q)
    | false => exact aX_cond hb' (fun q => by cases q) (fun _ => ihn.xc n0 ρ e e' top b t h s k R he htop ht hr)
  | block i a =>
    simp only at hr
    refine aX_block (aX_mono (ihn.xc n0 ρ e e' top a t h s _ R he htop ht hr) ?_)
    rintro x T' h' s' _ ⟨t', s2, ht', rfl, rfl, q⟩
    cases x with
    | exit j =>
      simp only at q
      simp only [InBlockX]
      cases hj : Nat.beq j i with
      | true =>
        rw [hj] at q
        rw [if_pos (Nat.eq_of_beq_eq_true hj)]
        exact ⟨t', s2, ht', rfl, rfl, q⟩
      | false =>
        rw [hj] at q
        rw [if_neg (fun p => by rw [p, Nat.beq_refl] at hj; cases hj)]
        exact ⟨t', s2, ht', rfl, rfl, q⟩
    | _ => exact ⟨t', s2, ht', rfl, rfl, q⟩
  | loop a =>
    refine aX_loop (fun m T h s' => ∃ t s, m ≤ n + 1 ∧ Root t ∧ T = sub (lN e') (toL t) ∧ s' = YSof s ∧ (rAll P I m).xc e top (.loop a) t h s k = some R) (n + 1) ⟨t, s, Nat.le_refl _, ht, rfl, rfl, hr⟩ ?_
    rintro m T h s' hn ⟨t, s, hm, ht, rfl, rfl, hr⟩
    cases m with
    | zero => cases hr
    | succ m =>
      have hr : (rAll P I m).xc e top a t h s (fun x t' h' s' => match x with
        | .normal => (rAll P I m).xc e top (.loop a) t' h' s' k
        | x => k x t' h' s') = some R := hr
      refine aX_mono ((hi m (by omega)).xc n0 ρ e e' top a t h s _ R he htop ht hr) ?_
      rintro x T' h' s' hl ⟨t', s2, ht', rfl, rfl, q⟩
      cases x with
      | normal => exact ⟨m, _, _, h', Nat.lt_succ_self m, Weak.forget (LeU.refl _) hl, t', s2, by omega, ht', rfl, rfl, q⟩
      | _ => exact ⟨t', s2, ht', rfl, rfl, q⟩
  | exit i => exact aX_exit ⟨t, s, ht, rfl, rfl, hr⟩
  | ret => exact aX_ret ⟨t, s, ht, rfl, rfl, hr⟩
  | rangeFunc g ps as body =>
    simp only at hr
    obtain ⟨h1, hr⟩ := cond_some hr
    obtain ⟨hρ, hen⟩ := htop h1
    subst hρ
    subst hen
    cases e' with
    | some y => exact he.elim
    | none =>
    split at hr <;> try (cases hr; done)
    rename_i gf caps _ hg
    split at hr <;> try (cases hr; done)
    rename_i fn hf
    split at hr <;> try (cases hr; done)
    rename_i c' hb hres
    obtain ⟨h2, hr⟩ := cond_some hr
    obtain ⟨h3, hr⟩ := cond_some hr
    rw [Bool.and_eq_true] at h3
    have z : ∀ T, sub (lN (none : Option (YR n0))) T = T := sub_zero
    rw [z]
    rw [ht.eval] at hg
    obtain ⟨q1, q2⟩ := tstart_spec fn.ntmps (.fn (.yield 0) [] :: caps) (Nat.le_of_ble_eq_true (by simpa using h3.1))
    refine aX_range hg hf hb (ok.name gf fn hf) (by rw [← Array.toArray_toList (xs := fn.results), hres]) (toL t) (LeU.refl _) ?_ ?_
    · intro m hm
      exact leL_self (renL_ids (l := []) _ fun i hi => hm i (allLt_mem h2 i hi)).1
    · intro y y1 y2 y3 y4
      have := ihn.xc h.length none (some ⟨t, ps.toList, as, body⟩) (some y) false c' _ h .rd _ R ⟨y1, y2, y3, y4, ht⟩ (fun q => by cases q) q1 hr
      rw [q2] at this
      have e2 : sub (lN (some y)) ((AV.fn (.yield 0) [] :: caps) ++ List.replicate (fn.ntmps - (AV.fn (.yield 0) [] :: caps).length) (.tup [])) = (.fn (.yield y.l) [] :: caps) ++ List.replicate (fn.ntmps - (caps.length + 1)) (.tup []) := by
        have hcaps : caps.map (sub1 (lN (some y))) = caps := by
          conv => rhs; rw [← List.map_id caps]
          exact List.map_congr_left fun x hx => sub1_no (by simpa using List.all_eq_true.1 h3.2 x hx)
        unfold sub
        rw [List.map_append, List.map_cons, List.map_replicate, hcaps]
        rfl
      rw [e2] at this
      refine aX_mono this ?_
      rintro x T' h' s' _ ⟨t', s2, ht', rfl, rfl, q⟩
      cases x with
      | normal =>
        cases s2 with
        | rd => exact ⟨t, s, ht, (z _).symm, rfl, q⟩
        | dr => exact ⟨t, s, ht, (z _).symm, rfl, q⟩
        | de id => exact ⟨t, s, ht, (z _).symm, rfl, q⟩
      | ret =>
        cases s2 with
        | rd => exact ⟨t, s, ht, (z _).symm, rfl, q⟩
        | dr => exact ⟨t, s, ht, (z _).symm, rfl, q⟩
        | de id => exact ⟨t, s, ht, (z _).symm, rfl, q⟩
      | exit i => cases q
      | pan v => cases q
  | _ => cases hr
theorem bodyS_sound {I : Itp} (ok : ItpOk P I) {ih : IS} (hi : ISok P I ih) : CallOk P (bodyS P I ih) := by
  intro f args h r h' e
  unfold bodyS at e
  split at e
  · obtain ⟨fn, c, hf, hb, a⟩ := plainS_sound ok hi.code e
    exact acalls_body hf hb (ok.name f fn hf) a
  · obtain ⟨fn, c, hf, hb, a⟩ := plainS_sound ok hi.code e
    exact acalls_body hf hb (ok.name f fn hf) a
  · split at e <;> try (cases e; done)
    rename_i fn hf
    split at e <;> try (cases e; done)
    rename_i c hb
    obtain ⟨hl, e⟩ := cond_some e
    obtain ⟨h1, h2⟩ := tstart_spec fn.ntmps args (Nat.le_of_ble_eq_true hl)
    have := hi.xc h.length none none none true c _ h .rd _ (r, h') trivial (fun _ => ⟨rfl, rfl⟩) h1 e
    have z : ∀ T, sub (lN (none : Option (YR h.length))) T = T := sub_zero
    rw [z, h2] at this
    refine acalls_bodyX hf hb (ok.name f fn hf) (aX_mono this ?_)
    rintro x T' h2 s' _ ⟨t', s2, ht', rfl, rfl, q⟩
    rw [z]
    exact fin_body ht' q
  · split at e <;> try (cases e; done)
    rename_i fn hf
    split at e <;> try (cases e; done)
    rename_i c hb
    obtain ⟨hl, e⟩ := cond_some e
    obtain ⟨h1, h2⟩ := tstart_spec fn.ntmps args (Nat.le_of_ble_eq_true hl)
    have a := hi.dc f c _ h [] _ (r, h') (ok.plan f fn c hf hb) h1 e
    rw [h2] at a
    intro F β w vs s rv
    refine .inl ⟨⟨fn, hf, by rw [hb]; rfl, ok.name f fn hf⟩, calls_of_wp_defers hf hb ?_⟩
    have hl2 : args.length = vs.size := by have := rv.length; simpa using this
    have r0 : RelL (ctx F β w h) (args ++ List.replicate (fn.ntmps - args.length) (.tup [])) (vs ++ Array.replicate (fn.ntmps - vs.size) undef).toList := by
      rw [Array.toList_append, Array.toList_replicate, ← hl2]
      exact rv.append (RelL.replicate (show Rel _ (.tup []) undef from ⟨#[], rfl, rfl⟩) _)
    refine wp_mono (a F β w ⟨_, []⟩ s r0 rfl) ?_
    rintro ex a' w' ⟨x, β', T', h3, D', ⟨t', ht', rfl, q⟩, g, he, hr, hd⟩
    have hD : ∀ n caps h h', (match I.dsp n caps h with | some h' => some h' | none => (plainS P false ih n caps h).map (·.2)) = some h' → ADefer P n caps h (fun h'' => h'' = h') := by
      intro n caps h h' q
      cases q1 : I.dsp n caps h with
      | some h2 => rw [q1] at q; cases q; exact ok.dsp _ _ _ _ q1
      | none =>
        rw [q1] at q
        simp only [Option.map_eq_some_iff] at q
        obtain ⟨R, hR, rfl⟩ := q
        obtain ⟨fn, c, hf, hb, a⟩ := plainS_sound ok hi.code hR
        exact adefer_body hf hb (ok.name n fn hf) a
    have core : runD P I ih (fun h2 => fin P fn h.length .ret t' h2) D' h3 = some (r, h') → Leaves P fn a'.tmps (fun e w' => ∃ β' h'' r', (r' = .ret r ∧ h'' = h') ∧ Goes F β w h β' w' h'' ∧ EndRel (ctx F β' w' h'') r' e) a'.defers .returning w' := by
      intro q
      refine leaves_D (β0 := β') (w0 := w') (h0 := h3) hD ?_ (Goes.refl g.st) hd q
      intro β4 w4 h4 g4 q4
      have bd := fin_body ht' q4
      obtain ⟨Q, m, r1, h0, p1, p2, p3, p4⟩ := bd
      have hr4 := RelL.le (g4.le g.st) _ _ hr
      have gg := g.trans g4
      obtain ⟨u, hu, ru⟩ := run_aResults (P := P) (fn := fn) g4.st hr4 p1
      exact ⟨u, hu, _, h0, .ret r1, ⟨p3, p4⟩, (p2.gets (gg.gets (Nat.le_refl _))).goes, u, rfl, p2.vals.1.rel p2.via ru⟩
    cases x with
    | normal => cases he; exact core q
    | ret => cases he; exact core q
    | exit i => cases q
    | pan v => cases q
theorem callS_sound {I : Itp} (ok : ItpOk P I) {ih : IS} (hi : CallOk P ih.body) : CallOk P (callS P I ih) := by
  intro f args h r h' e
  unfold callS at e
  simp only at e
  split at e <;> try (cases e; done)
  rename_i args0 hargs
  split at e <;> try (cases e; done)
  rename_i h0 hh
  obtain ⟨nd, e⟩ := cond_some e
  split at e <;> try (cases e; done)
  rename_i o ho
  obtain ⟨r1, h1⟩ := o
  refine back_sound (r1 := r1) (h1 := h1) ?_ hargs hh nd e
  split at ho
  · rename_i o hs
    simp only [Option.some.injEq] at ho
    subst ho
    exact ok.sp _ _ _ _ _ hs
  · exact hi _ _ _ _ _ ho
theorem run_ok {I : Itp} (ok : ItpOk P I) : ∀ n, ISok P I (rAll P I n) := by
  intro n
  induction n using Nat.strongRecOn with
  | _ n ih =>
    cases n with
    | zero => exact isZ_ok I
    | succ n =>
      have ihn := ih n (Nat.lt_succ_self n)
      exact ⟨codeS_sound ok ih, bodyS_sound ok ihn, callS_sound ok ihn.body, xcS_sound ok ih, dcS_sound ihn⟩
def okRun (e : Option OutH) (r : AV) (h' : Heap) : Bool := match e with
  | some o => eqOut o (r, h')
  | none => false
/-- A call, by a run. -/
theorem run_call {I : Itp} (ok : ItpOk P I) (n : Nat) {f : FuncId} {args : List AV} {h h' : Heap} {r : AV} (e : okRun ((rAll P I n).body f args h) r h' = true) :
    ACalls P f args h (fun r' h'' => r' = .ret r ∧ h'' = h') := by
  unfold okRun at e
  split at e
  · rename_i o ho
    rw [eqOut_eq e] at ho
    exact (run_ok ok n).body _ _ _ _ _ ho
  · cases e
end
end Go.AH
