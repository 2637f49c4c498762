/- The abstract evaluator of one operation. No condition. -/
import Derived.Test.YtieaamjikcjbeaaA7
import Derived.ArgAppend
namespace Go.AH
set_option linter.unusedSimpArgs false
set_option linter.unusedVariables false
open Go

def rowAt (h : Heap) (id : Nat) : Option (List AV × TypeId × Bool) := match h[id]? with
  | some (some (.row cs e wh)) => some (cs, e, wh)
  | _ => none

def aLoad (P : Program) (h : Heap) (t : TypeId) (x : AV) : Option AV := match x with
  | .ptr id off => match rowAt h id with
    | some (cs, _, _) => pick P t cs off
    | none => none
  | .iptr cs => pick P t cs 0
  | _ => none

def aStore (P : Program) (h : Heap) (t : TypeId) (a x : AV) : Option Heap := match a with
  | .ptr id off => match rowAt h id, acells x with
    | some (cs, e, wh), some vc => if tsz P t = some vc.length ∧ off + vc.length ≤ cs.length ∧ vc.all oneC = true then some (h.set id (some (.row (setMany cs off vc) e wh))) else none
    | _, _ => none
  | _ => none

def lenOfA : AV → Option Nat
  | .nilsl => some 0
  | .esl => some 0
  | .str s => some s.length
  | .sl _ _ len _ => some len
  | .gsl _ len _ => some len
  | .isl _ len => some len
  | _ => none

/-- The cells of a slice's, or a text's, first n elements. -/
def readSl (h : Heap) (sz : Nat) (x : AV) (n : Nat) : Option (List AV) := match x with
  | .nilsl => if n = 0 then some [] else none
  | .esl => if n = 0 then some [] else none
  | .str s => some (bcells (s.take n))
  | .sl id off len _ => if n ≤ len then match rowAt h id with
    | some (cs, _, _) => cut cs off (n * sz)
    | none => none else none
  | .gsl id len _ => if n ≤ len then match rowAt h id with
    | some (cs, _, _) => cut cs 0 (n * sz)
    | none => none else none
  | .isl cs len => if n ≤ len then cut cs 0 (n * sz) else none
  | _ => none

def aBuildSlice (P : Program) (h : Heap) (t : TypeId) (len : Nat) (parts : List (Nat × AV)) : Option (AV × Heap) := match P.underlying t with
  | some (.slice e) => match tsz P e, zeroCellsOf P e with
    | some sz, some _ => if len * sz ≤ 16777216 then match aFill (fun i => some (i * sz, sz)) (List.replicate (len * sz) .unk) parts with
      | some cs => some (.sl h.length 0 len (some len), h ++ [some (.row cs e true)])
      | none => none else none
    | _, _ => none
  | _ => none

def isSeq : TypeDesc → Bool
  | .slice _ => true
  | .string => true
  | _ => false
def strOk (sz : Nat) : AV → Bool
  | .str _ => sz == 1
  | _ => true

/-- append -/
def aAppend (P : Program) (h : Heap) (t t' : TypeId) (x y : AV) : Option (AV × Heap) := match P.underlying t with
  | some (.slice e) => match P.underlying t', tsz P e, tbytes P e, zeroCellsOf P e, lenOfA y with
    | some d', some sz, some by_, some z, some m => match readSl h sz y m with
      | some new => if isSeq d' = true ∧ 0 < sz ∧ z.length = sz ∧ strOk sz y = true then match x with
        | .nilsl => if m = 0 then some (.nilsl, h) else if m ≤ 9223372036854775807 ∧ m * by_ ≤ 140737488355328 then some (.gsl h.length m sz, h ++ [some (.row new e false)]) else none
        | .esl => if m = 0 then some (.esl, h) else if m ≤ 9223372036854775807 ∧ m * by_ ≤ 140737488355328 then some (.gsl h.length m sz, h ++ [some (.row new e false)]) else none
        | .gsl id len esz => match rowAt h id with
          | some (cs, e', _) => if esz = sz ∧ e' = e ∧ len * sz ≤ cs.length ∧ new.all oneC = true ∧ len + m ≤ 9223372036854775807 ∧ (len + m) * by_ ≤ 140737488355328 then
              some (.gsl h.length (len + m) sz, h.set id none ++ [some (.row (cs.take (len * sz) ++ new) e false)]) else none
          | none => none
        | .sl id off len (some cap) => match rowAt h id with
          | some (cs, e', wh) =>
            if len + m ≤ cap then
              if off + (len + m) * sz ≤ cs.length ∧ new.all oneC = true then some (.sl id off (len + m) (some cap), h.set id (some (.row (setMany cs (off + len * sz) new) e' wh))) else none
            else if len + m ≤ 9223372036854775807 ∧ (len + m) * by_ ≤ 140737488355328 then match cut cs off (len * sz) with
              | some old => some (.gsl h.length (len + m) sz, h ++ [some (.row (old ++ new) e false)])
              | none => none else none
          | none => none
        | _ => none else none
      | none => none
    | _, _, _, _, _ => none
  | _ => none

def zeroRow (z : List AV) : Nat → List AV
  | 0 => []
  | n + 1 => z ++ zeroRow z n

def aClear (P : Program) (h : Heap) (t : TypeId) (x : AV) : Option Heap := match P.underlying t with
  | some (.slice e) => match tsz P e, zeroCellsOf P e with
    | some sz, some z => if z.length = sz ∧ z.all oneC = true then match x with
      | .nilsl => some h
      | .esl => some h
      | .sl id off len _ => match rowAt h id with
        | some (cs, e', wh) => if off + len * sz ≤ cs.length then some (h.set id (some (.row (setMany cs off (zeroRow z len)) e' wh))) else none
        | none => none
      | .gsl id len _ => match rowAt h id with
        | some (cs, e', wh) => if len * sz ≤ cs.length then some (h.set id (some (.row (setMany cs 0 (zeroRow z len)) e' wh))) else none
        | none => none
      | _ => none else none
    | _, _ => none
  | _ => none

def aCopy (P : Program) (h : Heap) (t : TypeId) (x y : AV) : Option (AV × Heap) := match P.underlying t with
  | some (.slice e) => match tsz P e, lenOfA x, lenOfA y with
    | some sz, some lx, some ly => match readSl h sz y (min ly lx) with
      | some new => if new.all oneC = true ∧ strOk sz y = true then match x with
        | .nilsl => some (.int .i64 0, h)
        | .esl => some (.int .i64 0, h)
        | .sl id off _ _ => match rowAt h id with
          | some (cs, e', wh) => if off + new.length ≤ cs.length then some (.int .i64 ((min ly lx : Nat) : Int), h.set id (some (.row (setMany cs off new) e' wh))) else none
          | none => none
        | .gsl id _ _ => match rowAt h id with
          | some (cs, e', wh) => if new.length ≤ cs.length then some (.int .i64 ((min ly lx : Nat) : Int), h.set id (some (.row (setMany cs 0 new) e' wh))) else none
          | none => none
        | _ => none else none
      | none => none
    | _, _, _ => none
  | _ => none

def toBytes : List AV → Option (List UInt8)
  | [] => some []
  | .int .u8 n :: xs => (toBytes xs).map (UInt8.ofNat n.toNat :: ·)
  | _ => none

/-- Conversions: those of aConv, texts to bytes, bytes to texts. -/
def aConvert (P : Program) (h : Heap) (src dst : TypeId) (x : AV) : Option (AV × Heap) := match P.underlying src, P.underlying dst with
  | some .string, some (.slice e) => match P.underlying e, x with
    | some (.int .u8), .str s => if s.length ≤ 9223372036854775807 then some (.gsl h.length s.length 1, h ++ [some (.row (bcells s) e false)]) else none
    | _, _ => none
  | some (.slice e), some .string => match P.underlying e, lenOfA x with
    | some (.int .u8), some n => match readSl h 1 x n with
      | some cs => match x with
        | .str _ => none
        | _ => (toBytes cs).map fun s => (.str s, h)
      | none => none
    | _, _ => none
  | _, _ => (aConv P src dst x).map (·, h)

def aBuiltin (P : Program) (h : Heap) (b : Builtin) (ts : Array TypeId) (xs : List AV) : Option (AV × Heap) := match b with
  | .len => match ts[0]?, xs with
    | some t, x :: _ => (aLen P t x).map (·, h)
    | _, _ => none
  | .min => (aMin xs).map (·, h)
  | .max => (aMax xs).map (·, h)
  | .append => match ts[0]?, ts[1]?, xs with
    | some t, some t', [x, y] => aAppend P h t t' x y
    | _, _, _ => none
  | .clear => match ts[0]?, xs with
    | some t, [x] => (aClear P h t x).map (.tup [], ·)
    | _, _ => none
  | .copy => match ts[0]?, xs with
    | some t, [x, y] => aCopy P h t x y
    | _, _ => none
  | _ => none

def ev (P : Program) (ρ : Operand → AV) (op : Op) (h : Heap) : Option (AV × Heap) := match op with
  | .move x => some (ρ x, h)
  | .assign x => some (ρ x, h)
  | .pick c a b => match ρ c with
    | .bool t => some (if t = true then ρ a else ρ b, h)
    | _ => none
  | .alloc t => (zeroCellsOf P t).map fun z => (.ptr h.length 0, h ++ [some (.row z t true)])
  | .box t x => (acells (ρ x)).map fun cs => (.ptr h.length 0, h ++ [some (.row cs t true)])
  | .build t parts => (aBuild P t (parts.toList.map fun p => (p.1, ρ p.2))).map (·, h)
  | .buildSlice t len parts => aBuildSlice P h t len (parts.toList.map fun p => (p.1, ρ p.2))
  | .load t x => (aLoad P h t (ρ x)).map (·, h)
  | .store t a x => (aStore P h t (ρ a) (ρ x)).map (.tup [], ·)
  | .nilCheck x => (aNilCheck (ρ x)).map (·, h)
  | .binOp op t x y _ => (aBin P op t (isLit x || isLit y) (ρ x) (ρ y)).map (·, h)
  | .unOp op _ x => (aUn op (ρ x)).map (·, h)
  | .convert src dst x => aConvert P h src dst (ρ x)
  | .makeInterface t x => (aMakeIface P t (ρ x)).map (·, h)
  | .makeFunc fn first caps => if first.toList = [] then some (.fn fn (caps.toList.map ρ), h) else none
  | .slice t x lo hi mx => (aSlice P t (ρ x) (lo.map ρ) (hi.map ρ) (mx.map ρ)).map (·, h)
  | .fieldAddr s x f => (aFieldAddr P s (ρ x) f).map (·, h)
  | .field s x f => (aField P s (ρ x) f).map (·, h)
  | .indexAddr t x i => (aIndexAddr P t (ρ x) (ρ i)).map (·, h)
  | .index t x i => (aIndex P t (ρ x) (ρ i)).map (·, h)
  | .extract x i => (aExtract (ρ x) i).map (·, h)
  | .call c => match c.callee with
    | .builtin b => aBuiltin P h b c.argTypes (c.args.toList.map ρ)
    | _ => none
  | _ => none

section
variable {P : Program} {F : Nat → Prop} {β : Nat → Nat} {w : World} {h : Heap}

/-- A live row. -/
theorem St.rowOf (s : St F β w h) {id : Nat} {cs : List AV} {e : TypeId} {wh : Bool} (hr : rowAt h id = some (cs, e, wh)) :
    h[id]? = some (some (.row cs e wh)) ∧ id < h.length ∧ ∃ vs fz, w.heap[β id]? = some (.cells vs e fz) ∧ (∃ ys zs, vs.toList = ys ++ zs ∧ RelL (ctx F β w h) cs ys ∧ (wh = true → zs = [])) ∧ (∀ i, i < vs.size → ¬ (fz.1 ≤ i ∧ i < fz.2)) ∧ cs.length ≤ vs.size := by
  have hb : h[id]? = some (some (.row cs e wh)) := by
    unfold rowAt at hr
    split at hr
    · rename_i h1; simp at hr; obtain ⟨rfl, rfl, rfl⟩ := hr; exact h1
    · cases hr
  have hid : id < h.length := by
    rcases Nat.lt_or_ge id h.length with q | q
    · exact q
    · rw [List.getElem?_eq_none q] at hb; simp at hb
  obtain ⟨o, ho, vs, fz, rfl, ⟨ys, zs, e1, e2, e3⟩, e4⟩ := s.live id _ hb
  refine ⟨hb, hid, vs, fz, ho, ⟨ys, zs, e1, e2, e3⟩, e4, ?_⟩
  have := congrArg List.length e1
  simp at this
  have := e2.length
  omega

theorem St.row (s : St F β w h) {id : Nat} {cs : List AV} {e : TypeId} {wh : Bool} (hr : rowAt h id = some (cs, e, wh)) : Row (ctx F β w h) cs (β id) 0 := by
  obtain ⟨_, _, vs, fz, ho, ⟨ys, zs, e1, e2, _⟩, _, _⟩ := s.rowOf hr
  refine row_of_get fun i x hx => ?_
  obtain ⟨y, ey, ry⟩ := e2.get hx
  refine ⟨y, ?_, ry⟩
  have hi : i < ys.length := (List.getElem?_eq_some_iff.1 ey).1
  rw [Nat.zero_add, cell_of_row w (β id) i vs e fz ho, ← Array.getElem?_toList, e1, List.getElem?_append_left hi]
  exact ey

/-- An operation's outcome. -/
def EvOk (F : Nat → Prop) (β : Nat → Nat) (w : World) (h : Heap) (r : Result Next) (v : AV) (h' : Heap) : Prop :=
  ∃ n v' w' β', r = .ok n w' ∧ (n = .value v' ∨ (n = .skip ∧ v' = undef)) ∧ Goes F β w h β' w' h' ∧ Rel (ctx F β' w' h') v v'

/-- A value's outcome. -/
def VOk (F : Nat → Prop) (β : Nat → Nat) (w : World) (h : Heap) (r : Result Value) (v : AV) (h' : Heap) : Prop :=
  ∃ v' w' β', r = .ok v' w' ∧ Goes F β w h β' w' h' ∧ Rel (ctx F β' w' h') v v'

theorem VOk.same (s : St F β w h) {m : Sem Value} {v : AV} (hm : ∃ v', m.run P w = .ok v' w ∧ Rel (ctx F β w h) v v') : VOk F β w h (m.run P w) v h := by
  obtain ⟨v', h1, h2⟩ := hm
  exact ⟨v', w, β, h1, Goes.refl s, h2⟩

theorem VOk.ev {m : Sem Value} {v : AV} {h' : Heap} (hm : VOk F β w h (m.run P w) v h') : EvOk F β w h (Sem.run P (do pure (Next.value (← m))) w) v h' := by
  obtain ⟨v', w', β', h1, h2, h3⟩ := hm
  exact ⟨.value v', v', w', β', by simp [h1], .inl rfl, h2, h3⟩

theorem run_aLoad (s : St F β w h) {t : TypeId} {x v : AV} {u : Value} (hl : aLoad P h t x = some v) (r : Rel (ctx F β w h) x u) : ∃ v', (Instr.loadAt t u).run P w = .ok v' w ∧ Rel (ctx F β w h) v v' := by
  unfold aLoad at hl
  split at hl
  · split at hl <;> try (cases hl; done)
    rename_i hrow
    obtain ⟨hid, rfl⟩ := r
    obtain ⟨v', h1, h2⟩ := run_loadVar_row' (P := P) (s.row hrow) hl
    refine ⟨v', ?_, h2⟩
    simp only [Nat.zero_add] at h1
    simpa [Instr.loadAt, Instr.sureAddr] using h1
  · obtain ⟨b, o, rfl, hb, hN, hrow⟩ := r
    obtain ⟨v', h1, h2⟩ := run_loadVar_row' (P := P) hrow hl
    exact ⟨v', by simpa [Instr.loadAt, Instr.sureAddr] using h1, h2⟩
  · cases hl

theorem setMany_append {α : Type} : ∀ (vs : List α) (xs zs : List α) (off : Nat), off + vs.length ≤ xs.length → setMany (xs ++ zs) off vs = setMany xs off vs ++ zs
  | [], _, _, _, _ => rfl
  | v :: vs, xs, zs, off, hl => by
    simp only [List.length_cons] at hl
    rw [setMany, setMany, List.set_append_left _ _ (by omega), setMany_append vs _ _ _ (by simp; omega)]

/-- Cells of a live row that are written. -/
theorem St.write (s : St F β w h) {id : Nat} {cs : List AV} {e : TypeId} {wh : Bool} (hr : rowAt h id = some (cs, e, wh)) {off : Nat} {vc : List AV} {us : List Value} (hle : off + vc.length ≤ cs.length) (hv : RelL (ctx F β w h) vc us) (h1 : vc.all oneC = true) :
    ∃ w', (storeCells ⟨β id, off, none⟩ us).run P w = .ok () w' ∧ Goes F β w h β w' (h.set id (some (.row (setMany cs off vc) e wh))) := by
  obtain ⟨hb, hid, vs, fz, ho, ⟨ys, zs, e1, e2, e3⟩, e4, e5⟩ := s.rowOf hr
  have hlen := hv.length
  have hst := run_storeCells_unf (P := P) (β id) off e fz us 0 vs w ho e4 (by omega) (oneC_all h1 hv)
  refine ⟨_, hst, ?_⟩
  have hsz : (setMany vs.toList off us).toArray.size = vs.size := by simp [setMany_length]
  refine s.put id (.row cs e wh) _ hb _ (.cells (setMany vs.toList off us).toArray e fz) rfl rfl rfl (by simp [World.setRow]) (setRow_heap w _ vs _ e fz ho) (fun b hb => setRow_other w _ b _ hb) ?_ ?_
  · simp [World.shape?, setRow_heap w _ vs _ e fz ho, ho, setMany_length]
  · have hyl := e2.length
    refine ⟨_, fz, rfl, ⟨setMany ys off us, zs, ?_, e2.setMany hv off, e3⟩, by simpa [setMany_length] using e4⟩
    show setMany vs.toList off us = _
    rw [e1, setMany_append us ys zs off (by omega)]

theorem run_aStore (s : St F β w h) {t : TypeId} {a x : AV} {u v : Value} {h' : Heap} (hl : aStore P h t a x = some h') (ra : Rel (ctx F β w h) a u) (rx : Rel (ctx F β w h) x v) :
    ∃ w', (Instr.storeAt t u v).run P w = .ok () w' ∧ Goes F β w h β w' h' := by
  unfold aStore at hl
  split at hl <;> try (cases hl; done)
  rename_i id off
  split at hl <;> try (cases hl; done)
  rename_i cs e wh vc hrow hvc
  split at hl <;> simp only [Option.some.injEq, reduceCtorEq] at hl
  rename_i hc
  subst hl
  obtain ⟨hid, rfl⟩ := ra
  have rv := acells_rel hvc rx
  have hlen := rv.length
  obtain ⟨w', h1, h2⟩ := s.write (P := P) hrow hc.2.1 rv hc.2.2
  refine ⟨w', ?_, h2⟩
  have hz := run_sizeOf' hc.1 w
  have hcs : v.cells.size = vc.length := by simpa using hlen.symm
  simp [Instr.storeAt, Instr.sureAddr, storeVar, hz, hcs, h1]

end
end Go.AH
