/- An address by classes: by its digits, by its bits; calls by classes. No condition. -/
import Derived.Test.YtbdhilbngaemcaaGreatDoorAU
import Derived.Test.YtbdhilbngaemcaaGreatDoorAS
set_option linter.unusedVariables false
set_option linter.unusedSimpArgs false
namespace Go.AH
open Go
set_option linter.unusedVariables false
set_option linter.unusedSimpArgs false
/-! ### an address by named parts of its bytes -/
/-- How four bytes are told: their texts (if tx), their values. -/
structure Cls where
  tx : Bool
  dg : List (List Int)
  nf : List (List Int)
def bytesL (p : List UInt8) : List (List Int) := p.map fun b => [(b.toNat : Int)]
mutual
/-- The ninth address by its parts. -/
def sbT (cl : Cls) : AV → AV
  | .txt p j => bif Nat.beq j 9 then mkSym (bytesL p ++ cl.dg) else .txt p j
  | .oct j k => bif Nat.beq j 9 then (match cl.nf[k]? with | some e => mkLin .u8 e | none => .unk) else .oct j k
  | .iptr cs => .iptr (sbTL cl cs)
  | .isl cs n => .isl (sbTL cl cs) n
  | .fn f cs => .fn f (sbTL cl cs)
  | .ifc t v => .ifc t (sbT cl v)
  | .agg cs => .agg (sbTL cl cs)
  | .tup cs => .tup (sbTL cl cs)
  | .bfn f cs => .bfn f (sbTL cl cs)
  | x => x
def sbTL (cl : Cls) : List AV → List AV
  | [] => []
  | x :: xs => sbT cl x :: sbTL cl xs
end
mutual
/-- The ninth address is the j-th one. -/
def rnA (j : Nat) : AV → AV
  | .txt p i => bif Nat.beq i 9 then .txt p j else .txt p i
  | .oct i k => bif Nat.beq i 9 then .oct j k else .oct i k
  | .iptr cs => .iptr (rnL j cs)
  | .isl cs n => .isl (rnL j cs) n
  | .fn f cs => .fn f (rnL j cs)
  | .ifc t v => .ifc t (rnA j v)
  | .agg cs => .agg (rnL j cs)
  | .tup cs => .tup (rnL j cs)
  | .bfn f cs => .bfn f (rnL j cs)
  | x => x
def rnL (j : Nat) : List AV → List AV
  | [] => []
  | x :: xs => rnA j x :: rnL j xs
end
mutual
/-- No named numbers; of the ninth address no text, if tx is false, and four bytes. -/
def okX (tx : Bool) : AV → Bool
  | .lin _ _ => false
  | .sym _ => false
  | .txt p j => bif Nat.beq j 9 then tx else true
  | .oct j k => Nat.ble k 3
  | .iptr cs => okXL tx cs
  | .isl cs n => okXL tx cs
  | .fn f cs => okXL tx cs
  | .ifc t v => okX tx v
  | .agg cs => okXL tx cs
  | .tup cs => okXL tx cs
  | .bfn f cs => okXL tx cs
  | _ => true
def okXL (tx : Bool) : List AV → Bool
  | [] => true
  | x :: xs => bif okX tx x then okXL tx xs else false
end
/-- Other values of the names, by which the j-th address's parts are as the class says. -/
structure ClsOk (V V' : Val) (j : Nat) (cl : Cls) : Prop where
  oct : V'.oct = V.oct
  nf : ∀ k, k ≤ 3 → ∃ e, cl.nf[k]? = some e ∧ linV V'.ρ e = (V.oct j k : Nat)
  dg : cl.tx = true → cl.dg.map (linV V'.ρ) = (dotB V j).map fun b => (b.toNat : Int)
theorem dotB_oct {V V' : Val} (h : V'.oct = V.oct) (j : Nat) : dotB V' j = dotB V j := by unfold dotB; rw [h]
theorem bytesL_val (ρ : Nat → Int) (p : List UInt8) : (bytesL p).map (linV ρ) = p.map fun b => (b.toNat : Int) := by
  unfold bytesL
  rw [List.map_map]
  apply List.map_congr_left
  intro b _
  simp [linV, linS]
/-- The same context, with other values of the names. -/
def Ctx.withV (c : Ctx) (V' : Val) : Ctx := { c with V := V' }
section
variable {c : Ctx} {V' : Val} {j : Nat} {cl : Cls}
theorem cond2 {a b : Bool} (h : (bif a then b else false) = true) : a = true ∧ b = true := by cases a <;> simp at h ⊢; exact h
theorem inj_bytes {s t : List UInt8} (h : s.map (fun b => (b.toNat : Int)) = t.map (fun b => (b.toNat : Int))) : s = t := by
  induction s generalizing t with
  | nil => cases t with
    | nil => rfl
    | cons _ _ => simp at h
  | cons x s ih => cases t with
    | nil => simp at h
    | cons y t =>
      simp only [List.map_cons, List.cons.injEq] at h
      rw [ih h.2, UInt8.toNat_inj.1 (by omega : x.toNat = y.toNat)]
mutual
theorem Rel.cls (k : ClsOk c.V V' j cl) : ∀ (x : AV) (v : Value), okX cl.tx x = true → (Rel (c.withV V') (sbT cl x) v ↔ Rel c (rnA j x) v)
  | .lin _ _, v, h => by cases h
  | .sym _, v, h => by cases h
  | .txt p i, v, h => by
    unfold sbT rnA
    cases hi : Nat.beq i 9 with
    | false =>
      simp only [cond_false]
      show v = _ ↔ v = _
      rw [show dotB (c.withV V').V i = dotB c.V i from dotB_oct k.oct i]
    | true =>
      simp only [cond_true]
      have htx : cl.tx = true := by unfold okX at h; rw [hi] at h; exact h
      have hdg := k.dg htx
      rw [mkSym_iff]
      have key : (bytesL p ++ cl.dg).map (linV V'.ρ) = (p ++ dotB c.V j).map fun b => (b.toNat : Int) := by
        rw [List.map_append, bytesL_val, hdg, List.map_append]
      constructor
      · rintro ⟨s, rfl, hs⟩
        have hs : s.map (fun b => (b.toNat : Int)) = (bytesL p ++ cl.dg).map (linV V'.ρ) := hs
        rw [key] at hs
        rw [inj_bytes hs]
        exact rfl
      · intro r
        have r : v = .string ⟨(p ++ dotB c.V j).toArray⟩ := r
        exact ⟨_, r, key.symm⟩
  | .oct i q, v, h => by
    unfold sbT rnA
    cases hi : Nat.beq i 9 with
    | false =>
      simp only [cond_false]
      show v = .int .u8 ((c.withV V').V.oct i q : Nat) ↔ v = .int .u8 (c.V.oct i q : Nat)
      rw [show (c.withV V').V.oct = c.V.oct from k.oct]
    | true =>
      simp only [cond_true]
      have hq : q ≤ 3 := Nat.le_of_ble_eq_true (by unfold okX at h; exact h)
      obtain ⟨e, e1, e2⟩ := k.nf q hq
      rw [e1]
      simp only
      rw [mkLin_iff]
      show v = .int .u8 (linV V'.ρ e) ↔ v = .int .u8 (c.V.oct j q : Nat)
      rw [e2]
  | .iptr cs, v, h => by
    have h : okXL cl.tx cs = true := h
    simp only [sbT, rnA, Rel]
    constructor
    · rintro ⟨b, o, h1, h2, h3, h4⟩; exact ⟨b, o, h1, h2, h3, (Row.cls k cs b o h).1 h4⟩
    · rintro ⟨b, o, h1, h2, h3, h4⟩; exact ⟨b, o, h1, h2, h3, (Row.cls k cs b o h).2 h4⟩
  | .isl cs n, v, h => by
    have h : okXL cl.tx cs = true := h
    simp only [sbT, rnA, Rel]
    constructor
    · rintro ⟨a, cap', h1, h2, h3⟩; exact ⟨a, cap', h1, h2, h3.imp id fun ⟨b, o, q1, q2, q3, q4⟩ => ⟨b, o, q1, q2, q3, (Row.cls k cs b o h).1 q4⟩⟩
    · rintro ⟨a, cap', h1, h2, h3⟩; exact ⟨a, cap', h1, h2, h3.imp id fun ⟨b, o, q1, q2, q3, q4⟩ => ⟨b, o, q1, q2, q3, (Row.cls k cs b o h).2 q4⟩⟩
  | .fn f cs, v, h => by
    have h : okXL cl.tx cs = true := h
    simp only [sbT, rnA, Rel]
    constructor
    · rintro ⟨vs, h1, h2⟩; exact ⟨vs, h1, (RelL.cls k cs _ h).1 h2⟩
    · rintro ⟨vs, h1, h2⟩; exact ⟨vs, h1, (RelL.cls k cs _ h).2 h2⟩
  | .ifc t x, v, h => by
    have h : okX cl.tx x = true := h
    simp only [sbT, rnA, Rel]
    constructor
    · rintro ⟨y, h1, h2⟩; exact ⟨y, h1, (Rel.cls k x y h).1 h2⟩
    · rintro ⟨y, h1, h2⟩; exact ⟨y, h1, (Rel.cls k x y h).2 h2⟩
  | .agg cs, v, h => by
    have h : okXL cl.tx cs = true := h
    simp only [sbT, rnA, Rel]
    constructor
    · rintro ⟨vs, h1, h2⟩; exact ⟨vs, h1, (RelL.cls k cs _ h).1 h2⟩
    · rintro ⟨vs, h1, h2⟩; exact ⟨vs, h1, (RelL.cls k cs _ h).2 h2⟩
  | .tup cs, v, h => by
    have h : okXL cl.tx cs = true := h
    simp only [sbT, rnA, Rel]
    constructor
    · rintro ⟨vs, h1, h2⟩; exact ⟨vs, h1, (RelL.cls k cs _ h).1 h2⟩
    · rintro ⟨vs, h1, h2⟩; exact ⟨vs, h1, (RelL.cls k cs _ h).2 h2⟩
  | .bfn f cs, v, h => by
    have h : okXL cl.tx cs = true := h
    simp only [sbT, rnA, Rel]
    constructor
    · rintro ⟨vs, h1, h2⟩; exact ⟨vs, h1, (RelL.cls k cs _ h).1 h2⟩
    · rintro ⟨vs, h1, h2⟩; exact ⟨vs, h1, (RelL.cls k cs _ h).2 h2⟩
  | .any _, _, _ => Iff.rfl
  | .gptr _ _, _, _ => Iff.rfl
  | .anyb, _, _ => Iff.rfl
  | .atl _ _, _, _ => Iff.rfl
  | .bstr _ _, _, _ => Iff.rfl
  | .osl _ _, _, _ => Iff.rfl
  | .lnb _, _, _ => Iff.rfl
  | .unk, _, _ => Iff.rfl
  | .bool _, _, _ => Iff.rfl
  | .int _ _, _, _ => Iff.rfl
  | .str _, _, _ => Iff.rfl
  | .nilp, _, _ => Iff.rfl
  | .ptr _ _, _, _ => Iff.rfl
  | .nilsl, _, _ => Iff.rfl
  | .esl, _, _ => Iff.rfl
  | .sl _ _ _ _, _, _ => Iff.rfl
  | .gsl _ _ _, _, _ => Iff.rfl
  | .nilm, _, _ => Iff.rfl
  | .map _, _, _ => Iff.rfl
  | .nilf, _, _ => Iff.rfl
  | .nili, _, _ => Iff.rfl
theorem RelL.cls (k : ClsOk c.V V' j cl) : ∀ (xs : List AV) (vs : List Value), okXL cl.tx xs = true → (RelL (c.withV V') (sbTL cl xs) vs ↔ RelL c (rnL j xs) vs)
  | [], _, _ => Iff.rfl
  | x :: xs, vs, h => by
    obtain ⟨hx, hxs⟩ := cond2 (show (bif okX cl.tx x then okXL cl.tx xs else false) = true from h)
    simp only [sbTL, rnL, RelL]
    constructor
    · rintro ⟨y, ys, h1, h2, h3⟩; exact ⟨y, ys, h1, (Rel.cls k x y hx).1 h2, (RelL.cls k xs ys hxs).1 h3⟩
    · rintro ⟨y, ys, h1, h2, h3⟩; exact ⟨y, ys, h1, (Rel.cls k x y hx).2 h2, (RelL.cls k xs ys hxs).2 h3⟩
theorem Row.cls (k : ClsOk c.V V' j cl) : ∀ (xs : List AV) (b o : Nat), okXL cl.tx xs = true → (Row (c.withV V') (sbTL cl xs) b o ↔ Row c (rnL j xs) b o)
  | [], _, _, _ => Iff.rfl
  | x :: xs, b, o, h => by
    obtain ⟨hx, hxs⟩ := cond2 (show (bif okX cl.tx x then okXL cl.tx xs else false) = true from h)
    simp only [sbTL, rnL, Row]
    constructor
    · rintro ⟨⟨y, h1, h2⟩, h3⟩; exact ⟨⟨y, h1, (Rel.cls k x y hx).1 h2⟩, (Row.cls k xs b (o + 1) hxs).1 h3⟩
    · rintro ⟨⟨y, h1, h2⟩, h3⟩; exact ⟨⟨y, h1, (Rel.cls k x y hx).2 h2⟩, (Row.cls k xs b (o + 1) hxs).2 h3⟩
end
end
def mapM2 (f : AV → AV) : List (AV × AV × Nat) → List (AV × AV × Nat)
  | [] => []
  | (a, b, n) :: es => (f a, f b, n) :: mapM2 f es
def allM2 (f : AV → Bool) : List (AV × AV × Nat) → Bool
  | [] => true
  | (a, b, n) :: es => bif f a then (bif f b then allM2 f es else false) else false
theorem RelE.cls {c : Ctx} {V' : Val} {j : Nat} {cl : Cls} (k : ClsOk c.V V' j cl) : ∀ (es : List (AV × AV × Nat)) (l : List MapEntry), allM2 (okX cl.tx) es = true → (RelE (c.withV V') (mapM2 (sbT cl) es) l ↔ RelE c (mapM2 (rnA j) es) l)
  | [], _, _ => Iff.rfl
  | (a, b, n) :: es, l, h => by
    obtain ⟨ha, h⟩ := cond2 (show (bif okX cl.tx a then (bif okX cl.tx b then allM2 (okX cl.tx) es else false) else false) = true from h)
    obtain ⟨hb, h⟩ := cond2 h
    simp only [mapM2, RelE]
    constructor
    · rintro ⟨e, r, h1, h2, h3, h4, h5⟩; exact ⟨e, r, h1, (Rel.cls k a _ ha).1 h2, (Rel.cls k b _ hb).1 h3, h4, (RelE.cls k es r h).1 h5⟩
    · rintro ⟨e, r, h1, h2, h3, h4, h5⟩; exact ⟨e, r, h1, (Rel.cls k a _ ha).2 h2, (Rel.cls k b _ hb).2 h3, h4, (RelE.cls k es r h).2 h5⟩
def sbTB (cl : Cls) : Blk → Blk
  | .row cs e w => .row (sbTL cl cs) e w
  | .mp es n => .mp (mapM2 (sbT cl) es) n
  | x => x
def rnB (j : Nat) : Blk → Blk
  | .row cs e w => .row (rnL j cs) e w
  | .mp es n => .mp (mapM2 (rnA j) es) n
  | x => x
def okXB (tx : Bool) : Blk → Bool
  | .row cs e w => okXL tx cs
  | .mp es n => allM2 (okX tx) es
  | .yiter _ _ => false
  | _ => true
theorem BlkRel.cls {c : Ctx} {V' : Val} {j : Nat} {cl : Cls} (k : ClsOk c.V V' j cl) : ∀ (b : Blk) (o : Obj), okXB cl.tx b = true → (BlkRel (c.withV V') (sbTB cl b) o ↔ BlkRel c (rnB j b) o)
  | .row cs e w, o, h => by
    have h : okXL cl.tx cs = true := h
    simp only [sbTB, rnB, BlkRel]
    constructor
    · rintro ⟨vs, fz, h1, ⟨ys, zs, h2, h3, h4⟩, h5⟩; exact ⟨vs, fz, h1, ⟨ys, zs, h2, (RelL.cls k cs ys h).1 h3, h4⟩, h5⟩
    · rintro ⟨vs, fz, h1, ⟨ys, zs, h2, h3, h4⟩, h5⟩; exact ⟨vs, fz, h1, ⟨ys, zs, h2, (RelL.cls k cs ys h).2 h3, h4⟩, h5⟩
  | .mp es n, o, h => by
    simp only [sbTB, rnB, BlkRel]
    constructor
    · rintro ⟨l, h1, h2⟩; exact ⟨l, h1, (RelE.cls k es _ h).1 h2⟩
    · rintro ⟨l, h1, h2⟩; exact ⟨l, h1, (RelE.cls k es _ h).2 h2⟩
  | .siter t p, o, _ => Iff.rfl
  | .ubytes e, o, _ => Iff.rfl
  | .yiter l p, o, h => by cases h
def mapH2 (f : Blk → Blk) : Heap → Heap
  | [] => []
  | none :: h => none :: mapH2 f h
  | some b :: h => some (f b) :: mapH2 f h
def allH2 (f : Blk → Bool) : Heap → Bool
  | [] => true
  | none :: h => allH2 f h
  | some b :: h => bif f b then allH2 f h else false
theorem mapH2_length (f : Blk → Blk) : ∀ h : Heap, (mapH2 f h).length = h.length
  | [] => rfl
  | none :: h => by simp [mapH2, mapH2_length f h]
  | some b :: h => by simp [mapH2, mapH2_length f h]
theorem mapH2_get (f : Blk → Blk) : ∀ (h : Heap) (i : Nat), (mapH2 f h)[i]? = (h[i]?).map (Option.map f)
  | [], i => by simp [mapH2]
  | none :: h, 0 => rfl
  | some b :: h, 0 => rfl
  | none :: h, i + 1 => by simp [mapH2, mapH2_get f h i]
  | some b :: h, i + 1 => by simp [mapH2, mapH2_get f h i]
theorem allH2_get {f : Blk → Bool} : ∀ {h : Heap}, allH2 f h = true → ∀ (i : Nat) (b : Blk), h[i]? = some (some b) → f b = true
  | [], _, i, b, hb => by simp at hb
  | none :: h, q, 0, b, hb => by simp at hb
  | none :: h, q, i + 1, b, hb => allH2_get (h := h) q i b (by simpa using hb)
  | some x :: h, q, 0, b, hb => by simp at hb; subst hb; exact (cond2 (show (bif f x then allH2 f h else false) = true from q)).1
  | some x :: h, q, i + 1, b, hb => allH2_get (cond2 (show (bif f x then allH2 f h else false) = true from q)).2 i b (by simpa using hb)
theorem own_map2 (f : Blk → Blk) (β : Nat → Nat) (h : Heap) (b : Nat) : Own β (mapH2 f h) b ↔ Own β h b := by
  unfold Own
  constructor
  · rintro ⟨id, blk, h1, h2⟩
    rw [mapH2_get] at h1
    cases hb : h[id]? with
    | none => rw [hb] at h1; cases h1
    | some x => cases x with
      | none => rw [hb] at h1; simp at h1
      | some y => exact ⟨id, y, hb, h2⟩
  · rintro ⟨id, blk, h1, h2⟩
    exact ⟨id, f blk, by rw [mapH2_get, h1]; rfl, h2⟩
theorem own_map2' (f : Blk → Blk) (β : Nat → Nat) (h : Heap) : Own β (mapH2 f h) = Own β h := funext fun b => propext (own_map2 f β h b)
theorem ctx_map2 (f : Blk → Blk) (F : Fr) (β : Nat → Nat) (w : World) (h : Heap) : ctx F β w (mapH2 f h) = ctx F β w h := by
  unfold ctx
  rw [mapH2_length, own_map2']
theorem ctx_withV (F : Fr) (V' : Val) (β : Nat → Nat) (w : World) (h : Heap) : ctx ⟨F.blk, V'⟩ β w h = (ctx F β w h).withV V' := rfl
theorem St.of_blk {F F' : Fr} {β : Nat → Nat} {w : World} {h : Heap} {f g : Blk → Blk} (hF : F'.blk = F.blk) (s : St F β w (mapH2 f h)) (hr : ∀ (id : Nat) (b : Blk) (o : Obj), h[id]? = some (some b) → BlkRel (ctx F β w h) (f b) o → BlkRel (ctx F' β w h) (g b) o) : St F' β w (mapH2 g h) := by
  have back : ∀ (id : Nat) (blk : Blk), (mapH2 g h)[id]? = some (some blk) → ∃ b, h[id]? = some (some b) ∧ blk = g b := by
    intro id blk hb
    rw [mapH2_get] at hb
    cases hx : h[id]? with
    | none => rw [hx] at hb; cases hb
    | some x => cases x with
      | none => rw [hx] at hb; simp at hb
      | some y => rw [hx] at hb; simp at hb; exact ⟨y, rfl, hb.symm⟩
  have fwd : ∀ (id : Nat) (b : Blk), h[id]? = some (some b) → (mapH2 f h)[id]? = some (some (f b)) := fun id b hb => by rw [mapH2_get, hb]; rfl
  refine ⟨fun id blk hb => ?_, fun i j bi bj hi hj e => ?_, fun b q => ?_, fun b q => s.flt b (by rw [← hF]; exact q), fun id hid => s.lt id (by rw [mapH2_length] at hid ⊢; exact hid), by rw [own_map2']; have := s.gl; rw [own_map2'] at this; exact this⟩
  · obtain ⟨b, hb2, rfl⟩ := back id blk hb
    obtain ⟨o, h1, h2⟩ := s.live id _ (fwd id b hb2)
    rw [ctx_map2] at h2 ⊢
    exact ⟨o, h1, hr id b o hb2 h2⟩
  · obtain ⟨b1, h1, _⟩ := back i bi hi
    obtain ⟨b2, h2, _⟩ := back j bj hj
    exact s.inj i j _ _ (fwd i b1 h1) (fwd j b2 h2) e
  · have := s.sep b (by rw [← hF]; exact q)
    rw [own_map2'] at this ⊢
    exact this
theorem St.toCls {F : Fr} {V' : Val} {j : Nat} {cl : Cls} (k : ClsOk F.V V' j cl) {β : Nat → Nat} {w : World} {h : Heap} (ok : allH2 (okXB cl.tx) h = true) : St F β w (mapH2 (rnB j) h) ↔ St ⟨F.blk, V'⟩ β w (mapH2 (sbTB cl) h) := by
  constructor
  · intro s
    exact St.of_blk (F := F) (F' := ⟨F.blk, V'⟩) (f := rnB j) (g := sbTB cl) rfl s fun id b o hb r => (BlkRel.cls (c := ctx F β w h) k b o (allH2_get ok id b hb)).2 r
  · intro s
    exact St.of_blk (F := ⟨F.blk, V'⟩) (F' := F) (f := sbTB cl) (g := rnB j) rfl s fun id b o hb r => (BlkRel.cls (c := ctx F β w h) k b o (allH2_get ok id b hb)).1 r
/-- What one value says, the other one says too. -/
def lesS (a b : AV) : Bool := match a with
  | .bstr lo hi => (match lens b with
    | some (l, m) => Nat.ble lo l && Nat.ble m hi
    | none => false)
  | a => eqAV a b
theorem lesS_rel {c : Ctx} {a b : AV} {v : Value} (h : lesS a b = true) (r : Rel c b v) : Rel c a v := by
  unfold lesS at h
  split at h
  · split at h
    · rename_i l m hl
      rw [Bool.and_eq_true] at h
      obtain ⟨s, rfl, h1, h2⟩ := lens_rel hl r
      have := Nat.le_of_ble_eq_true h.1
      have := Nat.le_of_ble_eq_true h.2
      exact ⟨s, rfl, by omega, by omega⟩
    · cases h
  · rw [eqAV_eq h]; exact r
/-- A call, by all ways how an address is told. -/
theorem class_call {P : Program} {f : FuncId} {args : List AV} {h h1 : Heap} {r : AV} {j : Nat} (tx : Bool) (L : List Cls) (htx : ∀ cl ∈ L, cl.tx = tx) (ka : okXL tx args = true) (kh : allH2 (okXB tx) h = true) (kr : okX tx r = true) (kh1 : allH2 (okXB tx) h1 = true)
    (cov : ∀ V : Val, ∃ cl ∈ L, ∃ V', ClsOk V V' j cl)
    (runs : ∀ cl ∈ L, ∃ r', lesS (sbT cl r) r' = true ∧ ACalls P f (sbTL cl args) (mapH2 (sbTB cl) h) (fun r2 h2 => r2 = .ret r' ∧ h2 = mapH2 (sbTB cl) h1)) :
    ACalls P f (rnL j args) (mapH2 (rnB j) h) (fun r2 h2 => r2 = .ret (rnA j r) ∧ h2 = mapH2 (rnB j) h1) := by
  intro F β w vs s rl
  obtain ⟨cl, hcl, V', k⟩ := cov F.V
  obtain ⟨r', hles, run⟩ := runs cl hcl
  have e := htx cl hcl
  subst e
  have s' := (St.toCls k kh).1 s
  have rl' : RelL (ctx ⟨F.blk, V'⟩ β w (mapH2 (sbTB cl) h)) (sbTL cl args) vs.toList := by
    rw [ctx_map2] at rl ⊢
    exact (RelL.cls (c := ctx F β w h) k args _ ka).2 rl
  refine (run ⟨F.blk, V'⟩ β w vs s' rl').mono ?_
  rintro e w' ⟨β', h2, r2, ⟨rfl, rfl⟩, g, v', rfl, rv⟩
  refine ⟨β', _, _, ⟨rfl, rfl⟩, ⟨(St.toCls k kh1).2 g.st, ?_, ?_, ?_⟩, v', rfl, ?_⟩
  · have := g.step
    rw [own_map2', own_map2'] at this ⊢
    exact this
  · have := g.len
    rw [mapH2_length, mapH2_length] at this ⊢
    exact this
  · have := g.β
    rw [mapH2_length] at this ⊢
    exact this
  · rw [ctx_map2] at rv ⊢
    exact (Rel.cls (c := ctx F β' w' h1) k r v' kr).1 (lesS_rel hles rv)
end Go.AH
namespace Go.AH
open Go
set_option linter.unusedVariables false
set_option linter.unusedSimpArgs false
set_option maxRecDepth 10000
/-! ### by digits -/
/-- A number, and a name. -/
def nC (c : Int) (i : Nat) : List Int := c :: (List.replicate i 0 ++ [1])
theorem linS_rep (ρ : Nat → Int) (l : List Int) : ∀ (n i : Nat), linS ρ i (List.replicate n 0 ++ l) = linS ρ (i + n) l
  | 0, i => by simp
  | n + 1, i => by
    rw [List.replicate_succ, List.cons_append, linS, linS_rep ρ l n (i + 1), Int.zero_mul, Int.zero_add]
    congr 1; omega
theorem nC_val (ρ : Nat → Int) (c : Int) (i : Nat) : linV ρ (nC c i) = c + ρ i := by
  unfold nC
  rw [linV, linS_rep]
  simp [linS]
def nF2 (k : Nat) : List Int := strip (addL (addL [10] (mulL 10 (nC 0 (5 * k + 3)))) (nC 0 (5 * k + 2)))
theorem nF2_val (ρ : Nat → Int) (k : Nat) : linV ρ (nF2 k) = 10 + 10 * ρ (5 * k + 3) + ρ (5 * k + 2) := by
  unfold nF2
  rw [linV_strip, linV_add, linV_add, linV_mul, nC_val, nC_val]
  simp [linV, linS]
def dgk (l k : Nat) : List (List Int) := match l with
  | 0 => [nC 48 (5 * k + 2)]
  | 1 => [nC 49 (5 * k + 3), nC 48 (5 * k + 2)]
  | _ => [nC 49 (5 * k), nC 48 (5 * k + 1), nC 48 (5 * k + 2)]
def nfk (l k : Nat) : List Int := match l with
  | 0 => nC 0 (5 * k + 2)
  | 1 => nF2 k
  | _ => nC 0 (5 * k + 4)
def digCls (a b c d : Nat) : Cls := ⟨true, dgk a 0 ++ ([46] :: (dgk b 1 ++ ([46] :: (dgk c 2 ++ ([46] :: dgk d 3))))), [nfk a 0, nfk b 1, nfk c 2, nfk d 3]⟩
def digAll : List Cls := [0, 1, 2].flatMap fun a => [0, 1, 2].flatMap fun b => [0, 1, 2].flatMap fun c => [0, 1, 2].map fun d => digCls a b c d
/-- The parts of a byte. -/
def dval (x role : Nat) : Nat :=
  if x < 10 then (match role with | 0 => 0 | 1 => 0 | 2 => x | 3 => 0 | _ => 100 + x)
  else if x < 100 then (match role with | 0 => 0 | 1 => 0 | 2 => x % 10 | 3 => x / 10 - 1 | _ => 100 + x % 10)
  else (match role with | 0 => x / 100 - 1 | 1 => x / 10 % 10 | 2 => x % 10 | 3 => 0 | _ => x)
theorem dval_bound : ∀ x : Fin 256, ∀ r : Fin 5, dval x.1 r.1 ≤ [1, 9, 9, 8, 255].getD r.1 0 := by decide +kernel
theorem dom_dig : ∀ i : Fin 20, dom i.1 = [1, 9, 9, 8, 255].getD (i.1 % 5) 0 := by decide +kernel
theorem dval_thr : ∀ x : Fin 256, dval x.1 4 = 100 * (1 + dval x.1 0) + 10 * dval x.1 1 + dval x.1 2 := by decide +kernel
def digV (V : Val) (j : Nat) : Val where
  ρ i := if i < 20 then (dval (V.oct j (i / 5)) (i % 5) : Nat) else V.ρ i
  lo i := by split; exact Int.natCast_nonneg _; exact V.lo i
  hi i := by
    split
    · rename_i h
      have h1 := dval_bound ⟨V.oct j (i / 5), by have := V.ob j (i / 5); omega⟩ ⟨i % 5, by omega⟩
      have h2 := dom_dig ⟨i, h⟩
      simp only at h1 h2
      rw [h2]
      exact Int.ofNat_le.2 h1
    · exact V.hi i
  thr k hk := by
    have h := dval_thr ⟨V.oct j k, by have := V.ob j k; omega⟩
    simp only at h
    simp only [show 5 * k + 4 < 20 by omega, show 5 * k < 20 by omega, show 5 * k + 1 < 20 by omega, show 5 * k + 2 < 20 by omega, if_true]
    rw [show (5 * k + 4) / 5 = k by omega, show (5 * k + 4) % 5 = 4 by omega, show 5 * k / 5 = k by omega, show 5 * k % 5 = 0 by omega, show (5 * k + 1) / 5 = k by omega, show (5 * k + 1) % 5 = 1 by omega, show (5 * k + 2) / 5 = k by omega, show (5 * k + 2) % 5 = 2 by omega, h]
    push_cast
    rfl
  oct := V.oct
  ob := V.ob
  spc := V.spc
def lenB (x : Nat) : Nat := if x < 10 then 0 else if x < 100 then 1 else 2
theorem digV_ρ (V : Val) (j k r : Nat) (hk : k < 4) (hr : r < 5) : (digV V j).ρ (5 * k + r) = (dval (V.oct j k) r : Nat) := by
  show (if 5 * k + r < 20 then ((dval (V.oct j ((5 * k + r) / 5)) ((5 * k + r) % 5) : Nat) : Int) else V.ρ (5 * k + r)) = _
  rw [if_pos (by omega), show (5 * k + r) / 5 = k by omega, show (5 * k + r) % 5 = r by omega]
theorem dec_all : ∀ x : Fin 256, (decB x.1).map (fun b => (b.toNat : Int)) = (if x.1 < 10 then [48 + (x.1 : Int)] else if x.1 < 100 then [48 + ((x.1 / 10 : Nat) : Int), 48 + ((x.1 % 10 : Nat) : Int)] else [48 + ((x.1 / 100 : Nat) : Int), 48 + ((x.1 / 10 % 10 : Nat) : Int), 48 + ((x.1 % 10 : Nat) : Int)]) := by decide +kernel
theorem oct_dig (V : Val) (j k : Nat) (hk : k < 4) : linV (digV V j).ρ (nfk (lenB (V.oct j k)) k) = (V.oct j k : Nat) ∧ (dgk (lenB (V.oct j k)) k).map (linV (digV V j).ρ) = (decB (V.oct j k)).map fun b => (b.toNat : Int) := by
  have h0 := digV_ρ V j k 0 hk (by omega)
  have h1 := digV_ρ V j k 1 hk (by omega)
  have h2 := digV_ρ V j k 2 hk (by omega)
  have h3 := digV_ρ V j k 3 hk (by omega)
  have h4 := digV_ρ V j k 4 hk (by omega)
  have hd := dec_all ⟨V.oct j k, by have := V.ob j k; omega⟩
  simp only at hd
  rw [hd]
  generalize V.oct j k = x at *
  unfold lenB
  by_cases c1 : x < 10
  · simp only [c1, if_true, nfk, dgk, List.map_cons, List.map_nil, nC_val]
    rw [h2]
    simp [dval, c1]
  · by_cases c2 : x < 100
    · simp only [c1, c2, if_true, if_false, nfk, dgk, List.map_cons, List.map_nil, nC_val, nF2_val]
      rw [h2, h3]
      simp only [dval, c1, c2, if_true, if_false]
      refine ⟨by omega, ?_⟩
      congr 1
      omega
    · simp only [c1, c2, if_false, nfk, dgk, List.map_cons, List.map_nil, nC_val]
      rw [h1, h2, h4, Nat.add_zero] at *
      rw [h0]
      simp only [dval, c1, c2, if_false]
      refine ⟨by omega, ?_⟩
      congr 1
      omega
theorem mem_digAll (a b c d : Nat) (ha : a < 3) (hb : b < 3) (hc : c < 3) (hd : d < 3) : digCls a b c d ∈ digAll := by
  unfold digAll
  simp only [List.mem_flatMap, List.mem_map]
  have m : ∀ x : Nat, x < 3 → x ∈ [0, 1, 2] := by intro x hx; simp; omega
  exact ⟨a, m a ha, b, m b hb, c, m c hc, d, m d hd, rfl⟩
theorem lenB_lt (x : Nat) : lenB x < 3 := by unfold lenB; split <;> (try split) <;> omega
theorem covDig (j : Nat) (V : Val) : ∃ cl ∈ digAll, ∃ V', ClsOk V V' j cl := by
  refine ⟨_, mem_digAll (lenB (V.oct j 0)) (lenB (V.oct j 1)) (lenB (V.oct j 2)) (lenB (V.oct j 3)) (lenB_lt _) (lenB_lt _) (lenB_lt _) (lenB_lt _), digV V j, rfl, ?_, ?_⟩
  · intro k hk
    have : k = 0 ∨ k = 1 ∨ k = 2 ∨ k = 3 := by omega
    rcases this with rfl | rfl | rfl | rfl <;> exact ⟨_, rfl, (oct_dig V j _ (by omega)).1⟩
  · intro _
    unfold digCls dotB
    simp only [List.map_append, List.map_cons]
    rw [(oct_dig V j 0 (by omega)).2, (oct_dig V j 1 (by omega)).2, (oct_dig V j 2 (by omega)).2, (oct_dig V j 3 (by omega)).2]
    simp [linV, linS]
theorem digAll_tx : ∀ cl ∈ digAll, cl.tx = true := by
  intro cl h
  unfold digAll at h
  simp only [List.mem_flatMap, List.mem_map] at h
  obtain ⟨a, _, b, _, c, _, d, _, rfl⟩ := h
  rfl
end Go.AH
namespace Go.AH
open Go
set_option linter.unusedVariables false
set_option linter.unusedSimpArgs false
set_option maxRecDepth 10000
/-! ### by bits -/
def pow2 : Nat → Nat → List Int
  | _, 0 => []
  | b, n + 1 => ((2 ^ b : Nat) : Int) :: pow2 (b + 1) n
/-- The k-th byte: f, and m bits. -/
def bitF (f m k : Nat) : List Int := strip ((f : Int) :: (List.replicate (20 + 8 * k) 0 ++ pow2 0 m))
def blkCls (b : List (Nat × Nat)) : Cls := ⟨false, [], (b.zip [0, 1, 2, 3]).map fun x => bitF x.1.1 x.1.2 x.2⟩
def sib (v p : Nat) : List (Nat × Nat) := (List.range p).map fun i => (((v / 2 ^ (7 - i)) ^^^ 1) * 2 ^ (7 - i), 7 - i)
def specials : List Nat := [0, 10, 100, 127, 169, 172, 192]
def parts : Nat → Nat → List (Nat × Nat)
  | f, 0 => if specials.any (· == f) then [] else [(f, 0)]
  | f, m + 1 => if specials.any (fun v => decide (f ≤ v) && decide (v < f + 2 ^ (m + 1))) then parts f m ++ parts (f + 2 ^ m) m else [(f, m + 1)]
def fr : Nat × Nat := (0, 8)
def blocks (s : Nat) : List (List (Nat × Nat)) := match s with
  | 0 => [[(127, 0), fr, fr, fr], [(0, 0), (0, 0), (0, 0), (0, 0)]]
  | 1 => [[(10, 0), fr, fr, fr], [(100, 0), (64, 6), fr, fr], [(169, 0), (254, 0), fr, fr], [(172, 0), (16, 4), fr, fr], [(192, 0), (168, 0), fr, fr]]
  | _ => ((parts 0 8).map fun x => [x, fr, fr, fr]) ++ ([(0, 6), (128, 7)].map fun x => [(100, 0), x, fr, fr]) ++ ((sib 254 8).map fun x => [(169, 0), x, fr, fr]) ++
    ([(0, 4), (32, 5), (64, 6), (128, 7)].map fun x => [(172, 0), x, fr, fr]) ++ ((sib 168 8).map fun x => [(192, 0), x, fr, fr]) ++
    ((sib 0 8).map fun x => [(0, 0), x, fr, fr]) ++ ((sib 0 8).map fun x => [(0, 0), (0, 0), x, fr]) ++ ((sib 0 8).map fun x => [(0, 0), (0, 0), (0, 0), x])
/-! ### cidr.Mask: bits behind one on are struck -/
def maskA (m : Nat) (x : AV) : Option AV := match aNum x with
  | some (.u8, e) => bif fits .u8 e then (bif Nat.beq m 0 then some x else bif Nat.beq m 8 then some (.int .u8 0) else bif divOk ((2 ^ m : Nat) : Int) e then some (mkLin .u8 (mulL ((2 ^ m : Nat) : Int) (divL ((2 ^ m : Nat) : Int) e))) else none) else none
  | _ => none
def cutAt (n k : Nat) : Nat := min 8 (8 * (k + 1) - n)
def z12 : List AV := List.replicate 12 (.int .u8 0)
def spMask (args : List AV) (h : Heap) : Option OutH := match args, h with
  | [.agg (.int .i64 4 :: b0 :: b1 :: b2 :: b3 :: z), .int .i64 n], [] =>
    bif Nat.ble n.toNat 32 && decide (0 ≤ n) && eqAL z z12 then
      (match maskA (cutAt n.toNat 0) b0, maskA (cutAt n.toNat 1) b1, maskA (cutAt n.toNat 2) b2, maskA (cutAt n.toNat 3) b3 with
      | some c0, some c1, some c2, some c3 => some (.agg (.int .i64 4 :: c0 :: c1 :: c2 :: c3 :: (z12 ++ [.int .i64 n])), [])
      | _, _, _, _ => none) else none
  | _, _ => none
/-! ### cidr.Compare: by bytes, then by length -/
def cmpRes : List (List Int × List Int) → Option Int
  | [] => some 0
  | (e, f) :: l => match cmpE .lss e f with
    | some true => some (-1)
    | _ => match cmpE .gtr e f with
      | some true => some 1
      | _ => match cmpE .eql e f with
        | some true => cmpRes l
        | _ => match cmpE .leq e f with
          | some true => (match cmpRes l with | some (-1) => some (-1) | _ => none)
          | _ => match cmpE .geq e f with
            | some true => (match cmpRes l with | some 1 => some 1 | _ => none)
            | _ => none
def octE (x : AV) : Option (List Int) := match aNum x with
  | some (.u8, e) => bif fits .u8 e then some e else none
  | _ => none
def lenE (x : AV) : Option (List Int) := match aNum x with
  | some (.i64, e) => bif decide (0 ≤ loV e) && decide (hiV e ≤ 255) then some e else none
  | _ => none
def spCmpL (args : List AV) (h : Heap) : Option OutH := match args, h with
  | [.agg (.int .i64 4 :: a0 :: a1 :: a2 :: a3 :: x0 :: x1 :: x2 :: x3 :: x4 :: x5 :: x6 :: x7 :: x8 :: x9 :: x10 :: x11 :: [n]), .agg (.int .i64 4 :: b0 :: b1 :: b2 :: b3 :: y0 :: y1 :: y2 :: y3 :: y4 :: y5 :: y6 :: y7 :: y8 :: y9 :: y10 :: y11 :: [m])], [] =>
    bif eqAL [x0, x1, x2, x3, x4, x5, x6, x7, x8, x9, x10, x11] z12 && eqAL [y0, y1, y2, y3, y4, y5, y6, y7, y8, y9, y10, y11] z12 then
      (match octE a0, octE a1, octE a2, octE a3, lenE n, octE b0, octE b1, octE b2, octE b3, lenE m with
      | some a0, some a1, some a2, some a3, some n, some b0, some b1, some b2, some b3, some m => (match cmpRes [(a0, b0), (a1, b1), (a2, b2), (a3, b3), (n, m)] with
        | some r => some (.int .i64 r, [])
        | none => none)
      | _, _, _, _, _, _, _, _, _, _ => none) else none
  | _, _ => none
end Go.AH
namespace Go.AH
open Go
set_option linter.unusedVariables false
set_option linter.unusedSimpArgs false
/-! ### bytes held against bytes -/
def bytesSlF (h : Heap) (x : AV) : Option (List (List Int)) := match x with
  | .sl id off len (some cap) => match rowAt h id with
    | some (cs, _, _) => if len ≤ cap ∧ 0 < cap then match cut cs off len with
      | some ds => symOf ds
      | none => none else none
    | none => none
  | _ => none
def lexF : List (List Int) → List (List Int) → Option Int
  | [], [] => some 0
  | [], _ :: _ => some (-1)
  | _ :: _, [] => some 1
  | e :: a, f :: b => match cmpE .lss e f with
    | some true => some (-1)
    | _ => match cmpE .gtr e f with
      | some true => some 1
      | _ => match cmpE .eql e f with
        | some true => lexF a b
        | _ => none
/-- internal/bytealg.Compare -/
def spCmpF (args : List AV) (h : Heap) : Option OutH := match args with
  | [x, y] => match bytesSlF h x, bytesSlF h y with
    | some xs, some ys => match lexF xs ys with
      | some r => some (.int .i64 r, h)
      | none => none
    | _, _ => none
  | _ => none
end Go.AH
namespace Go.AH
open Go
set_option linter.unusedVariables false
set_option linter.unusedSimpArgs false
set_option maxRecDepth 10000
section
variable {P : Program} {F : Fr} {β : Nat → Nat} {w : World} {h : Heap}
theorem symOf_len : ∀ {ds : List AV} {l : List (List Int)}, symOf ds = some l → l.length = ds.length
  | [], l, h => by simp [symOf] at h; subst h; rfl
  | x :: xs, l, h => by
    unfold symOf at h
    split at h <;> try (cases h; done)
    rename_i e l' hx hl
    split at h <;> simp only [Option.some.injEq, reduceCtorEq] at h
    subst h
    simp [symOf_len hl]
theorem symOf_get : ∀ {ds : List AV} {l : List (List Int)}, symOf ds = some l → ∀ {j : Nat} {e : List Int}, l[j]? = some e → ∃ x, ds[j]? = some x ∧ aNum x = some (.u8, e) ∧ 0 ≤ loV e ∧ hiV e < 256
  | [], l, h, j, e, hj => by simp [symOf] at h; subst h; simp at hj
  | x :: xs, l, h, j, e, hj => by
    unfold symOf at h
    split at h <;> try (cases h; done)
    rename_i e' l' hx hl
    split at h <;> simp only [Option.some.injEq, reduceCtorEq] at h
    rename_i hb
    subst h
    cases j with
    | zero => simp at hj; subst hj; exact ⟨x, rfl, hx, hb⟩
    | succ j =>
      obtain ⟨y, h1, h2⟩ := symOf_get hl (j := j) (by simpa using hj)
      exact ⟨y, by simpa using h1, h2⟩
theorem run_bytesSlF (s : St F β w h) {x : AV} {u : Value} {xs : List (List Int)} (hx : bytesSlF h x = some xs) (r : Rel (ctx F β w h) x u) :
    ∃ sb : List UInt8, (Extern.Bytes.bytesOf u).run P w = .ok ⟨sb.toArray⟩ w ∧ SymOk (ctx F β w h) sb xs := by
  unfold bytesSlF at hx
  split at hx <;> try (cases hx; done)
  rename_i id off len cap
  split at hx <;> try (cases hx; done)
  rename_i cs e wh hrow
  split at hx <;> try (cases hx; done)
  rename_i hc
  split at hx <;> try (cases hx; done)
  rename_i ds hcut
  obtain ⟨hid, o, cap', rfl, ho, hle, hcap⟩ := r
  have hcap := hcap cap rfl
  have ho : o = off := by rcases ho with q | q; exact q; omega
  subst ho
  obtain ⟨h1, h2, h3⟩ := cut_len hcut
  have hl := symOf_len hx
  let ns : List Int := xs.map (linV F.V.ρ)
  have hrun := Lib.run_loadBytesX (P := P) w ns ⟨β id, o, none⟩ .empty (fun j x hj => by
    have e1 : (⟨β id, o, none⟩ : Addr).add j = ⟨β id, o + j, none⟩ := by unfold Addr.add; split <;> simp_all
    simp only [ns, List.getElem?_map, Option.map_eq_some_iff] at hj
    obtain ⟨e0, he0, rfl⟩ := hj
    obtain ⟨y, hy, hn, _⟩ := symOf_get hx he0
    rw [h3] at hy
    have hjl : j < len := by have := (List.getElem?_eq_some_iff.1 he0).1; omega
    rw [List.getElem?_take_of_lt hjl, List.getElem?_drop] at hy
    obtain ⟨z, hz, rz⟩ := s.cellOf hrow hy
    have := aNum_rel hn rz
    subst this
    rw [e1]
    exact hz)
  have hlen : ns.length = len := by simp only [ns, List.length_map]; omega
  rw [hlen] at hrun
  refine ⟨Lib.bytesOf ns, ?_, ?_⟩
  · show (Extern.Bytes.loadBytes ⟨β id, o, none⟩ len .empty).run P w = _
    rw [hrun]
    congr 1
    apply ByteArray.ext
    show (#[] : Array UInt8) ++ _ = _
    simp
  · unfold SymOk Lib.bytesOf
    simp only [ns, List.map_map]
    apply List.map_congr_left
    intro e he
    obtain ⟨j, hj⟩ := List.mem_iff_getElem?.1 he
    obtain ⟨_, _, _, b1, b2⟩ := symOf_get hx hj
    have bd := linV_bound F.V e
    simp only [Function.comp]
    have e0 : (UInt8.ofNat (linV F.V.ρ e).toNat).toNat = (linV F.V.ρ e).toNat % 256 := by simp
    rw [e0]; omega
end
theorem lexF_ok {c : Ctx} : ∀ {l m : List (List Int)} {s t : List UInt8} {r : Int}, lexF l m = some r → SymOk c s l → SymOk c t m → Lib.compareBytes s t = r
  | [], [], s, t, r, h, p, q => by
    have h1 := p.length
    have h2 := q.length
    simp at h1 h2
    subst h1 h2
    simp [lexF] at h
    exact h
  | [], _ :: _, s, t, r, h, p, q => by
    have h1 := p.length
    have h2 := q.length
    simp at h1
    subst h1
    cases t with
    | nil => simp at h2
    | cons y t => simp [lexF] at h; exact h
  | _ :: _, [], s, t, r, h, p, q => by
    have h1 := p.length
    have h2 := q.length
    simp at h2
    subst h2
    cases s with
    | nil => simp at h1
    | cons y t => simp [lexF] at h; exact h
  | e :: a, f :: b, [], _, _, _, p, _ => by have := p.length; simp at this
  | e :: a, f :: b, _ :: _, [], _, _, _, q => by have := q.length; simp at this
  | e :: a, f :: b, x :: s, y :: t, r, h, p, q => by
    simp only [SymOk, List.map_cons, List.cons.injEq] at p q
    obtain ⟨p1, p2⟩ := p
    obtain ⟨q1, q2⟩ := q
    have lt_iff : (x < y) ↔ (x.toNat : Int) < (y.toNat : Int) := by
      rw [UInt8.lt_iff_toNat_lt]; omega
    have gt_iff : (y < x) ↔ (y.toNat : Int) < (x.toNat : Int) := by
      rw [UInt8.lt_iff_toNat_lt]; omega
    unfold Lib.compareBytes
    unfold lexF at h
    split at h
    · rename_i h1
      have := cmpE_cmpI c.V h1
      simp only [cmpI, Option.some.injEq, decide_eq_true_eq] at this
      rw [if_pos (lt_iff.2 (by rw [p1, q1]; exact this))]
      simpa using h
    · split at h
      · rename_i h1
        have := cmpE_cmpI c.V h1
        simp only [cmpI, Option.some.injEq, decide_eq_true_eq] at this
        rw [if_neg (fun z => by have := lt_iff.1 z; rw [p1, q1] at this; omega), if_pos (gt_iff.2 (by rw [p1, q1]; omega))]
        simpa using h
      · split at h
        · rename_i h1
          have := cmpE_cmpI c.V h1
          simp only [cmpI, Option.some.injEq, beq_iff_eq] at this
          rw [if_neg (fun z => by have := lt_iff.1 z; rw [p1, q1] at this; omega), if_neg (fun z => by have := gt_iff.1 z; rw [p1, q1] at this; omega)]
          exact lexF_ok h p2 q2
        · cases h
theorem spCmpF_ok {P : Program} {f : FuncId} (he : Ent P f Extern.BytealgCompare.compare) {args : List AV} {h h' : Heap} {r : AV} (e : spCmpF args h = some (r, h')) : ACalls P f args h (fun r' h'' => r' = .ret r ∧ h'' = h') := by
  unfold spCmpF at e
  split at e <;> try (cases e; done)
  rename_i x y
  split at e <;> try (cases e; done)
  rename_i xs ys hx hy
  split at e <;> simp only [Option.some.injEq, Prod.mk.injEq, reduceCtorEq] at e
  rename_i q hq
  obtain ⟨rfl, rfl⟩ := e
  refine acalls_entry0 he fun F β w vs s rl => ?_
  obtain ⟨u, us, rfl, ru, v, vs', rfl, rv, rfl⟩ := rl
  obtain ⟨sb, h1, p1⟩ := run_bytesSlF (P := P) s hx ru
  obtain ⟨tb, h2, p2⟩ := run_bytesSlF (P := P) s hy rv
  refine ⟨.int .i64 q, ?_, rfl⟩
  show ((do pure (goInt (Extern.BytealgCompare.cmp (← Extern.Bytes.bytesOf u) (← Extern.Bytes.bytesOf v))) : Sem Value)).run P w = _
  simp only [Sem.run_bind, h1, h2, Sem.run_pure, Result.andThen]
  have := lexF_ok hq p1 p2
  rw [Lib.cmp_eq]
  show Result.ok (goInt (Lib.compareBytes sb tb)) w = _
  rw [this]
  rfl
end Go.AH
namespace Go.AH
open Go
set_option linter.unusedVariables false
set_option linter.unusedSimpArgs false
set_option maxRecDepth 10000
/-! ### other values of the names, where the heap names none -/
/-- Other values of the names from the twentieth on. -/
def withG (V : Val) (g : Nat → Nat) (hg : ∀ i, 20 ≤ i → g i ≤ dom i) : Val where
  ρ i := if i < 20 then V.ρ i else (g i : Nat)
  lo i := by split; exact V.lo i; exact Int.natCast_nonneg _
  hi i := by split; exact V.hi i; exact Int.ofNat_le.2 (hg i (by omega))
  thr k hk := by
    simp only [show 5 * k + 4 < 20 by omega, show 5 * k < 20 by omega, show 5 * k + 1 < 20 by omega, show 5 * k + 2 < 20 by omega, if_true]
    exact V.thr k hk
  oct := V.oct
  ob := V.ob
  spc := V.spc
theorem withG_ρ (V : Val) (g : Nat → Nat) (hg : ∀ i, 20 ≤ i → g i ≤ dom i) {i : Nat} (hi : 20 ≤ i) : (withG V g hg).ρ i = (g i : Nat) := by
  show (if i < 20 then V.ρ i else ((g i : Nat) : Int)) = _
  rw [if_neg (by omega)]
theorem anyCls (V V' : Val) (h : V'.oct = V.oct) (j : Nat) : ClsOk V V' j ⟨false, [], [[(V.oct j 0 : Nat)], [(V.oct j 1 : Nat)], [(V.oct j 2 : Nat)], [(V.oct j 3 : Nat)]]⟩ := by
  refine ⟨h, ?_, fun h => by cases h⟩
  intro k hk
  have : k = 0 ∨ k = 1 ∨ k = 2 ∨ k = 3 := by omega
  rcases this with rfl | rfl | rfl | rfl <;> exact ⟨_, rfl, by simp [linV, linS]⟩
structure ClosedH (h : Heap) : Prop where
  ok : allH2 (okXB false) h = true
  rn : mapH2 (rnB 0) h = h
  sb : ∀ cl, mapH2 (sbTB cl) h = h
theorem closed_nil : ClosedH [] := ⟨rfl, rfl, fun _ => rfl⟩
theorem ClosedH.st {h : Heap} (k : ClosedH h) {F : Fr} {V' : Val} (ho : V'.oct = F.V.oct) {β : Nat → Nat} {w : World} : St F β w h ↔ St ⟨F.blk, V'⟩ β w h := by
  have := St.toCls (anyCls F.V V' ho 0) (β := β) (w := w) (h := h) k.ok
  rw [k.rn, k.sb] at this
  exact this
theorem named_call {P : Program} {f : FuncId} {args : List AV} {h h1 : Heap} {r : AV} (ch : ClosedH h) (ch1 : ClosedH h1)
    (cov : ∀ (c : Ctx) (vs : List Value), RelL c args vs → ∃ V' : Val, V'.oct = c.V.oct ∧ ∃ args' r', RelL (c.withV V') args' vs ∧ ACalls P f args' h (fun r2 h2 => r2 = .ret r' ∧ h2 = h1) ∧ ∀ (c2 : Ctx) (v : Value), c2.V = c.V → Rel (c2.withV V') r' v → Rel c2 r v) :
    ACalls P f args h (fun r2 h2 => r2 = .ret r ∧ h2 = h1) := by
  intro F β w vs s rl
  obtain ⟨V', ho, args', r', rl', run, hr⟩ := cov _ _ rl
  have s' := (ch.st (F := F) (V' := V') ho).1 s
  refine (run ⟨F.blk, V'⟩ β w vs s' rl').mono ?_
  rintro e w' ⟨β', h2, r2, ⟨rfl, rfl⟩, g, v', rfl, rv⟩
  exact ⟨β', _, _, ⟨rfl, rfl⟩, ⟨(ch1.st (F := F) (V' := V') ho).2 g.st, g.step, g.len, g.β⟩, v', rfl, hr _ _ rfl rv⟩
/-! ### bits -/
theorem mod_two_mul (y n : Nat) : y % 2 ^ (n + 1) = y % 2 + 2 * (y / 2 % 2 ^ n) := by
  rw [Nat.pow_succ, Nat.mul_comm, Nat.mod_mul]
theorem pow2_val (ρ : Nat → Int) (x i0 : Nat) : ∀ (n b : Nat), (∀ i, b ≤ i → i < b + n → ρ (i0 + i) = ((x / 2 ^ i % 2 : Nat) : Int)) → linS ρ (i0 + b) (pow2 b n) = ((2 ^ b * (x / 2 ^ b % 2 ^ n) : Nat) : Int)
  | 0, b, _ => by simp [pow2, linS, Nat.mod_one]
  | n + 1, b, h => by
    have ih := pow2_val ρ x i0 n (b + 1) (fun i h1 h2 => h i (by omega) (by omega))
    simp only [pow2, linS]
    rw [h b (by omega) (by omega), show i0 + b + 1 = i0 + (b + 1) by omega, ih, mod_two_mul]
    rw [show x / 2 ^ (b + 1) = x / 2 ^ b / 2 by rw [Nat.div_div_eq_div_mul, Nat.pow_succ]]
    push_cast
    rw [Int.mul_add, Int.pow_succ]
    simp only [Int.mul_assoc]
theorem linS_zeros (ρ : Nat → Int) : ∀ (n i : Nat) (l : List Int), linS ρ i (List.replicate n 0 ++ l) = linS ρ (i + n) l
  | 0, i, l => by simp
  | n + 1, i, l => by
    simp only [List.replicate_succ, List.cons_append, linS]
    rw [linS_zeros ρ n (i + 1) l, show i + 1 + n = i + (n + 1) by omega]
    simp
/-- Bits m to 7 of the k-th byte. -/
def hiF (m k : Nat) : List Int := strip ((0 : Int) :: (List.replicate (20 + 8 * k + m) 0 ++ pow2 m (8 - m)))
def bitsG (x : Nat → Nat) (i : Nat) : Nat := if i < 60 then x ((i - 20) / 8) / 2 ^ ((i - 20) % 8) % 2 else 0
theorem dom_bit : ∀ i : Fin 40, dom (20 + i.1) = 1 := by decide +kernel
theorem bitsG_dom (x : Nat → Nat) (i : Nat) (hi : 20 ≤ i) : bitsG x i ≤ dom i := by
  unfold bitsG
  split
  · have := dom_bit ⟨i - 20, by omega⟩
    simp only at this
    rw [show 20 + (i - 20) = i by omega] at this
    rw [this]
    omega
  · omega
theorem bitsG_at (V : Val) (x : Nat → Nat) (k i : Nat) (hk : k < 5) (hi : i < 8) : (withG V (bitsG x) (bitsG_dom x)).ρ (20 + 8 * k + i) = ((x k / 2 ^ i % 2 : Nat) : Int) := by
  rw [withG_ρ _ _ _ (by omega)]
  unfold bitsG
  rw [if_pos (by omega), show (20 + 8 * k + i - 20) / 8 = k by omega, show (20 + 8 * k + i - 20) % 8 = i by omega]
theorem bitF_val (V : Val) (x : Nat → Nat) (f m k : Nat) (hk : k < 5) (hm : m ≤ 8) : linV (withG V (bitsG x) (bitsG_dom x)).ρ (bitF f m k) = ((f + x k % 2 ^ m : Nat) : Int) := by
  unfold bitF
  rw [linV_strip]
  simp only [linV]
  rw [linS_zeros, show 0 + (20 + 8 * k) = 20 + 8 * k + 0 by omega, pow2_val _ (x k) (20 + 8 * k) m 0 (fun i _ h => bitsG_at V x k i hk (by omega))]
  simp
theorem hiF_val (V : Val) (x : Nat → Nat) (m k : Nat) (hk : k < 5) (hm : m ≤ 8) (hx : x k < 256) : linV (withG V (bitsG x) (bitsG_dom x)).ρ (hiF m k) = ((2 ^ m * (x k / 2 ^ m) : Nat) : Int) := by
  unfold hiF
  rw [linV_strip]
  simp only [linV]
  rw [linS_zeros, show 0 + (20 + 8 * k + m) = 20 + 8 * k + m by omega, pow2_val _ (x k) (20 + 8 * k) (8 - m) m (fun i _ h => bitsG_at V x k i hk (by omega))]
  have : x k / 2 ^ m % 2 ^ (8 - m) = x k / 2 ^ m := by
    apply Nat.mod_eq_of_lt
    apply Nat.div_lt_of_lt_mul
    rw [← Nat.pow_add, show m + (8 - m) = 8 by omega]
    exact hx
  rw [this]
  simp
end Go.AH
namespace Go.AH
open Go
set_option linter.unusedVariables false
set_option linter.unusedSimpArgs false
set_option maxRecDepth 10000
/-! ### cidr.Mask -/
def maskArgs (n : Nat) : List AV := [.agg (.int .i64 4 :: mkLin .u8 (bitF 0 8 0) :: mkLin .u8 (bitF 0 8 1) :: mkLin .u8 (bitF 0 8 2) :: mkLin .u8 (bitF 0 8 3) :: z12), .int .i64 n]
def maskRes (n : Nat) : AV := .agg (.int .i64 4 :: mkLin .u8 (hiF (cutAt n 0) 0) :: mkLin .u8 (hiF (cutAt n 1) 1) :: mkLin .u8 (hiF (cutAt n 2) 2) :: mkLin .u8 (hiF (cutAt n 3) 3) :: (z12 ++ [.int .i64 n]))
theorem cutAt_le (n k : Nat) : cutAt n k ≤ 8 := by unfold cutAt; omega
/-- A byte that is told by a form, of any context. -/
theorem oct_of {x : AV} {e : List Int} (c : Ctx) (hf : fits .u8 e = true) : ∃ b : Nat, b < 256 ∧ linV c.V.ρ e = (b : Int) := by
  simp only [fits, Bool.and_eq_true, decide_eq_true_eq] at hf
  have := linV_bound c.V e
  have h1 : IntKind.u8.min = 0 := by decide
  have h2 : IntKind.u8.max = 255 := by decide
  rw [h1, h2] at hf
  exact ⟨(linV c.V.ρ e).toNat, by omega, by omega⟩
theorem maskA_byte {m : Nat} {x y : AV} (h : maskA m x = some y) : ∃ e, aNum x = some (.u8, e) ∧ fits .u8 e = true := by
  unfold maskA at h
  split at h <;> try (cases h; done)
  rename_i e hx
  cases hf : fits .u8 e
  · rw [hf] at h; cases h
  · exact ⟨e, hx, hf⟩
theorem maskA_val {m : Nat} {x y : AV} {c : Ctx} {v : Value} {e : List Int} {b : Nat} (h : maskA m x = some y) (hx : aNum x = some (.u8, e)) (hb : b < 256) (he : linV c.V.ρ e = (b : Int)) (hv : v = .int .u8 ((2 ^ m * (b / 2 ^ m) : Nat) : Int)) : Rel c y v := by
  unfold maskA at h
  rw [hx] at h
  simp only at h
  cases hf : fits .u8 e
  · rw [hf] at h; cases h
  · rw [hf, cond_true] at h
    cases h0 : Nat.beq m 0
    · rw [h0, cond_false] at h
      cases h8 : Nat.beq m 8
      · rw [h8, cond_false] at h
        cases hd : divOk ((2 ^ m : Nat) : Int) e
        · rw [hd] at h; cases h
        · rw [hd, cond_true] at h
          simp only [Option.some.injEq] at h
          subst h
          obtain ⟨h1, h2, h3⟩ := divOk_val c.V hd
          rw [hv]
          apply mkLin_iff.2
          rw [linV_mul, ← h2, he]
          congr 1
      · rw [h8, cond_true] at h
        have : m = 8 := Nat.eq_of_beq_eq_true h8
        subst this
        simp only [Option.some.injEq] at h
        subst h
        rw [hv, Nat.div_eq_of_lt hb]
        rfl
    · have : m = 0 := Nat.eq_of_beq_eq_true h0
      subst this
      rw [h0, cond_true] at h
      simp only [Option.some.injEq] at h
      subst h
      rw [hv]
      simp only [Nat.pow_zero, Nat.one_mul, Nat.div_one]
      cases x <;> simp only [aNum, reduceCtorEq, Option.some.injEq, Prod.mk.injEq] at hx
      all_goals
        obtain ⟨rfl, rfl⟩ := hx
        rw [← he]
        simp [linV, linS, Rel]
def x4 (a b c d : Nat) (i : Nat) : Nat := match i with
  | 0 => a | 1 => b | 2 => c | _ => d
theorem relL_cons {c : Ctx} {x : AV} {xs : List AV} {vs : List Value} : RelL c (x :: xs) vs ↔ ∃ v ws, vs = v :: ws ∧ Rel c x v ∧ RelL c xs ws := by
  constructor
  · rintro ⟨v, ws, rfl, h1, h2⟩; exact ⟨v, ws, rfl, h1, h2⟩
  · rintro ⟨v, ws, rfl, h1, h2⟩; exact ⟨v, ws, rfl, h1, h2⟩
theorem relL_z12 {c c' : Ctx} : ∀ {n : Nat} {vs : List Value}, RelL c (List.replicate n (.int .u8 0)) vs → RelL c' (List.replicate n (.int .u8 0)) vs
  | 0, vs, h => h
  | n + 1, vs, ⟨v, ws, e, h1, h2⟩ => ⟨v, ws, e, h1, relL_z12 h2⟩
theorem spMask_ok {P : Program} {f : FuncId} (runs : ∀ n, n ≤ 32 → ACalls P f (maskArgs n) [] (fun r h => r = .ret (maskRes n) ∧ h = [])) {args : List AV} {h h' : Heap} {r : AV} (e : spMask args h = some (r, h')) : ACalls P f args h (fun r' h'' => r' = .ret r ∧ h'' = h') := by
  unfold spMask at e
  split at e <;> try (cases e; done)
  rename_i b0 b1 b2 b3 z n
  cases hc : (Nat.ble n.toNat 32 && decide (0 ≤ n) && eqAL z z12)
  · rw [hc] at e; cases e
  rw [hc, cond_true] at e
  simp only [Bool.and_eq_true, decide_eq_true_eq] at hc
  obtain ⟨⟨hn1, hn0⟩, hz⟩ := hc
  have hn1 := Nat.le_of_ble_eq_true hn1
  have hz := eqAL_eq hz
  subst hz
  split at e <;> try (cases e; done)
  rename_i c0 c1 c2 c3 h0 h1 h2 h3
  simp only [Option.some.injEq, Prod.mk.injEq] at e
  obtain ⟨rfl, rfl⟩ := e
  obtain ⟨e0, g0, f0⟩ := maskA_byte h0
  obtain ⟨e1, g1, f1⟩ := maskA_byte h1
  obtain ⟨e2, g2, f2⟩ := maskA_byte h2
  obtain ⟨e3, g3, f3⟩ := maskA_byte h3
  obtain ⟨N, rfl⟩ : ∃ N : Nat, n = (N : Int) := ⟨n.toNat, by omega⟩
  simp only [Int.toNat_natCast] at hn1 h0 h1 h2 h3
  refine named_call closed_nil closed_nil fun c vs rl => ?_
  obtain ⟨v, ws, rfl, ⟨⟨ul⟩, rfl, q⟩, rn⟩ := relL_cons.1 rl
  obtain ⟨u4, us, rfl, r4, q⟩ := relL_cons.1 q
  obtain ⟨u0, us, rfl, r0, q⟩ := relL_cons.1 q
  obtain ⟨u1, us, rfl, r1, q⟩ := relL_cons.1 q
  obtain ⟨u2, us, rfl, r2, q⟩ := relL_cons.1 q
  obtain ⟨u3, us, rfl, r3, qz⟩ := relL_cons.1 q
  obtain ⟨x0, l0, k0⟩ := oct_of (x := b0) c f0
  obtain ⟨x1, l1, k1⟩ := oct_of (x := b1) c f1
  obtain ⟨x2, l2, k2⟩ := oct_of (x := b2) c f2
  obtain ⟨x3, l3, k3⟩ := oct_of (x := b3) c f3
  have r0 := aNum_rel g0 r0
  have r1 := aNum_rel g1 r1
  have r2 := aNum_rel g2 r2
  have r3 := aNum_rel g3 r3
  rw [k0] at r0
  rw [k1] at r1
  rw [k2] at r2
  rw [k3] at r3
  subst r0 r1 r2 r3
  have bv : ∀ k (hk : k < 4), linV (withG c.V (bitsG (x4 x0 x1 x2 x3)) (bitsG_dom _)).ρ (bitF 0 8 k) = ((x4 x0 x1 x2 x3 k : Nat) : Int) := fun k hk => by
    rw [bitF_val _ _ _ _ _ (by omega) (by omega), Nat.mod_eq_of_lt, Nat.zero_add]
    have : k = 0 ∨ k = 1 ∨ k = 2 ∨ k = 3 := by omega
    rcases this with rfl | rfl | rfl | rfl <;> assumption
  have hv : ∀ m k (hk : k < 4) (hm : m ≤ 8), linV (withG c.V (bitsG (x4 x0 x1 x2 x3)) (bitsG_dom _)).ρ (hiF m k) = ((2 ^ m * (x4 x0 x1 x2 x3 k / 2 ^ m) : Nat) : Int) := fun m k hk hm => by
    apply hiF_val _ _ _ _ (by omega) hm
    have : k = 0 ∨ k = 1 ∨ k = 2 ∨ k = 3 := by omega
    rcases this with rfl | rfl | rfl | rfl <;> assumption
  refine ⟨withG c.V (bitsG (x4 x0 x1 x2 x3)) (bitsG_dom _), rfl, maskArgs N, maskRes N, ?_, runs N hn1, ?_⟩
  · refine ⟨_, _, rfl, ⟨_, rfl, ⟨_, _, rfl, r4, _, _, rfl, ?_, _, _, rfl, ?_, _, _, rfl, ?_, _, _, rfl, ?_, relL_z12 qz⟩⟩, ?_⟩
    · exact mkLin_iff.2 (congrArg (Value.int .u8) (bv 0 (by omega)).symm)
    · exact mkLin_iff.2 (congrArg (Value.int .u8) (bv 1 (by omega)).symm)
    · exact mkLin_iff.2 (congrArg (Value.int .u8) (bv 2 (by omega)).symm)
    · exact mkLin_iff.2 (congrArg (Value.int .u8) (bv 3 (by omega)).symm)
    · obtain ⟨a, b, rfl, h1, h2⟩ := relL_cons.1 rn
      exact ⟨a, b, rfl, h1, h2⟩
  · rintro c2 v ec ⟨⟨ul⟩, rfl, q⟩
    obtain ⟨w4, us, rfl, t4, q⟩ := relL_cons.1 q
    obtain ⟨w0, us, rfl, t0, q⟩ := relL_cons.1 q
    obtain ⟨w1, us, rfl, t1, q⟩ := relL_cons.1 q
    obtain ⟨w2, us, rfl, t2, q⟩ := relL_cons.1 q
    obtain ⟨w3, us, rfl, t3, q⟩ := relL_cons.1 q
    have t0 := mkLin_iff.1 t0
    have t1 := mkLin_iff.1 t1
    have t2 := mkLin_iff.1 t2
    have t3 := mkLin_iff.1 t3
    change _ = Value.int .u8 (linV (withG c.V (bitsG (x4 x0 x1 x2 x3)) (bitsG_dom _)).ρ _) at t0 t1 t2 t3
    rw [hv _ 0 (by omega) (cutAt_le _ _)] at t0
    rw [hv _ 1 (by omega) (cutAt_le _ _)] at t1
    rw [hv _ 2 (by omega) (cutAt_le _ _)] at t2
    rw [hv _ 3 (by omega) (cutAt_le _ _)] at t3
    rw [← ec] at k0 k1 k2 k3
    refine ⟨_, rfl, _, _, rfl, t4, _, _, rfl, ?_, _, _, rfl, ?_, _, _, rfl, ?_, _, _, rfl, ?_, ?_⟩
    · exact maskA_val h0 g0 l0 k0 t0
    · exact maskA_val h1 g1 l1 k1 t1
    · exact maskA_val h2 g2 l2 k2 t2
    · exact maskA_val h3 g3 l3 k3 t3
    · have tail : ∀ {k : Nat} {vs : List Value}, RelL (c2.withV (withG c.V (bitsG (x4 x0 x1 x2 x3)) (bitsG_dom _))) (List.replicate k (.int .u8 0) ++ [.int .i64 (N : Int)]) vs → RelL c2 (List.replicate k (.int .u8 0) ++ [.int .i64 (N : Int)]) vs := by
        intro k
        induction k with
        | zero => rintro vs ⟨a, b, rfl, h1, h2⟩; exact ⟨a, b, rfl, h1, h2⟩
        | succ k ih => rintro vs ⟨a, b, rfl, h1, h2⟩; exact ⟨a, b, rfl, h1, ih h2⟩
      exact tail q
end Go.AH
