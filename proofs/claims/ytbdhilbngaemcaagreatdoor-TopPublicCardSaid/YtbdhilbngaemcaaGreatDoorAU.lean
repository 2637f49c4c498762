/- Other names for numbers; walks at given values of the names. No condition. -/
import Derived.Test.YtbdhilbngaemcaaGreatDoorAI
set_option linter.unusedVariables false
set_option linter.unusedSimpArgs false
namespace Go.AH
open Go
set_option linter.unusedVariables false
set_option linter.unusedSimpArgs false
/-! ### names in place of names -/
/-- The form of one name. -/
def unitL (i : Nat) : List Int := List.replicate (i + 1) 0 ++ [1]
def sbS (s : Nat → List Int) : Nat → List Int → List Int
  | _, [] => []
  | i, a :: as => addL (mulL a (s i)) (sbS s (i + 1) as)
def sbE (s : Nat → List Int) : List Int → List Int
  | [] => []
  | c :: as => strip (addL [c] (sbS s 0 as))
theorem sbS_val {ρ : Nat → Int} {s : Nat → List Int} (hs : ∀ i, linV ρ (s i) = ρ i) : ∀ (i : Nat) (as : List Int), linV ρ (sbS s i as) = linS ρ i as
  | _, [] => rfl
  | i, a :: as => by rw [sbS, linV_add, linV_mul, hs, sbS_val hs (i + 1) as]; rfl
theorem sbE_val {ρ : Nat → Int} {s : Nat → List Int} (hs : ∀ i, linV ρ (s i) = ρ i) : ∀ (e : List Int), linV ρ (sbE s e) = linV ρ e
  | [] => rfl
  | c :: as => by
    rw [sbE, linV_strip, linV_add, sbS_val hs]
    simp [linV, linS]
mutual
def sbA (s : Nat → List Int) : AV → AV
  | .lin k e => mkLin k (sbE s e)
  | .sym l => mkSym (l.map (sbE s))
  | .iptr cs => .iptr (sbL s cs)
  | .isl cs n => .isl (sbL s cs) n
  | .fn f cs => .fn f (sbL s cs)
  | .ifc t v => .ifc t (sbA s v)
  | .agg cs => .agg (sbL s cs)
  | .tup cs => .tup (sbL s cs)
  | .bfn f cs => .bfn f (sbL s cs)
  | x => x
def sbL (s : Nat → List Int) : List AV → List AV
  | [] => []
  | x :: xs => sbA s x :: sbL s xs
end
theorem mkLin_iff {c : Ctx} {k : IntKind} {e : List Int} {v : Value} : Rel c (mkLin k e) v ↔ v = .int k (linV c.V.ρ e) := by
  rw [← linV_strip]
  unfold mkLin
  generalize strip e = a
  split
  · simp [Rel, linV]
  · simp [Rel, linV, linS]
  · simp only [Rel]
theorem constL_sym {c : Ctx} : ∀ {l : List (List Int)} {s : List UInt8}, constL l = some s → SymOk c s l
  | [], s, h => by simp [constL] at h; subst h; rfl
  | e :: l, s, h => by
    unfold constL at h
    split at h <;> simp only [Option.some.injEq, reduceCtorEq] at h
    rename_i b' s' hb hs
    subst h
    have ih := constL_sym (c := c) hs
    unfold SymOk at *
    rw [List.map_cons, List.map_cons, ih, constB_val hb]
theorem mkSym_iff {c : Ctx} {l : List (List Int)} {v : Value} : Rel c (mkSym l) v ↔ ∃ s : List UInt8, v = .string ⟨s.toArray⟩ ∧ SymOk c s l := by
  unfold mkSym
  split
  · rename_i t ht
    constructor
    · intro r; exact ⟨t, r, constL_sym ht⟩
    · rintro ⟨s, rfl, r⟩; rw [constL_ok ht r]; rfl
  · exact Iff.rfl
theorem symOk_map {c : Ctx} {s : Nat → List Int} (hs : ∀ i, linV c.V.ρ (s i) = c.V.ρ i) {t : List UInt8} {l : List (List Int)} : SymOk c t (l.map (sbE s)) ↔ SymOk c t l := by
  unfold SymOk
  rw [List.map_map]
  have : (linV c.V.ρ ∘ sbE s) = linV c.V.ρ := funext fun e => sbE_val hs e
  rw [this]
mutual
theorem Rel.sb {c : Ctx} {s : Nat → List Int} (hs : ∀ i, linV c.V.ρ (s i) = c.V.ρ i) : ∀ (x : AV) (v : Value), Rel c (sbA s x) v ↔ Rel c x v
  | .lin k e, v => by rw [sbA, mkLin_iff, sbE_val hs]; exact Iff.rfl
  | .sym l, v => by
    rw [sbA, mkSym_iff]
    constructor
    · rintro ⟨t, h1, h2⟩; exact ⟨t, h1, (symOk_map hs).1 h2⟩
    · rintro ⟨t, h1, h2⟩; exact ⟨t, h1, (symOk_map hs).2 h2⟩
  | .iptr cs, v => by
    simp only [sbA, Rel]
    constructor
    · rintro ⟨b, o, h1, h2, h3, h4⟩; exact ⟨b, o, h1, h2, h3, (Row.sb hs cs b o).1 h4⟩
    · rintro ⟨b, o, h1, h2, h3, h4⟩; exact ⟨b, o, h1, h2, h3, (Row.sb hs cs b o).2 h4⟩
  | .isl cs n, v => by
    simp only [sbA, Rel]
    constructor
    · rintro ⟨a, cap', h1, h2, h3⟩; exact ⟨a, cap', h1, h2, h3.imp id fun ⟨b, o, q1, q2, q3, q4⟩ => ⟨b, o, q1, q2, q3, (Row.sb hs cs b o).1 q4⟩⟩
    · rintro ⟨a, cap', h1, h2, h3⟩; exact ⟨a, cap', h1, h2, h3.imp id fun ⟨b, o, q1, q2, q3, q4⟩ => ⟨b, o, q1, q2, q3, (Row.sb hs cs b o).2 q4⟩⟩
  | .fn f cs, v => by
    simp only [sbA, Rel]
    constructor
    · rintro ⟨vs, h1, h2⟩; exact ⟨vs, h1, (RelL.sb hs cs _).1 h2⟩
    · rintro ⟨vs, h1, h2⟩; exact ⟨vs, h1, (RelL.sb hs cs _).2 h2⟩
  | .ifc t x, v => by
    simp only [sbA, Rel]
    constructor
    · rintro ⟨y, h1, h2⟩; exact ⟨y, h1, (Rel.sb hs x y).1 h2⟩
    · rintro ⟨y, h1, h2⟩; exact ⟨y, h1, (Rel.sb hs x y).2 h2⟩
  | .agg cs, v => by
    simp only [sbA, Rel]
    constructor
    · rintro ⟨vs, h1, h2⟩; exact ⟨vs, h1, (RelL.sb hs cs _).1 h2⟩
    · rintro ⟨vs, h1, h2⟩; exact ⟨vs, h1, (RelL.sb hs cs _).2 h2⟩
  | .tup cs, v => by
    simp only [sbA, Rel]
    constructor
    · rintro ⟨vs, h1, h2⟩; exact ⟨vs, h1, (RelL.sb hs cs _).1 h2⟩
    · rintro ⟨vs, h1, h2⟩; exact ⟨vs, h1, (RelL.sb hs cs _).2 h2⟩
  | .bfn f cs, v => by
    simp only [sbA, Rel]
    constructor
    · rintro ⟨vs, h1, h2⟩; exact ⟨vs, h1, (RelL.sb hs cs _).1 h2⟩
    · rintro ⟨vs, h1, h2⟩; exact ⟨vs, h1, (RelL.sb hs cs _).2 h2⟩
  | .any _, _ => Iff.rfl
  | .gptr _ _, _ => Iff.rfl
  | .anyb, _ => Iff.rfl
  | .atl _ _, _ => Iff.rfl
  | .txt _ _, _ => Iff.rfl
  | .oct _ _, _ => Iff.rfl
  | .bstr _ _, _ => Iff.rfl
  | .osl _ _, _ => Iff.rfl
  | .lnb _, _ => Iff.rfl
  | .unk, _ => Iff.rfl
  | .bool _, _ => Iff.rfl
  | .int _ _, _ => Iff.rfl
  | .str _, _ => Iff.rfl
  | .nilp, _ => Iff.rfl
  | .ptr _ _, _ => Iff.rfl
  | .nilsl, _ => Iff.rfl
  | .esl, _ => Iff.rfl
  | .sl _ _ _ _, _ => Iff.rfl
  | .gsl _ _ _, _ => Iff.rfl
  | .nilm, _ => Iff.rfl
  | .map _, _ => Iff.rfl
  | .nilf, _ => Iff.rfl
  | .nili, _ => Iff.rfl
theorem RelL.sb {c : Ctx} {s : Nat → List Int} (hs : ∀ i, linV c.V.ρ (s i) = c.V.ρ i) : ∀ (xs : List AV) (vs : List Value), RelL c (sbL s xs) vs ↔ RelL c xs vs
  | [], _ => Iff.rfl
  | x :: xs, vs => by
    simp only [sbL, RelL]
    constructor
    · rintro ⟨y, ys, h1, h2, h3⟩; exact ⟨y, ys, h1, (Rel.sb hs x y).1 h2, (RelL.sb hs xs ys).1 h3⟩
    · rintro ⟨y, ys, h1, h2, h3⟩; exact ⟨y, ys, h1, (Rel.sb hs x y).2 h2, (RelL.sb hs xs ys).2 h3⟩
theorem Row.sb {c : Ctx} {s : Nat → List Int} (hs : ∀ i, linV c.V.ρ (s i) = c.V.ρ i) : ∀ (xs : List AV) (b o : Nat), Row c (sbL s xs) b o ↔ Row c xs b o
  | [], _, _ => Iff.rfl
  | x :: xs, b, o => by
    simp only [sbL, Row]
    constructor
    · rintro ⟨⟨y, h1, h2⟩, h3⟩; exact ⟨⟨y, h1, (Rel.sb hs x y).1 h2⟩, (Row.sb hs xs b (o + 1)).1 h3⟩
    · rintro ⟨⟨y, h1, h2⟩, h3⟩; exact ⟨⟨y, h1, (Rel.sb hs x y).2 h2⟩, (Row.sb hs xs b (o + 1)).2 h3⟩
end
def sbM (s : Nat → List Int) : List (AV × AV × Nat) → List (AV × AV × Nat)
  | [] => []
  | (k, v, b) :: es => (sbA s k, sbA s v, b) :: sbM s es
theorem RelE.sb {c : Ctx} {s : Nat → List Int} (hs : ∀ i, linV c.V.ρ (s i) = c.V.ρ i) : ∀ (es : List (AV × AV × Nat)) (l : List MapEntry), RelE c (sbM s es) l ↔ RelE c es l
  | [], _ => Iff.rfl
  | (k, v, b) :: es, l => by
    simp only [sbM, RelE]
    constructor
    · rintro ⟨e, r, h1, h2, h3, h4, h5⟩; exact ⟨e, r, h1, (Rel.sb hs k _).1 h2, (Rel.sb hs v _).1 h3, h4, (RelE.sb hs es r).1 h5⟩
    · rintro ⟨e, r, h1, h2, h3, h4, h5⟩; exact ⟨e, r, h1, (Rel.sb hs k _).2 h2, (Rel.sb hs v _).2 h3, h4, (RelE.sb hs es r).2 h5⟩
def sbB (s : Nat → List Int) : Blk → Blk
  | .row cs e w => .row (sbL s cs) e w
  | .mp es k => .mp (sbM s es) k
  | .siter t p => .siter t p
  | .yiter l p => .yiter (l.map (sbE s)) p
  | .ubytes e => .ubytes e
theorem BlkRel.sb {c : Ctx} {s : Nat → List Int} (hs : ∀ i, linV c.V.ρ (s i) = c.V.ρ i) : ∀ (b : Blk) (o : Obj), BlkRel c (sbB s b) o ↔ BlkRel c b o
  | .row cs e w, o => by
    simp only [sbB, BlkRel]
    constructor
    · rintro ⟨vs, fz, h1, ⟨ys, zs, h2, h3, h4⟩, h5⟩; exact ⟨vs, fz, h1, ⟨ys, zs, h2, (RelL.sb hs cs ys).1 h3, h4⟩, h5⟩
    · rintro ⟨vs, fz, h1, ⟨ys, zs, h2, h3, h4⟩, h5⟩; exact ⟨vs, fz, h1, ⟨ys, zs, h2, (RelL.sb hs cs ys).2 h3, h4⟩, h5⟩
  | .mp es k, o => by
    simp only [sbB, BlkRel]
    constructor
    · rintro ⟨l, h1, h2⟩; exact ⟨l, h1, (RelE.sb hs es _).1 h2⟩
    · rintro ⟨l, h1, h2⟩; exact ⟨l, h1, (RelE.sb hs es _).2 h2⟩
  | .siter t p, o => Iff.rfl
  | .ubytes e, o => Iff.rfl
  | .yiter l p, o => by
    simp only [sbB, BlkRel]
    constructor
    · rintro ⟨t, h1, h2⟩; exact ⟨t, h1, (symOk_map hs).1 h2⟩
    · rintro ⟨t, h1, h2⟩; exact ⟨t, h1, (symOk_map hs).2 h2⟩
def sbH (s : Nat → List Int) : Heap → Heap
  | [] => []
  | none :: h => none :: sbH s h
  | some b :: h => some (sbB s b) :: sbH s h
theorem sbH_length (s : Nat → List Int) : ∀ h : Heap, (sbH s h).length = h.length
  | [] => rfl
  | none :: h => by simp [sbH, sbH_length s h]
  | some b :: h => by simp [sbH, sbH_length s h]
theorem sbH_get (s : Nat → List Int) : ∀ (h : Heap) (i : Nat), (sbH s h)[i]? = (h[i]?).map (Option.map (sbB s))
  | [], i => by simp [sbH]
  | none :: h, 0 => rfl
  | some b :: h, 0 => rfl
  | none :: h, i + 1 => by simp [sbH, sbH_get s h i]
  | some b :: h, i + 1 => by simp [sbH, sbH_get s h i]
theorem own_sb (s : Nat → List Int) (β : Nat → Nat) (h : Heap) (b : Nat) : Own β (sbH s h) b ↔ Own β h b := by
  unfold Own
  constructor
  · rintro ⟨id, blk, h1, h2⟩
    rw [sbH_get] at h1
    cases hb : h[id]? with
    | none => rw [hb] at h1; cases h1
    | some x => cases x with
      | none => rw [hb] at h1; simp at h1
      | some y => exact ⟨id, y, hb, h2⟩
  · rintro ⟨id, blk, h1, h2⟩
    exact ⟨id, sbB s blk, by rw [sbH_get, h1]; rfl, h2⟩
theorem ctx_sb (s : Nat → List Int) (F : Fr) (β : Nat → Nat) (w : World) (h : Heap) : ctx F β w (sbH s h) = ctx F β w h := by
  have : (fun b => Own β (sbH s h) b ∨ F b) = (fun b => Own β h b ∨ F b) := funext fun b => propext (or_congr (own_sb s β h b) Iff.rfl)
  unfold ctx
  rw [sbH_length, this]
theorem St.sb {s : Nat → List Int} {F : Fr} {β : Nat → Nat} {w : World} {h : Heap} (hs : ∀ i, linV F.V.ρ (s i) = F.V.ρ i) : St F β w (sbH s h) ↔ St F β w h := by
  have hown : Own β (sbH s h) = Own β h := funext fun b => propext (own_sb s β h b)
  constructor
  · intro st
    refine ⟨fun id blk hb => ?_, fun i j bi bj hi hj e => ?_, fun b q => by rw [← hown]; exact st.sep b q, st.flt, fun id hid => st.lt id (by rw [sbH_length]; exact hid), by rw [← hown]; exact st.gl⟩
    · obtain ⟨o, h1, h2⟩ := st.live id (sbB s blk) (by rw [sbH_get, hb]; rfl)
      rw [ctx_sb] at h2
      exact ⟨o, h1, (BlkRel.sb hs blk o).1 h2⟩
    · exact st.inj i j (sbB s bi) (sbB s bj) (by rw [sbH_get, hi]; rfl) (by rw [sbH_get, hj]; rfl) e
  · intro st
    have back : ∀ (id : Nat) (blk : Blk), (sbH s h)[id]? = some (some blk) → ∃ b, h[id]? = some (some b) ∧ blk = sbB s b := by
      intro id blk hb
      rw [sbH_get] at hb
      cases hx : h[id]? with
      | none => rw [hx] at hb; cases hb
      | some x => cases x with
        | none => rw [hx] at hb; simp at hb
        | some y => rw [hx] at hb; simp at hb; exact ⟨y, rfl, hb.symm⟩
    refine ⟨fun id blk hb => ?_, fun i j bi bj hi hj e => ?_, fun b q => by rw [hown]; exact st.sep b q, st.flt, fun id hid => st.lt id (by rw [sbH_length] at hid; exact hid), by rw [hown]; exact st.gl⟩
    · obtain ⟨b, hb2, rfl⟩ := back id blk hb
      obtain ⟨o, h1, h2⟩ := st.live id b hb2
      rw [ctx_sb]
      exact ⟨o, h1, (BlkRel.sb hs b o).2 h2⟩
    · obtain ⟨b1, h1, _⟩ := back i bi hi
      obtain ⟨b2, h2, _⟩ := back j bj hj
      exact st.inj i j b1 b2 h1 h2 e
end Go.AH
namespace Go.AH
open Go
set_option linter.unusedVariables false
set_option linter.unusedSimpArgs false
theorem LetsOut.mono {Q Q' : Exit → Act → World → Prop} (hq : ∀ e a w, Q e a w → Q' e a w) (h : LetsOut Q) : LetsOut Q' := by
  obtain ⟨a, w, q⟩ := h
  exact ⟨a, w, hq _ _ _ q⟩
theorem Oper.wp_monoQ {P : Program} {o : Oper} {a : Act} {w : World} {K K' : Act → World → Prop} {Q Q' : Exit → Act → World → Prop} (h : ∀ a w, K a w → K' a w) (hq : ∀ e a w, e ≠ .normal → Q e a w → Q' e a w)
    (hh : o.wp P a w K Q) : o.wp P a w K' Q' := by
  unfold Oper.wp at *
  generalize (execOp a.eval o).run P w = r at *
  cases r with
  | ok n w' =>
    cases n <;> simp only [Oper.upon] at hh ⊢ <;>
      first
        | exact h _ _ hh
        | exact Calls.mono hh (fun e w'' he => by
            cases e
            · exact h _ _ he
            · exact hq _ _ _ (by simp) he
            · obtain ⟨a, w, q⟩ := he; exact ⟨a, w, hq _ _ _ (by simp) q⟩)
        | exact Rows.mono hh (fun _ _ he => h _ _ he)
  | halt x w' => cases x <;> simp only [Oper.upon] at hh ⊢ <;> first | exact hq _ _ _ (by simp) hh | exact hh
theorem wpOps_cons1 {P : Program} {ops : Array Oper} {Q : Exit → Act → World → Prop} (i : Nat) (rest : List Nat) (a : Act) (w : World) :
    wpOps P ops Q (i :: rest) a w = match ops[i]? with
      | none => wpOps P ops Q rest a w
      | some o => if Region.wanted o (yielded ops a.tmps) then o.wp P a w (wpOps P ops Q rest) Q ∨ (o.asks P a w ∧ LetsOut Q) else wpOps P ops Q rest (a.put o.dst undef) w := rfl
theorem wpOps_mono {P : Program} {ops : Array Oper} {Q Q' : Exit → Act → World → Prop} (hq : ∀ e a w, Q e a w → Q' e a w) : ∀ {l : List Nat} {a : Act} {w : World}, wpOps P ops Q l a w → wpOps P ops Q' l a w
  | [], a, w, h => hq _ _ _ h
  | i :: l, a, w, h => by
    rw [wpOps_cons1] at h ⊢
    split at h
    · exact wpOps_mono hq h
    · split at h
      · rename_i hw
        rw [if_pos hw]
        exact h.imp (Oper.wp_monoQ (fun a w q => wpOps_mono hq q) (fun e a w _ q => hq e a w q)) (fun q => ⟨q.1, LetsOut.mono hq q.2⟩)
      · rename_i hw
        rw [if_neg hw]
        exact wpOps_mono hq h
/-- Operations, then others. -/
theorem wpOps_append {P : Program} {ops : Array Oper} {Q Q1 : Exit → Act → World → Prop} {l2 : List Nat} (h1 : ∀ a w, Q1 .normal a w → wpOps P ops Q l2 a w) (h2 : ∀ e a w, e ≠ .normal → Q1 e a w → Q e a w) :
    ∀ {l1 : List Nat} {a : Act} {w : World}, wpOps P ops Q1 l1 a w → wpOps P ops Q (l1 ++ l2) a w
  | [], a, w, h => h1 _ _ h
  | i :: l, a, w, h => by
    rw [wpOps_cons1] at h
    rw [List.cons_append, wpOps_cons1]
    split at h
    · exact wpOps_append h1 h2 h
    · split at h
      · rename_i hw
        rw [if_pos hw]
        refine h.imp (Oper.wp_monoQ (fun a w q => wpOps_append h1 h2 q) h2) (fun q => ⟨q.1, ?_⟩)
        obtain ⟨a, w, q⟩ := q.2
        exact ⟨a, w, h2 _ _ _ (by simp) q⟩
      · rename_i hw
        rw [if_neg hw]
        exact wpOps_append h1 h2 h
/-! ### walks at given values of the names -/
section
variable {P : Program} {V : Val} {n0 : Nat} {T : List AV} {h : Heap}
def aWV (P : Program) (V : Val) (n0 : Nat) (c : Code) (T : List AV) (h : Heap) (K : AExit → List AV → Heap → Prop) : Prop :=
  ∀ (F : Fr) (β : Nat → Nat) (w : World) (a : Act) (D : List Deferred), F.V = V → n0 ≤ h.length → St F β w h → RelL (ctx F β w h) T a.tmps.toList → a.defers = D → c.wp P (Post n0 F β w h D K) a w
def aOV (P : Program) (V : Val) (n0 : Nat) (ops : Array Oper) (l : List Nat) (T : List AV) (h : Heap) (K : AExit → List AV → Heap → Prop) : Prop :=
  ∀ (F : Fr) (β : Nat → Nat) (w : World) (a : Act) (D : List Deferred), F.V = V → n0 ≤ h.length → St F β w h → RelL (ctx F β w h) T a.tmps.toList → a.defers = D → wpOps P ops (Post n0 F β w h D K) l a w
theorem aWV_of {c : Code} {K : AExit → List AV → Heap → Prop} (a : aW P n0 c T h K) : aWV P V n0 c T h K := fun F β w act D _ hn s r hd => a F β w act D hn s r hd
theorem aWV_mono {c : Code} {K K' : AExit → List AV → Heap → Prop} (a : aWV P V n0 c T h K) (hk : ∀ e T h, n0 ≤ h.length → K e T h → K' e T h) : aWV P V n0 c T h K' := by
  intro F β w act D hV hn s r hd
  refine wp_mono (a F β w act D hV hn s r hd) ?_
  rintro e a' w' ⟨x, β', T', h', q, g, he, hr, hd'⟩
  exact ⟨x, β', T', h', hk _ _ _ g.len q, g, he, hr, hd'⟩
def ThenV (P : Program) (V : Val) (n0 : Nat) (y : Code) (K : AExit → List AV → Heap → Prop) : AExit → List AV → Heap → Prop
  | .normal, T, h => aWV P V n0 y T h K
  | e, T, h => K e T h
theorem aWV_seq {x y : Code} {K : AExit → List AV → Heap → Prop} (a : aWV P V n0 x T h (ThenV P V n0 y K)) : aWV P V n0 (.seq x y) T h K := by
  intro F β w act D hV hn s r hd
  refine wp_seq (wp_mono (a F β w act D hV hn s r hd) ?_)
  rintro e a' w' ⟨x, β', T', h', q, g, he, hr, hd'⟩
  cases x with
  | normal =>
    cases he
    refine wp_mono (q F β' w' a' D hV g.len g.st hr hd') ?_
    rintro e2 a2 w2 ⟨x2, β2, T2, h2, q2, g2, he2, hr2, hd2⟩
    exact ⟨x2, β2, T2, h2, q2, g.trans g2, he2, hr2, hd2⟩
  | exit id => cases he; exact ⟨.exit id, β', T', h', q, g, rfl, hr, hd'⟩
  | ret => cases he; exact ⟨.ret, β', T', h', q, g, rfl, hr, hd'⟩
  | pan v => obtain ⟨v', rfl, rv⟩ := he; exact ⟨.pan v, β', T', h', q, g, ⟨v', rfl, rv⟩, hr, hd'⟩
theorem aWV_cond {c : Operand} {x y : Code} {b : Bool} {K : AExit → List AV → Heap → Prop} (hc : aEval T c = .bool b) (ht : b = true → aWV P V n0 x T h K) (hf : b = false → aWV P V n0 y T h K) : aWV P V n0 (.cond c x y) T h K := by
  intro F β w act D hV hn s r hd
  have rc := aEval_rel r c
  rw [hc] at rc
  simp only [Rel] at rc
  exact wp_cond_split rc (fun e => ht e F β w act D hV hn s r hd) (fun e => hf e F β w act D hV hn s r hd)
theorem aWV_region {id : Nat} {ops : Array Oper} {K : AExit → List AV → Heap → Prop} (a : aOV P V n0 ops (List.range ops.size) T h K) : aWV P V n0 (.region id ops false) T h K :=
  fun F β w act D hV hn s r hd => wp_region (a F β w act D hV hn s r hd)
theorem aWV_ret {K : AExit → List AV → Heap → Prop} (k : K .ret T h) : aWV P V n0 .ret T h K := aWV_of (aW_ret k)
theorem aWV_skip {K : AExit → List AV → Heap → Prop} (k : K .normal T h) : aWV P V n0 .skip T h K := aWV_of (aW_skip k)
/-- Other names. -/
theorem aOV_same {T' : List AV} {h' : Heap} {ops : Array Oper} {l : List Nat} {K : AExit → List AV → Heap → Prop}
    (hc : ∀ (F : Fr) (β : Nat → Nat) (w : World), F.V = V → ctx F β w h' = ctx F β w h) (hn : h'.length = h.length) (ho : ∀ β, Own β h' = Own β h)
    (hs : ∀ (F : Fr) (β : Nat → Nat) (w : World), F.V = V → St F β w h → St F β w h') (ht : ∀ (F : Fr) (β : Nat → Nat) (w : World) vs, F.V = V → RelL (ctx F β w h) T vs → RelL (ctx F β w h) T' vs)
    (a : aOV P V n0 ops l T' h' K) : aOV P V n0 ops l T h K := by
  intro F β w act D hV hn0 s r hd
  have := a F β w act D hV (by rw [hn]; exact hn0) (hs F β w hV s) (by rw [hc F β w hV]; exact ht F β w _ hV r) hd
  refine wpOps_mono ?_ this
  rintro e a' w' ⟨x, β', T', h2, q, g, he, hr, hd'⟩
  exact ⟨x, β', T', h2, q, ⟨g.st, by rw [← ho]; exact g.step, g.len, g.β⟩, he, hr, hd'⟩
theorem aOV_sb {s : Nat → List Int} (hs : ∀ i, linV V.ρ (s i) = V.ρ i) {ops : Array Oper} {l : List Nat} {K : AExit → List AV → Heap → Prop} (a : aOV P V n0 ops l (sbL s T) (sbH s h) K) : aOV P V n0 ops l T h K :=
  aOV_same (fun F β w _ => ctx_sb s F β w h) (sbH_length s h) (fun β => funext fun b => propext (own_sb s β h b)) (fun F β w e st => (St.sb (by rw [e]; exact hs)).2 st)
    (fun F β w vs e r => (RelL.sb (c := ctx F β w h) (by show ∀ i, linV F.V.ρ (s i) = F.V.ρ i; rw [e]; exact hs) T vs).2 r) a
theorem aOV_bs {s : Nat → List Int} (hs : ∀ i, linV V.ρ (s i) = V.ρ i) {ops : Array Oper} {l : List Nat} {K : AExit → List AV → Heap → Prop} (a : aOV P V n0 ops l T h K) : aOV P V n0 ops l (sbL s T) (sbH s h) K :=
  aOV_same (fun F β w _ => (ctx_sb s F β w h).symm) (sbH_length s h).symm (fun β => (funext fun b => propext (own_sb s β h b)).symm) (fun F β w e st => (St.sb (by rw [e]; exact hs)).1 st)
    (fun F β w vs e r => by rw [ctx_sb] at r ⊢; exact (RelL.sb (c := ctx F β w h) (by show ∀ i, linV F.V.ρ (s i) = F.V.ρ i; rw [e]; exact hs) T vs).1 r) a
/-- Less is known. -/
theorem aOV_weak {m : Nat → Nat} {T0 : List AV} {h0 : Heap} {ops : Array Oper} {l : List Nat} {K : AExit → List AV → Heap → Prop} (k : Weak n0 m T0 h0 T h) (a : aOV P V n0 ops l T0 h0 K) : aOV P V n0 ops l T h K := by
  intro F β w act D hV hn s r hd
  refine wpOps_mono ?_ (a F (fun id => β (m id)) w act D hV k.len (k.st s) (k.vals.rel k.via r) hd)
  rintro e a' w' ⟨x, β', T', h', hk, g, he, hr, hd'⟩
  exact ⟨x, β', T', h', hk, ⟨g.st, g.step.weaken fun b => k.own, g.len, fun id hid => (g.β id hid).trans (by rw [k.fix id hid])⟩, he, hr, hd'⟩
theorem aOV_forget {T0 : List AV} {ops : Array Oper} {l : List Nat} {K : AExit → List AV → Heap → Prop} (hv : LeU T0 T) (a : aOV P V n0 ops l T0 h K) : aOV P V n0 ops l T h K :=
  fun F β w act D hV hn s r hd => aOV_weak (Weak.forget hv hn) a F β w act D hV hn s r hd
theorem aOV_nil {ops : Array Oper} {K : AExit → List AV → Heap → Prop} (k : K .normal T h) : aOV P V n0 ops [] T h K :=
  fun F β w act D hV hn s r hd => ⟨.normal, β, T, h, k, Gets.refl s hn, rfl, r, hd⟩
/-- Operations, then others. -/
theorem aOV_append {ops : Array Oper} {l1 l2 : List Nat} {K : AExit → List AV → Heap → Prop} (a : aOV P V n0 ops l1 T h fun e T' h' => match e with | .normal => aOV P V n0 ops l2 T' h' K | e => K e T' h') : aOV P V n0 ops (l1 ++ l2) T h K := by
  intro F β w act D hV hn s r hd
  refine wpOps_append (Q1 := Post n0 F β w h D fun e T' h' => match e with | .normal => aOV P V n0 ops l2 T' h' K | e => K e T' h') ?_ ?_ (a F β w act D hV hn s r hd)
  · rintro a' w' ⟨x, β', T', h', q, g, he, hr, hd'⟩
    cases x with
    | normal =>
      refine wpOps_mono ?_ (q F β' w' a' D hV g.len g.st hr hd')
      rintro e2 a2 w2 ⟨x2, β2, T2, h2, q2, g2, he2, hr2, hd2⟩
      exact ⟨x2, β2, T2, h2, q2, g.trans g2, he2, hr2, hd2⟩
    | exit id => cases he
    | ret => cases he
    | pan v => obtain ⟨v', e, _⟩ := he; cases e
  · rintro e a' w' hne ⟨x, β', T', h', q, g, he, hr, hd'⟩
    cases x with
    | normal => exact absurd he hne
    | exit id => exact ⟨.exit id, β', T', h', q, g, he, hr, hd'⟩
    | ret => exact ⟨.ret, β', T', h', q, g, he, hr, hd'⟩
    | pan v => exact ⟨.pan v, β', T', h', q, g, he, hr, hd'⟩
theorem aOV_ops {ops : Array Oper} {K : AExit → List AV → Heap → Prop} {os : List Oper} {l : List Nat} (hl : l.map (fun i => ops[i]?) = os.map some) (ha : aOps P ops K os T h) : aOV P V n0 ops l T h K :=
  fun F β w act D hV hn s r hd => aOps_sound os l β w h T act hl ha (Gets.refl s hn) r hd
/-- The operations from i on, n of them. -/
def opsAt (ops : Array Oper) (i n : Nat) : List Oper := (ops.toList.drop i).take n
noncomputable def okOps (e : Option (TT × Heap)) (T : List AV) (h : Heap) : Bool := match e with
  | some o => bif eqAL (toL o.1) T then eqH o.2 h else false
  | none => false
/-- A run of some of a region's operations. -/
noncomputable def runOps (P : Program) (call : CallF) (ops : Array Oper) (i n : Nat) (T : List AV) (h : Heap) : Option (TT × Heap) :=
  rOps P call ((opsAt ops i n).map (slim1 (ops.toList.map (·.dst)))) (targs T 0 (troot T.length)) h
theorem map_range' {ops : Array Oper} {i n : Nat} (hb : i + n ≤ ops.size) : (List.range' i n).map (fun j => ops[j]?) = (opsAt ops i n).map some := by
  unfold opsAt
  apply List.ext_getElem?
  intro j
  rw [List.getElem?_map, List.getElem?_map, List.getElem?_take]
  by_cases hj : j < n
  · rw [List.getElem?_range' hj, if_pos hj, List.getElem?_drop, Array.getElem?_toList]
    simp only [Option.map_some]
    rw [show i + 1 * j = i + j by omega]
    have : i + j < ops.size := by omega
    simp [this]
  · rw [if_neg hj, List.getElem?_eq_none (by simp; omega)]
    rfl
theorem aOV_run {call : CallF} (hc : CallOk P call) {ops : Array Oper} {i n : Nat} {l2 : List Nat} {T1 : List AV} {h1 : Heap} {K : AExit → List AV → Heap → Prop} (hb : i + n ≤ ops.size) (hr : okOps (runOps P call ops i n T h) T1 h1 = true)
    (a : aOV P V n0 ops l2 T1 h1 K) : aOV P V n0 ops (List.range' i n ++ l2) T h K := by
  refine aOV_append (aOV_ops (map_range' hb) (sOps_aOps P ops _ _ T h ?_))
  obtain ⟨q1, q2⟩ := tstart_spec T.length T (Nat.le_refl _)
  rw [Nat.sub_self, List.replicate_zero, List.append_nil] at q2
  unfold okOps at hr
  split at hr <;> try (cases hr; done)
  rename_i o ho
  obtain ⟨t', h'⟩ := o
  have e1 : eqAL (toL t') T1 = true ∧ eqH h' h1 = true := by
    cases hx : eqAL (toL t') T1 with
    | true => rw [hx] at hr; exact ⟨rfl, hr⟩
    | false => rw [hx] at hr; cases hr
  have e2 := eqAL_eq e1.1
  have e3 := eqH_eq e1.2
  subst e3
  rw [← q2]
  refine rOps_sound hc q1 ho fun _ => ?_
  show aOV P V n0 ops l2 (toL t') h' K
  rw [e2]; exact a
theorem range_split (n k : Nat) (h : k ≤ n) : List.range n = List.range' 0 k ++ List.range' k (n - k) := by
  rw [List.range_eq_range', show List.range' 0 n = List.range' 0 (k + (n - k)) by congr 1; omega, ← List.range'_append]
  simp
theorem range_cut (i n k : Nat) (h : k ≤ n) : List.range' i n = List.range' i k ++ List.range' (i + k) (n - k) := by
  rw [show List.range' i n = List.range' i (k + (n - k)) by congr 1; omega, ← List.range'_append]
  simp
/-- A law that is true, at values of the names that the arguments give. -/
theorem lawV {f : FuncId} {fn : Func} {c : Code} {args : List AV} (V : Val) (hf : P.funcs[f]? = some fn) (hb : fn.body = some c) (hn : (fn.name == "runtime.NumGoroutine") = false)
    (a : aWV P V 0 c (args ++ List.replicate (fn.ntmps - args.length) (.tup [])) [] (Body P fn 0 fun r _ => r = .ret (.bool true))) (w : World) (vs : Array Value) (hg : GSt (fun _ => False) w)
    (hr : RelL (ctx ⟨fun _ => False, V⟩ (fun _ => 0) w []) args vs.toList) : Calls P f vs w fun e w' => e = .returned (.bool true) ∧ Go.RowKit.Below w.heap.size w w' := by
  have s : St ⟨fun _ => False, V⟩ (fun _ => 0) w [] := ⟨by simp, by simp, by simp, by simp, by simp, hg.mono (by rintro b ⟨id, blk, hb, _⟩; simp at hb)⟩
  refine calls_of_wp hf hb ?_
  have hl : args.length = vs.size := by have := hr.length; simpa using this
  have r0 : RelL (ctx ⟨fun _ => False, V⟩ (fun _ => 0) w []) (args ++ List.replicate (fn.ntmps - args.length) (.tup [])) (vs ++ Array.replicate (fn.ntmps - vs.size) undef).toList := by
    rw [Array.toList_append, Array.toList_replicate, ← hl]
    exact hr.append (RelL.replicate (show Rel _ (.tup []) undef from ⟨#[], rfl, rfl⟩) _)
  refine wp_mono (a _ _ w ⟨_, []⟩ [] rfl (Nat.le_refl _) s r0 rfl) ?_
  rintro e a' w' ⟨x, β', T', h', q, g, he, hr, hd'⟩
  have fin : (∃ R m r h0, aResults P fn.results.toList T' h' = some R ∧ Weak 0 m [r] h0 [R] h' ∧ (AEnd.ret r = .ret (.bool true))) → ∃ v, (results fn a'.tmps).run P w' = .ok v w' ∧ Ending.returned v = .returned (.bool true) ∧ Go.RowKit.Below w.heap.size w w' := by
    rintro ⟨R, m, r, h0, h1, k, hk⟩
    obtain ⟨u, hu, ru⟩ := run_aResults (P := P) (fn := fn) g.st hr h1
    cases hk
    have e : u = .bool true := k.vals.1.rel k.via ru
    subst e
    exact ⟨_, hu, rfl, g.step.below (by rintro b ⟨id, blk, hb, _⟩; simp at hb)⟩
  cases x with
  | normal => cases he; exact ⟨hd', fin q⟩
  | ret => cases he; exact ⟨hd', fin q⟩
  | exit i => exact q.elim
  | pan v =>
    obtain ⟨v', rfl, rv⟩ := he
    obtain ⟨m, r, h0, k, hk⟩ := q
    cases hk
end
end Go.AH
