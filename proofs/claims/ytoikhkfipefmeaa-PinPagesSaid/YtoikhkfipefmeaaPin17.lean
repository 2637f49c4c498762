/- Contracts of the package's functions, by the walk over abstract values. No condition. -/
import Derived.Test.YtoikhkfipefmeaaPin16
import Derived.Test.YtoikhkfipefmeaaA29
namespace Go.Proofs
open Go Go.AH TryTy
set_option linter.unusedSimpArgs false
set_option linter.unusedVariables false
set_option maxRecDepth 10000

def dE : Enc Dd := ⟨dcell, 4, fun _ => rfl, fun _ _ => rfl, fun _ => rfl⟩
def dOk (d : Dd) : Prop := -9223372036854775808 ≤ d.page ∧ d.page ≤ 9223372036854775807 ∧ d.host.length ≤ 140737488351232
theorem pSet_len (room : Int) (l : List Pn) (hl : (l.length : Int) ≤ room) (k : Int) (host : List UInt8) (s : Int) (hr : 1 ≤ room) : ((pSet room l k host s).length : Int) ≤ room := by
  unfold pSet
  split
  · exact hl
  · split
    · rename_i h
      simp only [List.length_append, List.length_drop, List.length_singleton]
      omega
    · simp only [List.length_append, List.length_singleton]
      omega
theorem pDoes_len (room : Int) (l : List Pn) (hl : (l.length : Int) ≤ room) (d : Dd) (hr : 1 ≤ room) : ((pDoes room l d).length : Int) ≤ room := by
  unfold pDoes
  split
  · exact pSet_len room l hl _ _ _ hr
  · split
    · exact hl
    · split
      · exact hl
      · have := List.length_filter_le (fun p : Pn => !decide (p.page = arnd d.page 5)) l
        unfold offPage
        omega

/-! ### the board at the front of a caller's heap -/
theorem ren_bS (m : Nat → Nat) (hm : m 1 = 1) (g : Bool) (n : Nat) : ren m (bS g n) = bS g n := by cases g <;> simp [bS, ren, hm]
theorem renO_bR (m : Nat → Nat) (g : Bool) (l : List Pn) {junk : List AV} (hj : NoId junk) : (bR g l junk).map (renB m) = bR g l junk := by
  cases g
  · rfl
  · simp only [bR, if_true, Option.map_some, keepRow m l hj]
theorem bh_len (room : Int) (g : Bool) (l : List Pn) (junk : List AV) : (BH room g l junk).length = 2 := rfl
theorem frameBH_blk {m : Nat → Nat} (h0 : m 0 = 0) (h1 : m 1 = 1) (room : Int) (g : Bool) (l : List Pn) {junk : List AV} (hj : NoId junk) (rest : Heap) :
    ∀ (k i : Nat) (b0 : Blk), [0, 1][k]? = some i → (BH room g l junk)[k]? = some (some b0) → (some (.row [.int .i64 room, bS g l.length] 62 true) :: bR g l junk :: rest)[i]? = some (some (renB m b0)) := by
  rintro (_ | _ | k) i b0 e1 e2
  · simp [BH] at e1 e2; subst e1 e2; simp [renB, renL, ren, ren_bS m h1]
  · simp [BH] at e1 e2; subst e1
    have := renO_bR m g l hj
    rw [e2] at this
    simp only [Option.map_some] at this
    simp [e2, ← this]
  · simp at e1
theorem merge_BH (room : Int) (g : Bool) (l : List Pn) {junk : List AV} (hj : NoId junk) (x y : Option Blk) (rest : Heap) :
    merge [0, 1] (x :: y :: rest) (BH room g l junk) = some (.row [.int .i64 room, bS g l.length] 62 true) :: bR g l junk :: rest := by
  have e := renO_bR (mf [0, 1] (rest.length + 1 + 1)) g l hj
  have e2 := ren_bS (mf [0, 1] (rest.length + 1 + 1)) rfl g l.length
  simp only [merge, upd, BH, List.length_cons, List.length_nil, Option.map_some, renB, renL, ren, e2, e, List.set_cons_zero, List.set_cons_succ, List.drop_succ_cons, List.drop_nil, List.map_nil, List.append_nil, List.drop_zero]
/-- The board behind a Set, in a caller's heap. -/
def SHr (room : Int) (l : List Pn) (rest : Heap) : Heap := some (.row [.int .i64 room, .gsl (rest.length + 2) l.length 3] 62 true) :: none :: (rest ++ [some (.row (pcells l) 65 false)])
theorem merge_SH (room : Int) (l : List Pn) (x y : Option Blk) (rest : Heap) :
    merge [0, 1] (x :: y :: rest) (SH room l) = SHr room l rest := by
  have e3 : mf [0, 1] (rest.length + 1 + 1) 2 = rest.length + 2 := rfl
  simp only [merge, upd, SH, SHr, List.length_cons, List.length_nil, Option.map_some, Option.map_none, renB, renL, ren, e3, renL_pcells, List.set_cons_zero, List.set_cons_succ, List.drop_succ_cons, List.drop_nil, List.map_nil, List.append_nil, List.drop_zero, List.map_cons, List.cons_append]

section
variable {P : Program} {f : FuncId} {args0 args : List AV} {room : Int} {g : Bool} {l L : List Pn} {junk : List AV} {rest : Heap} {r0 : AV} {K : AEnd → Heap → Prop}
/-- A call that writes the board at the front. -/
theorem frameB (c : ACalls P f args0 (BH room g l junk) (fun r h => r = .ret r0 ∧ BHs room L h)) (hj : NoId junk)
    (hargs : LentL (mf [0, 1] (rest.length + 1 + 1)) (some (.row [.int .i64 room, bS g l.length] 62 true) :: bR g l junk :: rest) [] args0 args) (hr0 : ∀ m, ren m r0 = r0)
    (k1 : ∀ g' junk', (g' = false → L = []) → NoId junk' → K (.ret r0) (some (.row [.int .i64 room, bS g' L.length] 62 true) :: bR g' L junk' :: rest))
    (k2 : K (.ret r0) (SHr room L rest)) : ACalls P f args (some (.row [.int .i64 room, bS g l.length] 62 true) :: bR g l junk :: rest) K := by
  refine c.frame [0, 1] [] rfl (by decide) (by simp) (by simp) hargs (frameBH_blk rfl rfl room g l hj rest) ?_
  rintro _ _ _ ⟨rfl, ⟨g', junk', hg', hj', rfl⟩ | rfl⟩
  · refine ⟨.inl rfl, ?_⟩
    rw [merge_BH _ _ _ hj', renE, hr0]
    exact k1 g' junk' hg' hj'
  · refine ⟨.inl rfl, ?_⟩
    rw [merge_SH, renE, hr0]
    exact k2
/-- A call that only reads it. -/
theorem frameR (c : ACalls P f args0 (BH room g l junk) (fun r h => r = .ret r0 ∧ h = BH room g l junk)) (hj : NoId junk)
    (hargs : LentL (mf [0, 1] (rest.length + 1 + 1)) (some (.row [.int .i64 room, bS g l.length] 62 true) :: bR g l junk :: rest) [] args0 args) (hr0 : ∀ m, ren m r0 = r0)
    (k1 : K (.ret r0) (some (.row [.int .i64 room, bS g l.length] 62 true) :: bR g l junk :: rest)) : ACalls P f args (some (.row [.int .i64 room, bS g l.length] 62 true) :: bR g l junk :: rest) K := by
  refine c.frame [0, 1] [] rfl (by decide) (by simp) (by simp) hargs (frameBH_blk rfl rfl room g l hj rest) ?_
  rintro _ _ _ ⟨rfl, rfl⟩
  refine ⟨.inl rfl, ?_⟩
  rw [merge_BH _ _ _ hj, renE, hr0]
  exact k1
end
theorem does_b (room : Int) (hr : 1 ≤ room) (hr2 : room ≤ 64) (g : Bool) (l : List Pn) (junk : List AV) (hg : g = false → l = []) (hj : NoId junk) (hl : (l.length : Int) ≤ room) (d : Dd) (hd : dOk d) :
    ACalls Try.prog 20 [.ptr 0 0, bV room l, .agg (dcell d)] (BH room g l junk) (fun r h => r = .ret (.tup [bV room (pDoes room l d), .bool true]) ∧ BHs room (pDoes room l d) h) :=
  does_c room hr hr2 g l junk hg hj hl d hd.1 hd.2.1 (by have := hd.2.2; omega)
theorem ren_bV (m : Nat → Nat) (room : Int) (l : List Pn) : ren m (bV room l) = bV room l := by simp only [bV, ren, renL, pE.ren]

/-- The board behind a call at the front, read as a board again: what else is kept stands behind it. -/
theorem weakB {n0 : Nat} {room : Int} {g : Bool} {l : List Pn} {junk : List AV} (hj : NoId junk) (hn : n0 = 0) (ms : List Nat) {T0 T : List AV} {rest rest0 : Heap}
    (hv : LeL (pf (0 :: 1 :: ms) (rest.length + 1 + 1)) T0 T) (hk : Keeps (pf (0 :: 1 :: ms) (rest.length + 1 + 1)) (some (.row [.int .i64 room, bS g l.length] 62 true) :: bR g l junk :: rest) ms rest0) (nd : (0 :: 1 :: ms).Nodup) :
    Weak n0 (pf (0 :: 1 :: ms) (rest.length + 1 + 1)) T0 (some (.row [.int .i64 room, bS g l.length] 62 true) :: bR g l junk :: rest0) T (some (.row [.int .i64 room, bS g l.length] 62 true) :: bR g l junk :: rest) := by
  subst hn
  refine Weak.lit (h0 := some (.row [.int .i64 room, bS g l.length] 62 true) :: bR g l junk :: rest0) (h := some (.row [.int .i64 room, bS g l.length] 62 true) :: bR g l junk :: rest) (0 :: 1 :: ms) hv ?_ nd (by simp)
  simp only [List.length_cons]
  refine ⟨?_, ?_⟩
  · simp [renB, renL, ren, ren_bS (pf (0 :: 1 :: ms) (rest.length + 1 + 1)) rfl]
  · have e := renO_bR (pf (0 :: 1 :: ms) (rest.length + 1 + 1)) g l hj
    cases hb : bR g l junk with
    | none => rw [hb] at hk; exact ⟨by simp, hk⟩
    | some b =>
      rw [hb] at e hk
      simp only [Option.map_some, Option.some.injEq] at e
      exact ⟨by rw [e]; rfl, hk⟩
theorem weakS {n0 : Nat} {room : Int} {l : List Pn} {rest : Heap} (hn : n0 = 0) (ms : List Nat) {T0 T : List AV} {rest0 back : Heap}
    (hv : LeL (pf (0 :: (rest.length + 2) :: ms) (SHr room l rest ++ back).length) T0 T) (hk : Keeps (pf (0 :: (rest.length + 2) :: ms) (SHr room l rest ++ back).length) (SHr room l rest ++ back) ms rest0) (nd : (0 :: (rest.length + 2) :: ms).Nodup) :
    Weak n0 (pf (0 :: (rest.length + 2) :: ms) (SHr room l rest ++ back).length) T0 (some (.row [.int .i64 room, bS true l.length] 62 true) :: bR true l [] :: rest0) T (SHr room l rest ++ back) := by
  subst hn
  refine Weak.lit (0 :: (rest.length + 2) :: ms) hv ⟨?_, ?_, hk⟩ nd (by simp)
  · simp only [SHr, List.cons_append, List.getElem?_cons_zero, renB, renL, ren, bS, if_true]
    rfl
  · simp only [bR, if_true, SHr, List.cons_append, List.getElem?_cons_succ, renB, renL_app, renL_pcells, renL, List.append_nil, List.append_assoc]
    rw [List.getElem?_append_right (Nat.le_refl _), Nat.sub_self]
    rfl
end Go.Proofs
