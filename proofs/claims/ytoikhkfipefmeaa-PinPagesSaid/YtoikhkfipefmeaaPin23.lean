/- Contracts of the package's functions, by the walk over abstract values. No condition. -/
import Derived.Test.YtoikhkfipefmeaaPin19
namespace Go.Proofs
open Go Go.AH TryTy
set_option linter.unusedSimpArgs false
set_option linter.unusedVariables false
set_option maxRecDepth 10000

/-! ### the plain law -/
theorem lower_lower (h : List UInt8) : lower (lower h) = lower h := by
  unfold lower
  rw [List.map_map]
  congr 1
  funext c
  show lowc (lowc c) = lowc c
  unfold lowc
  by_cases h : 65 ≤ c.toNat ∧ c.toNat ≤ 90
  · have h2 : ¬ (65 ≤ (c + 32).toNat ∧ (c + 32).toNat ≤ 90) := by
      rw [UInt8.toNat_add]
      simp
      omega
    rw [if_pos h, if_neg h2]
  · rw [if_neg h, if_neg h]
theorem keyIs_iff' {k : Int} {hs : List UInt8} {x : Pn} : keyIs k hs x = true ↔ x.page = k ∧ x.host = hs := by simp [keyIs]
def GoodL (l : List Pn) : Prop := (∀ x ∈ l, lower x.host = x.host ∧ x.host.length ≤ 6) ∧ l.Pairwise (fun x y => ¬ (x.page = y.page ∧ x.host = y.host))
theorem goodL_nil : GoodL [] := ⟨by simp, List.Pairwise.nil⟩
theorem GoodL.set {l : List Pn} (h : GoodL l) {i : Nat} (hl : l.length ≤ i) (hi : i < 20) (k : Int) (host : List UInt8) (s : Int) : GoodL (pSet 64 l k (host.take 6) s) ∧ (pSet 64 l k (host.take 6) s).length ≤ i + 1 := by
  have hne : ¬ ((l.length : Int) = 64) := by omega
  unfold pSet
  rw [if_neg hne]
  split
  · exact ⟨h, by omega⟩
  · rename_i hn
    refine ⟨⟨fun x hx => ?_, ?_⟩, by simp; omega⟩
    · rw [List.mem_append, List.mem_singleton] at hx
      rcases hx with hx | rfl
      · exact h.1 x hx
      · exact ⟨lower_lower _, by rw [lower_length]; exact List.length_take_le ..⟩
    · rw [List.pairwise_append]
      refine ⟨h.2, List.pairwise_singleton _ _, fun x hx y hy => ?_⟩
      rw [List.mem_singleton] at hy
      subst hy
      intro e
      exact hn (List.any_eq_true.2 ⟨x, hx, keyIs_iff'.2 e⟩)
def cur (p : Int) (L : List Pn) (j : Nat) : List Pn := offPage p L ++ ((ofPage p L).take j).map fun x => ⟨p, x.host, 9⟩
theorem of_off_len (p : Int) : ∀ (L : List Pn), (offPage p L).length + (ofPage p L).length = L.length
  | [] => rfl
  | x :: L => by
    have := of_off_len p L
    unfold offPage ofPage at this ⊢
    simp only [List.filter_cons, List.length_cons]
    by_cases e : x.page = p
    · simp [e]; omega
    · simp [e]; omega
theorem of_off (p : Int) (L : List Pn) : ofPage p (offPage p L) = [] := by
  unfold ofPage offPage
  rw [List.filter_filter]
  simp
theorem off_off (p : Int) (L : List Pn) : offPage p (offPage p L) = offPage p L := by
  unfold offPage
  rw [List.filter_filter]
  simp
theorem cur_len (p : Int) (L : List Pn) (j : Nat) (hj : j ≤ (ofPage p L).length) : (cur p L j).length = (offPage p L).length + j := by
  simp [cur]; omega
theorem cur_none (p : Int) (L : List Pn) (h : GoodL L) (j : Nat) (hj : j < (ofPage p L).length) : (cur p L j).any (keyIs p (ofPage p L)[j].host) = false := by
  rw [List.any_eq_false]
  intro y hy
  rw [keyIs_iff']
  rintro ⟨e1, e2⟩
  unfold cur at hy
  rw [List.mem_append, List.mem_map] at hy
  rcases hy with hy | ⟨x, hx, rfl⟩
  · have := (List.mem_filter.1 hy).2
    simp [e1] at this
  · have hp : (ofPage p L).Pairwise (fun x y => ¬ (x.page = y.page ∧ x.host = y.host)) := h.2.filter _
    rw [List.mem_take_iff_getElem] at hx
    obtain ⟨i, hi, rfl⟩ := hx
    have hij : i < j := by omega
    have := (List.pairwise_iff_getElem.1 hp) i j (by omega) hj hij
    have hpg : ∀ (k : Nat) (hk : k < (ofPage p L).length), (ofPage p L)[k].page = p := by
      intro k hk
      have := (List.mem_filter.1 (List.getElem_mem hk)).2
      simpa using this
    exact this ⟨by rw [hpg, hpg], e2⟩
theorem good_of {p : Int} {L : List Pn} (h : GoodL L) {j : Nat} (hj : j < (ofPage p L).length) : lower (ofPage p L)[j].host = (ofPage p L)[j].host ∧ (ofPage p L)[j].host.length ≤ 6 :=
  h.1 _ (List.mem_filter.1 (List.getElem_mem hj)).1
theorem cur_get (p : Int) (L : List Pn) (h : GoodL L) (j : Nat) (hj : j < (ofPage p L).length) : pGet (cur p L j) p (ofPage p L)[j].host = (0, false) := by
  rw [pGet, (good_of h hj).1, any_none (cur_none p L h j hj)]
theorem cur_snoc (p : Int) (L : List Pn) (j : Nat) (hj : j < (ofPage p L).length) : cur p L (j + 1) = cur p L j ++ [⟨p, (ofPage p L)[j].host, 9⟩] := by
  unfold cur
  rw [List.take_add_one, List.getElem?_eq_getElem hj, List.map_append, List.append_assoc]
  rfl
theorem cur_set (p : Int) (L : List Pn) (h : GoodL L) (hl : L.length ≤ 20) (j : Nat) (hj : j < (ofPage p L).length) : pSet 64 (cur p L j) p (ofPage p L)[j].host 9 = cur p L (j + 1) ∧ pFull 64 (cur p L j) p (ofPage p L)[j].host = false := by
  have h1 := of_off_len p L
  have h2 := cur_len p L j (by omega)
  have hne : ¬ (((cur p L j).length : Int) = 64) := by omega
  constructor
  · unfold pSet
    rw [(good_of h hj).1, cur_none p L h j hj, if_neg hne, cur_snoc p L j hj]
    rfl
  · unfold pFull
    simp [hne]
theorem cur_get1 (p : Int) (L : List Pn) (h : GoodL L) (j : Nat) (hj : j < (ofPage p L).length) : pGet (cur p L (j + 1)) p (ofPage p L)[j].host = (9, true) := by
  rw [pGet, (good_of h hj).1, cur_snoc p L j hj, List.findIdx?_append, any_none (cur_none p L h j hj)]
  simp [keyIs]

section
variable {P : Program} {f : FuncId} {args0 args : List AV} {room : Int} {g : Bool} {l L : List Pn} {junk : List AV} {rest : Heap} {r0 : AV} {K : AEnd → Heap → Prop}
/-- A call that leaves the board's shape. -/
theorem frameC (c : ACalls P f args0 (BH room g l junk) (fun r h => ∃ junk', NoId junk' ∧ r = .ret r0 ∧ h = BH room g L junk')) (hj : NoId junk)
    (hargs : LentL (mf [0, 1] (rest.length + 1 + 1)) (some (.row [.int .i64 room, bS g l.length] 62 true) :: bR g l junk :: rest) [] args0 args) (hr0 : ∀ m, ren m r0 = r0)
    (k1 : ∀ junk', NoId junk' → K (.ret r0) (some (.row [.int .i64 room, bS g L.length] 62 true) :: bR g L junk' :: rest)) : ACalls P f args (some (.row [.int .i64 room, bS g l.length] 62 true) :: bR g l junk :: rest) K := by
  refine c.frame [0, 1] [] rfl (by decide) (by simp) (by simp) hargs (frameBH_blk rfl rfl room g l hj rest) ?_
  rintro _ _ _ ⟨junk', hj', rfl, rfl⟩
  refine ⟨.inl rfl, ?_⟩
  rw [merge_BH _ _ _ hj', renE, hr0]
  exact k1 junk' hj'
end
theorem set_b (room : Int) (hr : 1 ≤ room) (hr2 : room ≤ 64) (g : Bool) (l : List Pn) (junk : List AV) (hg : g = false → l = []) (hj : NoId junk) (hl : (l.length : Int) ≤ room) (k : Int) (host : List UInt8) (hh : host.length ≤ 1000) (s : Int) :
    ACalls Try.prog 10 [.ptr 0 0, .int .i64 k, .str host, .int .i64 s] (BH room g l junk)
      (fun r h => r = .ret (.tup [.agg (kcell (pGone room l k host)), .bool (pFull room l k host)]) ∧ BHs room (pSet room l k host s) h) :=
  (set_c room hr hr2 g l junk hg hj hl k host hh s).mono fun r h ⟨h1, h2⟩ => ⟨h1, h2.imp (fun q => ⟨g, junk, by rw [q.2]; exact hg, hj, by rw [q.1, q.2]⟩) id⟩
end Go.Proofs
