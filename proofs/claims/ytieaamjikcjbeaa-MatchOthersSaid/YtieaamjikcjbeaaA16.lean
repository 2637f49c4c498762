/- The frame rule for calls. No condition. -/
import Derived.Test.YtieaamjikcjbeaaA15
namespace Go.AH
set_option linter.unusedSimpArgs false
set_option linter.unusedVariables false
open Go

/-- How the callee's ids are the caller's: those that were handed over, then new ones. -/
def mf (ms : List Nat) (n : Nat) (id : Nat) : Nat := if id < ms.length then ms.getD id 0 else n + (id - ms.length)

/-- The caller's blocks that were handed over, as the callee leaves them. -/
def upd (r : Blk → Blk) (h : Heap) : List Nat → Heap → Heap
  | i :: is, b :: bs => upd r (h.set i (b.map r)) is bs
  | _, _ => h

/-- The caller's heap behind the call. -/
def merge (ms : List Nat) (h h0' : Heap) : Heap := upd (renB (mf ms h.length)) h ms h0' ++ (h0'.drop ms.length).map (Option.map (renB (mf ms h.length)))

/-- An argument that is lent: the callee may read its cells, and not write. -/
def Lent (m : Nat → Nat) (h : Heap) (B : List Nat) (x0 x : AV) : Prop := match x0, x with
  | .isl cs len, .gsl id len' _ => id ∈ B ∧ len = len' ∧ ∃ cs' e wh, rowAt h id = some (cs', e, wh) ∧ renL m cs = cs'.take cs.length
  | .isl cs len, .sl id off len' _ => id ∈ B ∧ len = len' ∧ ∃ cs' e wh, rowAt h id = some (cs', e, wh) ∧ renL m cs = (cs'.drop off).take cs.length
  | .isl _ len, .nilsl => len = 0
  | .isl _ len, .esl => len = 0
  | .iptr cs, .ptr id off => id ∈ B ∧ ∃ cs' e wh, rowAt h id = some (cs', e, wh) ∧ renL m cs = (cs'.drop off).take cs.length
  | _, _ => False

def LentL (m : Nat → Nat) (h : Heap) (B : List Nat) : List AV → List AV → Prop
  | [], [] => True
  | x0 :: l0, x :: l => (LeV m x0 x ∨ Lent m h B x0 x) ∧ LentL m h B l0 l
  | _, _ => False

def renE (m : Nat → Nat) : AEnd → AEnd
  | .ret v => .ret (ren m v)
  | .pan v => .pan (ren m v)
def noIslE : AEnd → Bool
  | .ret v => noIsl v
  | .pan v => noIsl v
def noIslH (h : Heap) : Bool := h.all fun
  | some b => noIslB b
  | none => true

theorem upd_length (r : Blk → Blk) : ∀ (ms : List Nat) (bs : Heap) (h : Heap), (upd r h ms bs).length = h.length
  | [], _, _ => by simp [upd]
  | _ :: _, [], _ => by simp [upd]
  | i :: is, b :: bs, h => by rw [upd, upd_length r is bs]; simp

theorem upd_get (r : Blk → Blk) : ∀ (ms : List Nat) (bs : Heap) (h : Heap) (id : Nat), ms.Nodup → (∀ i ∈ ms, i < h.length) → ms.length ≤ bs.length →
    (id ∉ ms ∧ (upd r h ms bs)[id]? = h[id]?) ∨ (∃ (k : Nat) (b : Option Blk), ms[k]? = some id ∧ bs[k]? = some b ∧ (upd r h ms bs)[id]? = some (b.map r))
  | [], bs, h, id, _, _, _ => .inl ⟨by simp, by simp [upd]⟩
  | i :: is, [], h, id, _, _, hl => by simp at hl
  | i :: is, b :: bs, h, id, nd, lt, hl => by
    rw [upd]
    rw [List.nodup_cons] at nd
    rcases upd_get r is bs (h.set i (b.map r)) id nd.2 (fun j hj => by simpa using lt j (by simp [hj])) (by simpa using hl) with ⟨h1, h2⟩ | ⟨k, b', h1, h2, h3⟩
    · by_cases e : id = i
      · subst e
        refine .inr ⟨0, b, rfl, rfl, ?_⟩
        rw [h2, List.getElem?_set_self (lt id (by simp))]
      · refine .inl ⟨by simp [h1, e], ?_⟩
        rw [h2, List.getElem?_set_ne (by omega)]
    · exact .inr ⟨k + 1, b', by simpa using h1, by simpa using h2, h3⟩

section
variable {P : Program} {F : Nat → Prop} {β : Nat → Nat} {w : World} {h : Heap}

/-- THE FRAME: a contract over the callee's own blocks, at a caller that has more. -/
theorem ACalls.frame {f : FuncId} {args0 : List AV} {h0 : Heap} {K0 : AEnd → Heap → Prop} (c : ACalls P f args0 h0 K0) {args : List AV} {K : AEnd → Heap → Prop} (ms B : List Nat)
    (hms : ms.length = h0.length) (nd : ms.Nodup) (lt : ∀ i ∈ ms, i < h.length) (hB : ∀ i ∈ B, i ∉ ms)
    (hargs : LentL (mf ms h.length) h B args0 args)
    (hblk : ∀ (k i : Nat) (b0 : Blk), ms[k]? = some i → h0[k]? = some (some b0) → h[i]? = some (some (renB (mf ms h.length) b0)))
    (hK : ∀ r0 h0', ms.length ≤ h0'.length → K0 r0 h0' → (B = [] ∨ (noIslE r0 = true ∧ noIslH h0' = true)) ∧ K (renE (mf ms h.length) r0) (merge ms h h0')) : ACalls P f args h K := by
  refine ⟨c.1, fun F β w vs s r => ?_⟩
  let m := mf ms h.length
  let β0 : Nat → Nat := fun id => β (m id)
  let F0 : Nat → Prop := fun b => F b ∨ ∃ id blk, h[id]? = some (some blk) ∧ id ∉ ms ∧ id ∉ B ∧ β id = b
  have mlt : ∀ id, id < h0.length → m id ∈ ms := by
    intro id hid
    show mf ms h.length id ∈ ms
    unfold mf
    rw [if_pos (by omega), List.getD, List.getElem?_eq_getElem (by omega)]
    exact List.getElem_mem _
  have mget : ∀ id, id < h0.length → ms[id]? = some (m id) := by
    intro id hid
    show _ = some (mf ms h.length id)
    unfold mf
    rw [if_pos (by omega), List.getD, List.getElem?_eq_getElem (by omega)]
    rfl
  have blk0 : ∀ id b0, h0[id]? = some (some b0) → h[m id]? = some (some (renB m b0)) := fun id b0 hb => hblk id (m id) b0 (mget id (lt_of_some hb)) hb
  have inj0 : ∀ i j, i < h0.length → j < h0.length → m i = m j → i = j := by
    intro i j hi hj e
    have h1 := mget i hi
    have h2 := mget j hj
    rw [e] at h1
    rw [List.getElem?_eq_getElem (by omega)] at h1 h2
    exact (List.getElem_inj nd).1 (by simp at h1 h2; rw [h1, h2])
  have own0 : ∀ b, Own β0 h0 b → ∃ id blk, h[id]? = some (some blk) ∧ id ∈ ms ∧ β id = b := by
    rintro b ⟨id, blk, hb, e⟩
    exact ⟨m id, _, blk0 id blk hb, mlt id (lt_of_some hb), e⟩
  have N0 : ∀ b, (Own β0 h0 b ∨ F0 b) → (Own β h b ∨ F b) := by
    rintro b (q | q | ⟨id, blk, hb, _, _, e⟩)
    · obtain ⟨id, blk, hb, _, e⟩ := own0 b q; exact .inl ⟨id, blk, hb, e⟩
    · exact .inr q
    · exact .inl ⟨id, blk, hb, e⟩
  have via : Via m (ctx F0 β0 w h0) (ctx F β w h) := by
    refine ⟨rfl, fun _ _ => rfl, fun id hid => ?_, N0⟩
    show id < h0.length
    rcases Nat.lt_or_ge id h0.length with q | q
    · exact q
    · have : m id = h.length + (id - ms.length) := if_neg (by omega)
      have hid' : m id < h.length := hid
      omega
  have st0 : St F0 β0 w h0 := by
    refine ⟨fun id blk hb => ?_, fun i j bi bj hi hj e => ?_, fun b hF q => ?_, fun b hF => ?_, fun id hid => ?_⟩
    · obtain ⟨o, ho, hr⟩ := s.live (m id) _ (blk0 id blk hb)
      exact ⟨o, ho, BlkRel.via via hr⟩
    · exact inj0 i j (lt_of_some hi) (lt_of_some hj) (s.inj _ _ _ _ (blk0 i bi hi) (blk0 j bj hj) e)
    · obtain ⟨id, blk, hb, hm, e⟩ := own0 b q
      rcases hF with hF | ⟨id2, blk2, hb2, hm2, _, e2⟩
      · exact s.sep b hF ⟨id, blk, hb, e⟩
      · have := s.inj _ _ _ _ hb hb2 (e.trans e2.symm)
        subst this
        exact hm2 hm
    · rcases hF with hF | ⟨id2, blk2, hb2, hm2, _, e2⟩
      · exact s.flt b hF
      · rw [← e2]; exact s.lt id2 (lt_of_some hb2)
    · exact s.lt _ (lt _ (mlt id hid))
  -- what is lent is none of the callee's to write
  have lentN : ∀ id cs' e wh, rowAt h id = some (cs', e, wh) → id ∈ B → ¬ (Own β0 h0 (β id) ∨ F0 (β id)) := by
    intro id cs' e wh hrow hid
    obtain ⟨hb, _⟩ := s.rowOf hrow
    rintro (q | q | ⟨id2, blk2, hb2, hm2, hB2, e2⟩)
    · obtain ⟨id2, blk2, hb2, hm2, e2⟩ := own0 _ q
      have := s.inj _ _ _ _ hb2 hb e2
      subst this
      exact hB _ hid hm2
    · exact s.sep _ q ⟨id, _, hb, rfl⟩
    · have := s.inj _ _ _ _ hb2 hb e2
      subst this
      exact hB2 hid
  have lentR : ∀ (x0 x : AV) (v : Value), Lent m h B x0 x → Rel (ctx F β w h) x v → Rel (ctx F0 β0 w h0) x0 v := by
    intro x0 x v hl rx
    unfold Lent at hl
    split at hl
    · obtain ⟨hid, rfl, cs', e, wh, hrow, hcs⟩ := hl
      obtain ⟨hn, cap', et, rfl, hle, hsh⟩ := rx
      refine ⟨_, _, rfl, hle, .inr ⟨β _, 0, rfl, s.lt _ hn, lentN _ _ _ _ hrow hid, ?_⟩⟩
      refine Row.via via _ _ _ ?_
      rw [hcs]
      exact (s.row hrow).take _
    · obtain ⟨hid, rfl, cs', e, wh, hrow, hcs⟩ := hl
      obtain ⟨hn, o, cap', rfl, ho, hle, hc⟩ := rx
      refine ⟨_, _, rfl, hle, ?_⟩
      rcases ho with rfl | h0
      · right
        refine ⟨β _, o, rfl, s.lt _ hn, lentN _ _ _ _ hrow hid, ?_⟩
        refine Row.via via _ _ _ ?_
        rw [hcs]
        have q := (s.row hrow).drop o
        rw [Nat.zero_add] at q
        exact q.take _
      · left; omega
    · subst hl
      simp only [Rel] at rx
      exact ⟨none, 0, rx, Nat.le_refl _, .inl rfl⟩
    · subst hl
      obtain ⟨a, rfl⟩ := rx
      exact ⟨a, 0, rfl, Nat.le_refl _, .inl rfl⟩
    · obtain ⟨hid, cs', e, wh, hrow, hcs⟩ := hl
      obtain ⟨hn, rfl⟩ := rx
      refine ⟨_, _, rfl, s.lt _ hn, lentN _ _ _ _ hrow hid, ?_⟩
      refine Row.via via _ _ _ ?_
      rw [hcs]
      rename_i off
      have q := (s.row hrow).drop off
      rw [Nat.zero_add] at q
      exact q.take _
    · exact hl.elim
  have args : ∀ (l0 l : List AV) (us : List Value), LentL m h B l0 l → RelL (ctx F β w h) l us → RelL (ctx F0 β0 w h0) l0 us := by
    intro l0
    induction l0 with
    | nil => intro l us hl r; cases l with | nil => exact r | cons _ _ => exact hl.elim
    | cons x0 l0 ih =>
      intro l us hl r
      cases l with
      | nil => exact hl.elim
      | cons x l =>
        obtain ⟨y, ys, e, ry, rys⟩ := r
        exact ⟨y, ys, e, hl.1.elim (fun q => q.rel via ry) (fun q => lentR _ _ _ q ry), ih l ys hl.2 rys⟩
  refine (c.2 F0 β0 w vs st0 (args _ _ _ hargs r)).mono ?_
  rintro e w' ⟨β1, h1, r0, hk0, g, he⟩
  have hl1 : ms.length ≤ h1.length := by rw [hms]; exact g.len
  obtain ⟨hBs, hk⟩ := hK r0 h1 hl1 hk0
  -- the caller's reading of ids
  let β' : Nat → Nat := fun id => if id < h.length then β id else β1 (id - h.length + ms.length)
  have ml : (merge ms h h1).length = h.length + (h1.length - ms.length) := by simp [merge, upd_length]
  have mget1 : ∀ id, id < h1.length → β' (m id) = β1 id := by
    intro id hid
    by_cases q : id < h0.length
    · have h2 := lt _ (mlt id q)
      show (if m id < h.length then β (m id) else _) = _
      rw [if_pos h2, g.β id q]
    · have hm : m id = h.length + (id - ms.length) := if_neg (by omega)
      show (if m id < h.length then β (m id) else β1 (m id - h.length + ms.length)) = _
      rw [hm, if_neg (by omega)]
      congr 1
      omega
  -- what stands at an id of the caller's
  have mlook : ∀ id blk, (merge ms h h1)[id]? = some (some blk) → (∃ k b1, h1[k]? = some (some b1) ∧ m k = id ∧ blk = renB m b1) ∨ (id ∉ ms ∧ h[id]? = some (some blk)) := by
    intro id blk hb
    unfold merge at hb
    rw [List.getElem?_append] at hb
    split at hb
    · rename_i hlt
      rw [upd_length] at hlt
      rcases upd_get (renB m) ms h1 h id nd lt hl1 with ⟨q1, q2⟩ | ⟨k, b, q1, q2, q3⟩
      · right
        exact ⟨q1, by rw [← q2]; exact hb⟩
      · left
        have hb' : some (b.map (renB m)) = some (some blk) := by rw [← q3]; exact hb
        simp only [Option.some.injEq, Option.map_eq_some_iff] at hb'
        obtain ⟨b1, rfl, e1⟩ := hb'
        refine ⟨k, b1, q2, ?_, e1.symm⟩
        have hk := lt_of_some q1
        have := mget k (by omega)
        rw [q1] at this
        simpa using this.symm
    · rename_i hge
      rw [upd_length] at hge hb
      left
      rw [List.getElem?_map, List.getElem?_drop] at hb
      rw [Option.map_eq_some_iff] at hb
      obtain ⟨ob, hob, e1⟩ := hb
      rw [Option.map_eq_some_iff] at e1
      obtain ⟨b1, rfl, e2⟩ := e1
      refine ⟨ms.length + (id - h.length), b1, hob, ?_, e2.symm⟩
      have : m (ms.length + (id - h.length)) = h.length + (ms.length + (id - h.length) - ms.length) := if_neg (by omega)
      omega
  have own1 : ∀ b, Own β' (merge ms h h1) b → Own β1 h1 b ∨ ∃ id blk, id ∉ ms ∧ h[id]? = some (some blk) ∧ β id = b := by
    rintro b ⟨id, blk, hb, e⟩
    rcases mlook id blk hb with ⟨k, b1, q1, q2, _⟩ | ⟨q1, q2⟩
    · left
      refine ⟨k, b1, q1, ?_⟩
      rw [← mget1 k (lt_of_some q1), q2, e]
    · right
      refine ⟨id, blk, q1, q2, ?_⟩
      have : β' id = β id := if_pos (lt_of_some q2)
      rw [← this, e]
  have own0' : ∀ b, Own β0 h0 b → Own β h b := fun b q => by obtain ⟨id, blk, hb, _, e⟩ := own0 b q; exact ⟨id, blk, hb, e⟩
  have step : Step (Own β h) w w' (Own β' (merge ms h h1)) := by
    refine ⟨g.step.os, g.step.tape, g.step.output, g.step.size, fun b hb hO => g.step.keep b hb fun q => hO (own0' b q), g.step.shape, fun b q => ?_⟩
    rcases own1 b q with q | ⟨id, blk, _, hb, e⟩
    · exact (g.step.own b q).imp (own0' b) id
    · exact .inl ⟨id, blk, hb, e⟩
  have len : h.length ≤ (merge ms h h1).length := by omega
  have hβ : ∀ id, id < h.length → β' id = β id := fun id hid => if_pos hid
  have le := s.leOf (β' := β') (h' := merge ms h h1) step len hβ
  -- what the callee knows, the caller knows
  have outB : B = [] → Out m (ctx F0 β1 w' h1) (ctx F β' w' (merge ms h h1)) := by
    intro hB0
    refine ⟨rfl, fun id hid => mget1 id hid, fun id hid => ?_, fun b q => ?_⟩
    · show m id < (merge ms h h1).length
      by_cases q : id < h0.length
      · have := lt _ (mlt id q); omega
      · have hm : m id = h.length + (id - ms.length) := if_neg (by omega)
        have hid' : id < h1.length := hid
        omega
    · rcases q with q | q
      · rcases own1 b q with q | ⟨id, blk, hnm, hb, e⟩
        · exact .inl q
        · exact .inr (.inr ⟨id, blk, hb, hnm, by rw [hB0]; simp, e⟩)
      · exact .inr (.inl q)
  -- with nothing that leans on cells which stay, the blocks that may be written don't matter
  let c1' : Ctx := ⟨w', β1, h1.length, fun b => Own β' (merge ms h h1) b ∨ F b⟩
  have outF : Out m c1' (ctx F β' w' (merge ms h h1)) := by
    refine ⟨rfl, fun id hid => mget1 id hid, fun id hid => ?_, fun b q => q⟩
    show m id < (merge ms h h1).length
    by_cases q : id < h0.length
    · have := lt _ (mlt id q); omega
    · have hm : m id = h.length + (id - ms.length) := if_neg (by omega)
      have hid' : id < h1.length := hid
      omega
  have blkUp : ∀ (k : Nat) (b1 : Blk) (o : Obj), h1[k]? = some (some b1) → BlkRel (ctx F0 β1 w' h1) b1 o → BlkRel (ctx F β' w' (merge ms h h1)) (renB m b1) o := by
    intro k b1 o hb hr
    rcases hBs with q | ⟨_, q⟩
    · exact BlkRel.out (outB q) hr
    · have hn : noIslB b1 = true := by
        have := List.all_eq_true.1 q (some b1) (List.mem_of_getElem? hb)
        exact this
      exact BlkRel.out outF (BlkRel.noIsl (c := ctx F0 β1 w' h1) (c' := c1') rfl rfl rfl hn hr)
  have st : St F β' w' (merge ms h h1) := by
    refine ⟨fun id blk hb => ?_, fun i j bi bj hi hj e => ?_, fun b hF q => ?_, fun b hF => Nat.lt_of_lt_of_le (s.flt b hF) g.step.size, fun id hid => ?_⟩
    · rcases mlook id blk hb with ⟨k, b1, q1, q2, rfl⟩ | ⟨q1, q2⟩
      · obtain ⟨o, ho, hr⟩ := g.st.live k b1 q1
        refine ⟨o, ?_, blkUp k b1 o q1 hr⟩
        rw [← q2, mget1 k (lt_of_some q1)]
        exact ho
      · obtain ⟨o, ho, hr⟩ := s.live id blk q2
        refine ⟨o, ?_, BlkRel.le le hr⟩
        rw [hβ id (lt_of_some q2), g.step.keep _ (s.lt id (lt_of_some q2))]
        · exact ho
        · intro q
          obtain ⟨id2, blk2, hb2, hm2, e2⟩ := own0 _ q
          have := s.inj _ _ _ _ hb2 q2 e2
          subst this
          exact q1 hm2
    · have newOld : ∀ (k : Nat) (b1 : Blk) (i2 : Nat) (bl : Blk), h1[k]? = some (some b1) → i2 ∉ ms → h[i2]? = some (some bl) → β' (m k) = β' i2 → False := by
        intro k b1 i2 bl hk hn hb e
        rw [mget1 k (lt_of_some hk), hβ i2 (lt_of_some hb)] at e
        rcases g.step.own (β i2) ⟨k, b1, hk, e⟩ with q | q
        · obtain ⟨id2, blk2, hb2, hm2, e2⟩ := own0 _ q
          have := s.inj _ _ _ _ hb2 hb e2
          subst this
          exact hn hm2
        · have := s.lt i2 (lt_of_some hb); omega
      rcases mlook i bi hi with ⟨k, b1, q1, q2, _⟩ | ⟨q1, q2⟩ <;> rcases mlook j bj hj with ⟨k', b1', p1, p2, _⟩ | ⟨p1, p2⟩
      · subst q2 p2
        rw [mget1 k (lt_of_some q1), mget1 k' (lt_of_some p1)] at e
        rw [g.st.inj _ _ _ _ q1 p1 e]
      · subst q2; exact (newOld k b1 j bj q1 p1 p2 e).elim
      · subst p2; exact (newOld k' b1' i bi p1 q1 q2 e.symm).elim
      · rw [hβ i (lt_of_some q2), hβ j (lt_of_some p2)] at e
        exact s.inj _ _ _ _ q2 p2 e
    · rcases own1 b q with q | ⟨id, blk, _, hb, e⟩
      · exact g.st.sep b (.inl hF) q
      · exact s.sep b hF ⟨id, blk, hb, e⟩
    · show (if id < h.length then β id else β1 (id - h.length + ms.length)) < _
      split
      · rename_i q; exact Nat.lt_of_lt_of_le (s.lt id q) g.step.size
      · exact g.st.lt _ (by omega)
  refine ⟨β', merge ms h h1, _, hk, ⟨st, step, len, hβ⟩, ?_⟩
  have relUp : ∀ x v, (∀ q : B ≠ [], noIsl x = true) → Rel (ctx F0 β1 w' h1) x v → Rel (ctx F β' w' (merge ms h h1)) (ren m x) v := by
    intro x v hx hr
    by_cases q : B = []
    · exact Rel.out (outB q) _ _ hr
    · exact Rel.out outF _ _ (Rel.noIsl (c := ctx F0 β1 w' h1) (c' := c1') rfl rfl rfl (hx q) hr)
  cases r0 with
  | ret v => obtain ⟨v', rfl, rv⟩ := he; exact ⟨v', rfl, relUp v v' (fun q => (hBs.resolve_left q).1) rv⟩
  | pan v => obtain ⟨v', rfl, rv⟩ := he; exact ⟨v', rfl, relUp v v' (fun q => (hBs.resolve_left q).1) rv⟩

end
end Go.AH
