/- The evaluator is sound: second part. No condition. -/
import Derived.Test.YtieaamjikcjbeaaA9
namespace Go.AH
set_option linter.unusedSimpArgs false
set_option linter.unusedVariables false
open Go
section
variable {P : Program} {F : Nat → Prop} {β : Nat → Nat} {w : World} {h : Heap}

/-- append, concretely: it grows. -/
theorem run_append_grows (t t' ty e : TypeId) (d' : TypeDesc) (i : TypeInfo) (z : Value) (ht : P.underlying t = some (.slice e)) (ht' : P.underlying t' = some d') (hd : isSeq d' = true) (hi : P.info? e = some i) (hz : i.zero = some z)
    (base : Option Addr) (sLen sCap n : Nat) (x : Value) (olds news : Array Value) (hn : (Builtin.lenOf x).run P w = .ok n w)
    (ho : (Builtin.firstCells i.size sLen (.slice base sLen sCap)).run P w.drew = .ok olds w.drew) (hx : (Builtin.firstCells i.size n x).run P w.drew = .ok news w.drew)
    (hg : sCap < sLen + n) (h63 : sLen + n ≤ 9223372036854775807) (hfit : (sLen + n) * i.bytes ≤ 140737488355328) :
    (Builtin.append_ #[t, t'] ty #[.slice base sLen sCap, x]).run P w =
      .ok (.slice (some ⟨w.heap.size, 0, none⟩) (sLen + n) (grownCap w (sLen + n) sCap e)) (w.drew.alloc (.cells (olds ++ news ++ Builtin.zeroCells z.cells (grownCap w (sLen + n) sCap e - (sLen + n))) e)) := by
  have h1 : ¬ (sLen + n ≤ sCap) := by omega
  have h2 : ¬ (9223372036854775807 < ((sLen : Int) + (n : Int))) := by omega
  have h3 := growslice_fits hg hfit
  have h4 : ¬ (281474976710656 < Builtin.nextslicecap (sLen + n) sCap * i.bytes) := by omega
  cases d' <;> simp [isSeq] at hd
  all_goals
    simp [Builtin.append_, run_underlying ht, run_underlying ht', sizeOf, typeInfo, zeroValue, hi, hz, Question.forced, newRow, grownCap]
    simp only [hn, Result.andThen_ok]
    simp [h1, h2, h4, ho, hx]

/-- append, concretely: there is room. -/
theorem run_append_fits (t t' ty e : TypeId) (d' : TypeDesc) (i : TypeInfo) (ht : P.underlying t = some (.slice e)) (ht' : P.underlying t' = some d') (hd : isSeq d' = true) (hi : P.info? e = some i)
    (b : Addr) (sLen sCap n : Nat) (x : Value) (news : Array Value) (hn : (Builtin.lenOf x).run P w = .ok n w) (hx : (Builtin.firstCells i.size n x).run P w = .ok news w)
    (hg : sLen + n ≤ sCap) {w' : World} (hst : (storeCells (b.add (sLen * i.size)) news.toList).run P w = .ok () w') :
    (Builtin.append_ #[t, t'] ty #[.slice (some b) sLen sCap, x]).run P w = .ok (.slice (some b) (sLen + n) sCap) w' := by
  cases d' <;> simp [isSeq] at hd
  all_goals
    simp [Builtin.append_, run_underlying ht, run_underlying ht', sizeOf, typeInfo, hi]
    simp only [hn, Result.andThen_ok]
    simp [hg, hx, hst]

theorem run_append_none (t t' ty e : TypeId) (d' : TypeDesc) (i : TypeInfo) (ht : P.underlying t = some (.slice e)) (ht' : P.underlying t' = some d') (hd : isSeq d' = true) (hi : P.info? e = some i)
    (base : Option Addr) (x : Value) (news : Array Value) (hn : (Builtin.lenOf x).run P w = .ok 0 w) (hx : (Builtin.firstCells i.size 0 x).run P w = .ok news w) (h0 : news.toList = []) :
    (Builtin.append_ #[t, t'] ty #[.slice base 0 0, x]).run P w = .ok (.slice base 0 0) w := by
  cases d' <;> simp [isSeq] at hd
  all_goals
    simp [Builtin.append_, run_underlying ht, run_underlying ht', sizeOf, typeInfo, hi]
    simp only [hn, Result.andThen_ok]
    cases base <;> simp [hx, h0, storeCells]

/-- A draw, then a block: what append, and a text's bytes, leave. -/
theorem St.made (s : St F β w h) (o : Obj) (blk : Blk) (hr : BlkRel (ctx F β w.drew h) blk o) :
    Goes F β w h (fun id => if id = h.length then w.heap.size else β id) (w.drew.alloc o) (h ++ [some blk]) :=
  (s.drew w.drew rfl rfl rfl rfl).trans ((s.drew w.drew rfl rfl rfl rfl).st.alloc o blk hr)

theorem size_grown {olds news : Array Value} {zc : Array Value} {len m sz cap : Nat} (h1 : olds.size = len * sz) (h2 : news.size = m * sz) (h3 : zc.size = sz) (hc : len + m ≤ cap) :
    (olds ++ news ++ Builtin.zeroCells zc (cap - (len + m))).size = cap * sz := by
  simp only [Array.size_append, size_zeroCells, h1, h2, h3, ← Nat.add_mul]
  congr 1
  omega

theorem run_aAppend (s : St F β w h) {t t' ty : TypeId} {x y v : AV} {u q : Value} {h' : Heap} (ha : aAppend P h t t' x y = some (v, h')) (rx : Rel (ctx F β w h) x u) (ry : Rel (ctx F β w h) y q) :
    VOk F β w h ((Builtin.append_ #[t, t'] ty #[u, q]).run P w) v h' := by
  unfold aAppend at ha
  split at ha <;> try (cases ha; done)
  rename_i e hu
  split at ha <;> try (cases ha; done)
  rename_i d' sz by_ z m hu' hsz hby hz hm
  split at ha <;> try (cases ha; done)
  rename_i new hnew
  split at ha <;> try (cases ha; done)
  rename_i hc
  obtain ⟨hd, hpos, hzl, hso⟩ := hc
  obtain ⟨i, zv, hi, hzv, rz⟩ := zeroCells_rel (c := ctx F β w h) hz
  have hsz' : i.size = sz := by unfold tsz at hsz; simpa [hi] using hsz
  have hby' : i.bytes = by_ := by unfold tbytes at hby; simpa [hi] using hby
  have hzs : zv.cells.size = sz := by have := rz.length; simpa [hzl] using this.symm
  have hlen := run_lenOfA (P := P) hm ry w
  have hml : ∀ l, lenOfA y = some l → m ≤ l := fun l hl => by rw [hm] at hl; simp at hl; omega
  obtain ⟨news, hfc, rnew, hnl⟩ := run_readSl (P := P) s hnew hso hml ry
  -- the same reading behind a draw
  let g0 := s.drew w.drew rfl rfl rfl rfl
  have le0 := g0.le s
  obtain ⟨news2, hfc2, rnew2, hnl2⟩ := run_readSl (P := P) g0.st hnew hso hml (Rel.le le0 _ _ ry)
  have hns2 : news2.size = m * sz := by have := rnew2.length; simpa [hnl2] using this.symm
  have grow0 : ∀ (base : Option Addr), m ≠ 0 → m ≤ 9223372036854775807 ∧ m * by_ ≤ 140737488355328 → VOk F β w h ((Builtin.append_ #[t, t'] ty #[.slice base 0 0, q]).run P w) (.gsl h.length m sz) (h ++ [some (.row new e false)]) := by
    intro base h0 hb
    have ho : (Builtin.firstCells i.size 0 (.slice base 0 0)).run P w.drew = .ok #[] w.drew := by
      cases base <;> simp [Builtin.firstCells, loadCells, loadCellsFrom]
    have hr := run_append_grows (P := P) t t' ty e d' i zv hu hu' hd hi hzv base 0 0 m q #[] news2 hlen ho (by rw [hsz']; exact hfc2) (by omega) (by omega) (by rw [hby', Nat.zero_add]; exact hb.2)
    have hcap := grownCap_ge w (0 + m) 0 e
    refine ⟨_, _, _, hr, s.made _ (.row new e false) ?_, ?_⟩
    · refine ⟨_, (0, 0), rfl, ⟨news2.toList, (Builtin.zeroCells zv.cells (grownCap w (0 + m) 0 e - (0 + m))).toList, by simp [Array.toList_append], rnew2, by simp⟩, by simp⟩
    · refine ⟨by simp, grownCap w (0 + m) 0 e, e, by simp, by simpa using hcap, ?_⟩
      simp only [if_pos, World.shape?, show (w.drew.alloc _).heap[w.heap.size]? = some _ from heap_alloc_new w.drew _]
      rw [size_grown (len := 0) (m := m) (sz := sz) (by simp) hns2 hzs hcap]
  split at ha
  · -- nil
    simp only [Rel] at rx
    subst rx
    split at ha
    · rename_i h0
      simp only [Option.some.injEq, Prod.mk.injEq] at ha
      obtain ⟨rfl, rfl⟩ := ha
      subst h0
      have hnil : news.toList = [] := List.eq_nil_of_length_eq_zero (by have := rnew.length; rw [← this, hnl]; simp)
      exact VOk.same s ⟨_, run_append_none (P := P) t t' ty e d' i hu hu' hd hi none q news hlen (by rw [hsz']; exact hfc) hnil, rfl⟩
    · rename_i h0
      split at ha <;> simp only [Option.some.injEq, Prod.mk.injEq, reduceCtorEq] at ha
      obtain ⟨rfl, rfl⟩ := ha
      exact grow0 none h0 ‹_›
  · -- no room
    obtain ⟨a, rfl⟩ := rx
    split at ha
    · rename_i h0
      simp only [Option.some.injEq, Prod.mk.injEq] at ha
      obtain ⟨rfl, rfl⟩ := ha
      subst h0
      have hnil : news.toList = [] := List.eq_nil_of_length_eq_zero (by have := rnew.length; rw [← this, hnl]; simp)
      exact VOk.same s ⟨_, run_append_none (P := P) t t' ty e d' i hu hu' hd hi a q news hlen (by rw [hsz']; exact hfc) hnil, a, rfl⟩
    · rename_i h0
      split at ha <;> simp only [Option.some.injEq, Prod.mk.injEq, reduceCtorEq] at ha
      obtain ⟨rfl, rfl⟩ := ha
      exact grow0 a h0 ‹_›
  · -- a slice that may have room
    rename_i id len esz
    split at ha <;> try (cases ha; done)
    rename_i cs e' wh hrow
    split at ha <;> simp only [Option.some.injEq, Prod.mk.injEq, reduceCtorEq] at ha
    rename_i hcc
    obtain ⟨rfl, rfl⟩ := ha
    obtain ⟨rfl, rfl, hle, h1c, h63, hfit⟩ := hcc
    obtain ⟨hid, cap', et, rfl, hlc, hsh⟩ := rx
    obtain ⟨hb, _, vs, fz, ho, ⟨ys, zs, e1, e2, e3⟩, e4, e5⟩ := s.rowOf hrow
    have hshape : vs.size = cap' * esz ∧ et = e' := by
      simp only [World.shape?, ho] at hsh
      simp at hsh
      exact ⟨hsh.2, hsh.1.symm⟩
    by_cases hroom : len + m ≤ cap'
    · have hfitv : len * esz + news.size ≤ vs.size := by
        have hns : news.size = m * esz := by have := rnew.length; simpa [hnl] using this.symm
        rw [hns, hshape.1, ← Nat.add_mul]
        exact Nat.mul_le_mul_right _ hroom
      have hst := run_storeCells_unf (P := P) (β id) (len * esz) e' fz news.toList 0 vs w ho e4 (by simpa using hfitv) (oneC_all h1c rnew)
      have hr := run_append_fits (P := P) t t' ty e' d' i hu hu' hd hi ⟨β id, 0, none⟩ len cap' m q news hlen (by rw [hsz']; exact hfc) hroom (by rw [hsz', Addr.add_lit, Nat.zero_add]; exact hst)
      simp only [Nat.add_zero] at hr
      -- the write, then the new name
      have hyl := e2.length
      have gput : Goes F β w h β (w.setRow (β id) (setMany vs.toList (len * esz) news.toList).toArray) (h.set id (some (.row (cs.take (len * esz) ++ new) e' false))) := by
        refine s.put id (.row cs e' wh) _ hb _ (.cells (setMany vs.toList (len * esz) news.toList).toArray e' fz) rfl rfl rfl (by simp [World.setRow]) (setRow_heap w _ vs _ e' fz ho) (fun b hb => setRow_other w _ b _ hb) ?_ ?_
        · simp [World.shape?, setRow_heap w _ vs _ e' fz ho, ho, setMany_length]
        · refine ⟨_, fz, rfl, ⟨ys.take (len * esz) ++ news.toList, vs.toList.drop (len * esz + news.toList.length), ?_, (e2.take _).append rnew, by simp⟩, by simpa [setMany_length] using e4⟩
          show setMany vs.toList (len * esz) news.toList = _
          rw [setMany_eq _ _ _ (by simpa using hfitv), e1, List.take_append_of_le_length (by omega)]
      have hlk : (h.set id (some (Blk.row (cs.take (len * esz) ++ new) e' false)))[id]? = some (some (.row (cs.take (len * esz) ++ new) e' false)) := by
        rw [List.getElem?_set_self hid]
      have gren := gput.st.rename id _ hlk
      have g := gput.trans gren
      simp only [List.length_set, List.set_set] at g
      refine ⟨_, _, _, hr, g, ?_⟩
      refine ⟨by simp, cap', e', by simp, hroom, ?_⟩
      simp only [if_pos]
      simp [World.shape?, setRow_heap w _ vs _ e' fz ho, setMany_length, hshape.1]
    · have hcut : cut cs 0 (len * esz) = some (cs.take (len * esz)) := by unfold cut; rw [if_pos (by omega)]; simp
      obtain ⟨olds, hol, rold⟩ := run_loadCells_row (P := P) (g0.st.row hrow) hcut
      simp only [Nat.zero_add] at hol
      have hr := run_append_grows (P := P) t t' ty e' d' i zv hu hu' hd hi hzv (some ⟨β id, 0, none⟩) len cap' m q olds news2 hlen (by rw [hsz']; simpa [Builtin.firstCells] using hol) (by rw [hsz']; exact hfc2) (by omega) h63 (by rw [hby']; exact hfit)
      have hcap := grownCap_ge w (len + m) cap' e'
      have hos : olds.size = len * esz := by have := rold.length; simp at this; omega
      have gm := s.made (.cells (olds ++ news2 ++ Builtin.zeroCells zv.cells (grownCap w (len + m) cap' e' - (len + m))) e') (.row (cs.take (len * esz) ++ new) e' false)
        ⟨_, (0, 0), rfl, ⟨olds.toList ++ news2.toList, (Builtin.zeroCells zv.cells (grownCap w (len + m) cap' e' - (len + m))).toList, by simp [Array.toList_append], rold.append rnew2, by simp⟩, by simp⟩
      have g := gm.trans (gm.st.kill id)
      rw [List.set_append_left _ _ hid] at g
      refine ⟨_, _, _, hr, g, ?_⟩
      refine ⟨by simp, grownCap w (len + m) cap' e', e', by simp, hcap, ?_⟩
      simp only [if_pos, World.shape?, show (w.drew.alloc _).heap[w.heap.size]? = some _ from heap_alloc_new w.drew _]
      rw [size_grown (len := len) (m := m) (sz := esz) hos hns2 hzs hcap]
  · -- a slice whose room is known
    rename_i id off len cap
    split at ha <;> try (cases ha; done)
    rename_i cs e' wh hrow
    obtain ⟨hid, o, cap', rfl, hoff, hlc, hcx⟩ := rx
    obtain rfl := hcx cap rfl
    split at ha
    · rename_i hroom
      split at ha <;> simp only [Option.some.injEq, Prod.mk.injEq, reduceCtorEq] at ha
      rename_i hcc
      obtain ⟨rfl, rfl⟩ := ha
      have ho : o = off ∨ m = 0 := by rcases hoff with q | q; exact .inl q; exact .inr (by omega)
      by_cases hm0 : m = 0
      · subst hm0
        have hnil : new = [] := List.eq_nil_of_length_eq_zero (by rw [hnl]; simp)
        subst hnil
        have hnil2 : news.toList = [] := rnew
        have hr := run_append_fits (P := P) t t' ty e d' i hu hu' hd hi ⟨β id, o, none⟩ len cap' 0 q news hlen (by rw [hsz']; exact hfc) hroom (w' := w) (by rw [hnil2]; rfl)
        obtain ⟨hb, _⟩ := s.rowOf hrow
        have : h.set id (some (.row (setMany cs (off + len * sz) []) e' wh)) = h := by
          rw [setMany]
          refine List.ext_getElem? fun j => ?_
          rw [List.getElem?_set]
          split
          · rename_i hj; subst hj; rw [hb]
          · rfl
        rw [this]
        exact VOk.same s ⟨_, hr, hid, o, cap', rfl, hoff, by omega, fun x hx => by simpa using hx⟩
      · have ho' : o = off := by rcases ho with q | q; exact q; exact absurd q hm0
        subst ho'
        have hle : o + len * sz + new.length ≤ cs.length := by rw [hnl]; have := hcc.1; rw [Nat.add_mul] at this; omega
        obtain ⟨w', hst, g⟩ := s.write (P := P) hrow hle rnew hcc.2
        have hr := run_append_fits (P := P) t t' ty e d' i hu hu' hd hi ⟨β id, o, none⟩ len cap' m q news hlen (by rw [hsz']; exact hfc) hroom (w' := w') (by rw [hsz', Addr.add_lit]; exact hst)
        exact ⟨_, _, _, hr, g, by simpa using hid, o, cap', rfl, .inl rfl, hroom, fun x hx => by simpa using hx⟩
    · rename_i hroom
      split at ha <;> try (cases ha; done)
      rename_i hcc
      split at ha <;> simp only [Option.some.injEq, Prod.mk.injEq, reduceCtorEq] at ha
      rename_i old hold
      obtain ⟨rfl, rfl⟩ := ha
      have hol : ∃ olds, (Builtin.firstCells sz len (.slice (some ⟨β id, o, none⟩) len cap')).run P w.drew = .ok olds w.drew ∧ RelL (ctx F β w.drew h) old olds.toList := by
        by_cases h0 : len = 0
        · subst h0
          obtain ⟨hl, _, _⟩ := cut_len hold
          have : old = [] := List.eq_nil_of_length_eq_zero (by omega)
          subst this
          exact ⟨#[], by simp [Builtin.firstCells, loadCells, loadCellsFrom], rfl⟩
        · have ho' : o = off := by rcases hoff with q | q <;> omega
          subst ho'
          obtain ⟨olds, h1, h2⟩ := run_loadCells_row (P := P) (g0.st.row hrow) hold
          simp only [Nat.zero_add] at h1
          exact ⟨olds, by simpa [Builtin.firstCells] using h1, h2⟩
      obtain ⟨olds, hol, rold⟩ := hol
      have hos : olds.size = len * sz := by have := rold.length; have := (cut_len hold).1; simp at *; omega
      have hr := run_append_grows (P := P) t t' ty e d' i zv hu hu' hd hi hzv (some ⟨β id, o, none⟩) len cap' m q olds news2 hlen (by rw [hsz']; exact hol) (by rw [hsz']; exact hfc2) (by omega) hcc.1 (by rw [hby']; exact hcc.2)
      have hcap := grownCap_ge w (len + m) cap' e
      refine ⟨_, _, _, hr, s.made _ (.row (old ++ new) e false) ⟨_, (0, 0), rfl, ⟨olds.toList ++ news2.toList, (Builtin.zeroCells zv.cells (grownCap w (len + m) cap' e - (len + m))).toList, by simp [Array.toList_append], rold.append rnew2, by simp⟩, by simp⟩, ?_⟩
      refine ⟨by simp, grownCap w (len + m) cap' e, e, by simp, hcap, ?_⟩
      simp only [if_pos, World.shape?, show (w.drew.alloc _).heap[w.heap.size]? = some _ from heap_alloc_new w.drew _]
      rw [size_grown (len := len) (m := m) (sz := sz) hos hns2 hzs hcap]
  · cases ha

end
end Go.AH
