/- More operations: texts with named bytes, maps, slices made, conversions. No condition. -/
import Derived.Test.YtbdhilbngaemcaaGreatDoorAA
import Derived.MapKept
import Derived.Laws.RangeString
import Derived.Laws.MakeOwn
import Derived.IntWalk
import Derived.Lib.UnsafeStr
import Derived.Lib.Builder
import Derived.Lib.AppendZeros
set_option linter.unusedVariables false
set_option linter.unusedSimpArgs false
namespace Go.AH
open Go
set_option linter.unusedVariables false
set_option linter.unusedSimpArgs false
section
variable {P : Program} {F : Fr} {β : Nat → Nat} {w : World} {h : Heap}

/-! ### blocks that are no rows of cells -/
/-- A block of the call's own gets a new content that is no row. -/
theorem St.setObj (s : St F β w h) {i : Nat} {old blk : Blk} (hi : h[i]? = some (some old)) {o o' : Obj} (ho : w.heap[β i]? = some o)
    (hs : ∀ u : World, u.heap[β i]? = some o → u.shape? (β i) = none) (hs' : ∀ u : World, u.heap[β i]? = some o' → u.shape? (β i) = none) (hr : BlkRel (ctx F β w h) blk o') (hset : β i < w.heap.size → (Go.setObj (β i) o').run P w = .ok () { w with heap := w.heap.setIfInBounds (β i) o' }) :
    (Go.setObj (β i) o').run P w = .ok () { w with heap := w.heap.setIfInBounds (β i) o' } ∧ Goes F β w h β { w with heap := w.heap.setIfInBounds (β i) o' } (h.set i (some blk)) := by
  have hlt : β i < w.heap.size := by
    rcases Nat.lt_or_ge (β i) w.heap.size with q | q
    · exact q
    · rw [Array.getElem?_eq_none q] at ho; cases ho
  have h1 : (w.heap.setIfInBounds (β i) o')[β i]? = some o' := by simp [hlt]
  have h2 : ∀ b, b ≠ β i → (w.heap.setIfInBounds (β i) o')[b]? = w.heap[b]? := fun b hb => by rw [Array.getElem?_setIfInBounds_ne (Ne.symm hb)]
  refine ⟨hset hlt, s.put i old blk hi _ o' rfl rfl rfl (by simp) h1 (fun b hb => h2 b hb) ?_ hr⟩
  rw [hs w ho]
  exact hs' { w with heap := w.heap.setIfInBounds (β i) o' } h1

theorem run_getObj_of {r pos : Nat} {sx : ByteArray} (hb : w.heap[r]? = some (.stringIter sx pos)) : (getObj r).run P w = .ok (.stringIter sx pos) w := by simp [getObj, Sem.run, hb]
theorem run_setObj_iter {r pos : Nat} {sx : ByteArray} (hb : w.heap[r]? = some (.stringIter sx pos)) (o' : Obj) (hlt : r < w.heap.size) : (Go.setObj r o').run P w = .ok () { w with heap := w.heap.setIfInBounds r o' } := by simp [Go.setObj, Sem.run, hb]

/-! ### iteration over texts -/
def aRange (P : Program) (h : Heap) (t : TypeId) (x : AV) : Option (AV × Heap) := match P.underlying t with
  | some .string => match x with
    | .str s => some (.ptr h.length 0, h ++ [some (.siter s 0)])
    | .sym l => some (.ptr h.length 0, h ++ [some (.yiter l 0)])
    | _ => none
  | _ => none

theorem run_aRange (s : St F β w h) {t : TypeId} {x v : AV} {h' : Heap} {u : Value} (hr : aRange P h t x = some (v, h')) (r : Rel (ctx F β w h) x u) :
    VOk F β w h ((Instr.range t u).run P w) v h' := by
  unfold aRange at hr
  split at hr <;> try (cases hr; done)
  rename_i hu
  split at hr <;> simp only [Option.some.injEq, Prod.mk.injEq, reduceCtorEq] at hr
  · obtain ⟨rfl, rfl⟩ := hr
    simp only [Rel] at r
    subst r
    exact ⟨_, _, _, run_range_string w t _ hu, s.alloc (.stringIter _ 0) (.siter _ 0) rfl, by simp, by simp⟩
  · obtain ⟨rfl, rfl⟩ := hr
    obtain ⟨sx, rfl, hx⟩ := r
    exact ⟨_, _, _, run_range_string w t _ hu, s.alloc (.stringIter ⟨sx.toArray⟩ 0) (.yiter _ 0) ⟨sx, rfl, hx⟩, by simp, by simp⟩

def aNext (h : Heap) (x : AV) : Option (AV × Heap) := match x with
  | .ptr id 0 => match h[id]? with
    | some (some (.siter s pos)) => match s[pos]? with
      | some b => if b.toNat < 128 then some (.tup [.bool true, .int .i64 (pos : Nat), .int .i32 b.toNat], h.set id (some (.siter s (pos + 1)))) else none
      | none => some (.tup [.bool false], h)
    | some (some (.yiter l pos)) => match l[pos]? with
      | some e => if hiV e < 128 then some (.tup [.bool true, .int .i64 (pos : Nat), mkLin .i32 e], h.set id (some (.yiter l (pos + 1)))) else none
      | none => some (.tup [.bool false], h)
    | _ => none
  | _ => none

theorem run_next_at {id pos : Nat} {sx : List UInt8} (hb : w.heap[id]? = some (.stringIter ⟨sx.toArray⟩ pos)) {b : UInt8} (hs : sx[pos]? = some b) (ha : b.toNat < 128) (ty : TypeId) {w' : World} (hset : (Go.setObj id (.stringIter ⟨sx.toArray⟩ (pos + 1))).run P w = .ok () w') :
    (Instr.next (.pointer (some ⟨id, 0, none⟩)) true ty).run P w = .ok (.tuple #[.bool true, .int .i64 pos, .int .i32 b.toNat]) w' := by
  have hlt : pos < (ByteArray.mk sx.toArray).size := by
    have := (List.getElem?_eq_some_iff.1 hs).1
    simpa [ByteArray.size] using this
  have hget : ((ByteArray.mk sx.toArray)[pos]'hlt) = b := by
    have := (List.getElem?_eq_some_iff.1 hs).2
    show sx.toArray[pos]'_ = b
    simpa using this
  have hd : Utf8.decode ⟨sx.toArray⟩ pos = (b.toNat, 1) := by
    rw [decode_ascii _ pos hlt (by rw [hget]; exact ha), hget]
  simp only [Instr.next, Sem.run_bind, run_getObj_of hb, Result.andThen_ok, hlt, if_true, hd, hset, Sem.run_pure, goInt]
theorem run_next_over {id pos : Nat} {sx : List UInt8} (hb : w.heap[id]? = some (.stringIter ⟨sx.toArray⟩ pos)) (hs : sx[pos]? = none) (ty : TypeId) :
    (Instr.next (.pointer (some ⟨id, 0, none⟩)) true ty).run P w = .ok (.tuple #[.bool false]) w := by
  have hlt : ¬ pos < (ByteArray.mk sx.toArray).size := by
    have := List.getElem?_eq_none_iff.1 hs
    simpa [ByteArray.size] using this
  simp only [Instr.next, Sem.run_bind, run_getObj_of hb, Result.andThen_ok, hlt, if_false, Sem.run_pure]

theorem run_aNext (s : St F β w h) {x v : AV} {h' : Heap} {u : Value} (hr : aNext h x = some (v, h')) (r : Rel (ctx F β w h) x u) (ty : TypeId) :
    VOk F β w h ((Instr.next u true ty).run P w) v h' := by
  unfold aNext at hr
  split at hr <;> try (cases hr; done)
  rename_i id
  obtain ⟨hid, rfl⟩ := r
  have over : ∀ (sx : List UInt8) (pos : Nat), w.heap[β id]? = some (.stringIter ⟨sx.toArray⟩ pos) → sx[pos]? = none → .tup [.bool false] = v → h = h' → VOk F β w h ((Instr.next (.pointer (some ⟨β id, 0, none⟩)) true ty).run P w) v h' := by
    rintro sx pos ho hs rfl rfl
    exact ⟨_, _, _, run_next_over ho hs ty, Goes.refl s, _, rfl, _, _, rfl, rfl, rfl⟩
  split at hr <;> try (cases hr; done)
  · rename_i sx pos hb
    obtain ⟨o, ho, rfl⟩ := s.live id _ hb
    split at hr
    · rename_i b hs
      split at hr <;> simp only [Option.some.injEq, Prod.mk.injEq, reduceCtorEq] at hr
      rename_i ha
      obtain ⟨rfl, rfl⟩ := hr
      obtain ⟨h1, h2⟩ := s.setObj (P := P) hb (blk := .siter sx (pos + 1)) ho (fun u hu => by simp [World.shape?, hu]) (o' := .stringIter ⟨sx.toArray⟩ (pos + 1)) (fun u hu => by simp [World.shape?, hu]) rfl (run_setObj_iter ho _)
      exact ⟨_, _, _, run_next_at ho hs ha ty h1, h2, _, rfl, _, _, rfl, rfl, _, _, rfl, rfl, _, _, rfl, rfl, rfl⟩
    · rename_i hs
      simp only [Option.some.injEq, Prod.mk.injEq] at hr
      exact over sx pos ho hs hr.1 hr.2
  · rename_i l pos hb
    obtain ⟨o, ho, sx, rfl, hx⟩ := s.live id _ hb
    have hlen : sx.length = l.length := by simpa using congrArg List.length hx
    split at hr
    · rename_i e hs
      split at hr <;> simp only [Option.some.injEq, Prod.mk.injEq, reduceCtorEq] at hr
      rename_i ha
      obtain ⟨rfl, rfl⟩ := hr
      have hlt : pos < sx.length := by rw [hlen]; exact (List.getElem?_eq_some_iff.1 hs).1
      have hsx : sx[pos]? = some sx[pos] := List.getElem?_eq_getElem hlt
      have hb2 : ((sx[pos].toNat : Nat) : Int) = linV F.V.ρ e := by
        have := congrArg (·[pos]?) hx
        simp only [List.getElem?_map, hsx, hs, Option.map_some, Option.some.injEq] at this
        exact this
      have hbd := (linV_bound F.V e).2
      obtain ⟨h1, h2⟩ := s.setObj (P := P) hb (blk := .yiter l (pos + 1)) ho (fun u hu => by simp [World.shape?, hu]) (o' := .stringIter ⟨sx.toArray⟩ (pos + 1)) (fun u hu => by simp [World.shape?, hu]) ⟨sx, rfl, hx⟩ (run_setObj_iter ho _)
      refine ⟨_, _, _, run_next_at ho hsx (by omega) ty h1, h2, _, rfl, _, _, rfl, rfl, _, _, rfl, rfl, _, _, rfl, ?_, rfl⟩
      rw [hb2]
      exact mkLin_rel (ctx F β { w with heap := w.heap.setIfInBounds (β id) (.stringIter ⟨sx.toArray⟩ (pos + 1)) } (h.set id (some (.yiter l (pos + 1))))) .i32 e
    · rename_i hs
      simp only [Option.some.injEq, Prod.mk.injEq] at hr
      exact over sx pos ho (by rw [List.getElem?_eq_none_iff] at hs ⊢; omega) hr.1 hr.2
end
end Go.AH
namespace Go.AH
open Go
set_option linter.unusedVariables false
set_option linter.unusedSimpArgs false
section
variable {P : Program} {F : Fr} {β : Nat → Nat} {w : World} {h : Heap} {c : Ctx}

/-! ### maps -/
def aZero (P : Program) (t : TypeId) : Option AV := ((P.info? t).bind (·.zero)).map ofConst
theorem run_aZero {t : TypeId} {z : AV} (hz : aZero P t = some z) (w : World) : ∃ v, (zeroValue t).run P w = .ok v w ∧ Rel c z v := by
  unfold aZero at hz
  rw [Option.map_eq_some_iff] at hz
  obtain ⟨v, hv, rfl⟩ := hz
  rw [Option.bind_eq_some_iff] at hv
  obtain ⟨i, hi, hv⟩ := hv
  exact ⟨v, by simp [zeroValue, typeInfo, hi, hv], rel_ofConst c v⟩

/-- The entry of a key: none of them; its place and value. -/
def aFind (P : Program) (kt : TypeId) (k : AV) : List (AV × AV × Nat) → Nat → Option (Option (Nat × AV))
  | [], _ => some none
  | (k', v, _) :: es, i => match aEq P 30 kt k k' with
    | some true => some (some (i, v))
    | some false => aFind P kt k es (i + 1)
    | none => none
def FRel (c : Ctx) : Option (Nat × AV) → Option (Nat × Value) → Prop
  | none, r => r = none
  | some (i, v), r => ∃ v', r = some (i, v') ∧ Rel c v v'

theorem run_findAsking {kt : TypeId} {k : AV} {u : Value} (rk : Rel c k u) : ∀ {es : List (AV × AV × Nat)} {l : List MapEntry} {i : Nat} {r : Option (Nat × AV)}, RelE c es l → aFind P kt k es i = some r →
    ∃ r', (Instr.findAsking kt u l i).run P w = .ok r' w ∧ FRel c r r'
  | [], _, i, r, hl, hr => by
    cases hl
    simp only [aFind, Option.some.injEq] at hr
    subst hr
    exact ⟨none, by simp [Instr.findAsking], rfl⟩
  | (k', v, b) :: es, _, i, r, ⟨e, l, rfl, h1, h2, h3, h4⟩, hr => by
    unfold aFind at hr
    split at hr <;> try (cases hr; done)
    · rename_i he
      simp only [Option.some.injEq] at hr
      subst hr
      have key : (Op.equal kt u e.key).run P w = .ok true w := run_aEq w 30 kt k k' true he u e.key rk h1 9970
      exact ⟨some (i, e.val), by simp [Instr.findAsking, key], _, rfl, h2⟩
    · rename_i he
      have key : (Op.equal kt u e.key).run P w = .ok false w := run_aEq w 30 kt k k' false he u e.key rk h1 9970
      obtain ⟨r', h5, h6⟩ := run_findAsking rk h4 hr
      exact ⟨r', by simp [Instr.findAsking, key, h5], h6⟩

theorem sameNow_equal {kt : TypeId} {d : TypeDesc} (hd : P.underlying kt = some d) {u v : Value} {b : Bool} (hs : Instr.sameNow d u v = some b) (w : World) : (Op.equal kt u v).run P w = .ok b w := by
  suffices g : ∀ n, (Op.equalIn (n + 1) kt u v).run P w = .ok b w from g 9999
  intro n
  cases d <;> cases u <;> cases v <;> simp only [Instr.sameNow, reduceCtorEq, Option.some.injEq] at hs
  · subst hs; simp [Op.equalIn, run_underlying hd]
  · split at hs <;> simp only [Option.some.injEq, reduceCtorEq] at hs
    rename_i hk
    subst hs
    simp [Op.equalIn, run_underlying hd, hk]
  · subst hs; simp [Op.equalIn, run_underlying hd]

theorem findNow_asking {kt : TypeId} {d : TypeDesc} (hd : P.underlying kt = some d) {u : Value} : ∀ {l : List MapEntry} {i : Nat} {r : Option (Nat × Value)}, Instr.findNow d u l i = some r → (Instr.findAsking kt u l i).run P w = .ok r w
  | [], i, r, h => by simp only [Instr.findNow, Option.some.injEq] at h; subst h; simp [Instr.findAsking]
  | e :: l, i, r, h => by
    unfold Instr.findNow at h
    split at h
    · rename_i hs
      simp only [Option.some.injEq] at h
      subst h
      simp [Instr.findAsking, sameNow_equal hd hs]
    · rename_i hs
      simp [Instr.findAsking, sameNow_equal hd hs, findNow_asking hd h]
    · cases h

theorem run_aFind {kt : TypeId} {d : TypeDesc} (hd : P.underlying kt = some d) {k : AV} {u : Value} (rk : Rel c k u) {es : List (AV × AV × Nat)} {l : List MapEntry} {r : Option (Nat × AV)} (hl : RelE c es l) (hr : aFind P kt k es 0 = some r) :
    ∃ r', (Instr.findKey kt u l).run P w = .ok r' w ∧ FRel c r r' := by
  obtain ⟨r', h1, h2⟩ := run_findAsking (P := P) (w := w) rk hl hr
  refine ⟨r', ?_, h2⟩
  unfold Instr.findKey
  simp only [Sem.run_bind, run_underlying hd, Result.andThen_ok]
  split
  · rename_i r0 h0
    have := findNow_asking (P := P) (w := w) hd h0
    rw [h1] at this
    simp only [Result.ok.injEq, and_true] at this
    rw [this]
    rfl
  · exact h1

/-- A key without interfaces. -/
def aKey (P : Program) : Nat → TypeId → AV → Bool
  | 0, _, _ => false
  | d + 1, t, x => match P.underlying t with
    | some (.struct fs) => match x with
      | .agg cs => fs.toList.all fun f => f.name == "_" || (match pick P f.type cs f.offset with | some y => aKey P d f.type y | none => false)
      | _ => false
    | some (.array len e) => match x, tsz P e with
      | .agg cs, some sz => (List.range len).all fun i => match pick P e cs (i * sz) with | some y => aKey P d e y | none => false
      | _, _ => false
    | some (.interface _) => false
    | some _ => true
    | none => false

theorem run_aKey (em : Bool) : ∀ (d n : Nat) (t : TypeId) (x : AV) (u : Value), aKey P d t x = true → Rel c x u → ∀ (w : World), (Instr.checkKey em (n + d) t u).run P w = .ok () w
  | 0, _, _, _, _, h, _, _ => by simp [aKey] at h
  | d + 1, n, t, x, u, h, r, w => by
    show (Instr.checkKey em ((n + d) + 1) t u).run P w = .ok () w
    unfold aKey at h
    split at h
    · rename_i fs hu
      split at h <;> try (cases h; done)
      rename_i cs
      obtain ⟨vs, rfl, rv⟩ := r
      rw [Instr.checkKey]
      simp only [Sem.run_bind, run_underlying hu, Result.andThen_ok]
      rw [List.all_eq_true] at h
      simp only [← Array.forIn_toList]
      generalize fs.toList = l at h
      induction l with
      | nil => simp
      | cons f l ih =>
        have hf := h f (by simp)
        simp only [List.forIn_cons, Sem.run_bind]
        by_cases hn : f.name = "_"
        · simp only [hn, ne_eq, not_true_eq_false, if_false, Sem.run_pure, Result.andThen_ok, Sem.run_bind]
          exact ih fun y hy => h y (by simp [hy])
        · have hb : (f.name == "_") = false := by simpa using hn
          rw [hb, Bool.false_or] at hf
          split at hf <;> try (cases hf; done)
          rename_i y hy
          obtain ⟨v', h1, h2⟩ := run_part_rel (P := P) rv hy w
          have h3 := run_aKey em d n f.type y v' hf h2 w
          simp only [ne_eq, hn, not_false_eq_true, if_true, Sem.run_bind, h1, h3, Result.andThen_ok, Sem.run_pure]
          exact ih fun y hy => h y (by simp [hy])
    · rename_i len e hu
      split at h <;> try (cases h; done)
      rename_i cs sz hsz
      obtain ⟨vs, rfl, rv⟩ := r
      rw [Instr.checkKey]
      simp only [Sem.run_bind, run_underlying hu, Result.andThen_ok]
      simp only [Std.Legacy.Range.forIn_eq_forIn_range', Std.Legacy.Range.size, Nat.sub_zero, Nat.add_one_sub_one, Nat.div_one]
      rw [List.range_eq_range', List.all_eq_true] at h
      generalize List.range' 0 len = l at h
      induction l with
      | nil => simp
      | cons i l ih =>
        have hf := h i (by simp)
        split at hf <;> try (cases hf; done)
        rename_i y hy
        obtain ⟨v', h1, h2⟩ := run_part_rel (P := P) rv hy w
        have h3 := run_aKey em d n e y v' hf h2 w
        simp only [List.forIn_cons, Sem.run_bind, run_sizeOf' hsz, h1, h3, Result.andThen_ok, Sem.run_pure]
        exact ih fun y hy => h y (by simp [hy])
    · cases h
    · rename_i hk1 hk2 hk3 hu
      rw [Instr.checkKey]
      simp only [Sem.run_bind, run_underlying hu, Result.andThen_ok]
      split
      · exact absurd rfl (hk3 _)
      · exact absurd rfl (hk2 _ _)
      · exact absurd rfl (hk1 _)
      · rfl
      · exact absurd rfl (hk3 _)
      · exact absurd rfl (hk2 _ _)
      · exact absurd rfl (hk1 _)
      · rfl
    · cases h
end
end Go.AH
namespace Go.AH
open Go
set_option linter.unusedVariables false
set_option linter.unusedSimpArgs false
section
variable {P : Program} {F : Fr} {β : Nat → Nat} {w : World} {h : Heap} {c : Ctx}

theorem EvOk.sameV (s : St F β w h) {m : Sem Value} {v : AV} (hm : ∃ v', m.run P w = .ok v' w ∧ Rel (ctx F β w h) v v') : VOk F β w h (m.run P w) v h := VOk.same s hm

/-- A map's entries. -/
def entsOf (h : Heap) : AV → Option (List (AV × AV × Nat))
  | .nilm => some []
  | .map id => match h[id]? with
    | some (some (.mp es _)) => some es
    | _ => none
  | _ => none
def lookRes (P : Program) (e : TypeId) (ok : Bool) : Option (Nat × AV) → Option AV
  | some (_, v) => some (if ok then .tup [v, .bool true] else v)
  | none => match aZero P e with
    | some z => some (if ok then .tup [z, .bool false] else z)
    | none => none
def aLookup (P : Program) (h : Heap) (t : TypeId) (x i : AV) (ok : Bool) : Option AV := match P.underlying t with
  | some (.map kt e) => if aKey P 10 kt i then match entsOf h x with
    | some es => match aFind P kt i es 0 with
      | some r => lookRes P e ok r
      | none => none
    | none => none else none
  | _ => none

theorem run_getObj_mp {r : Nat} {es : Array MapEntry} {clock : Nat} (hb : w.heap[r]? = some (.map es clock)) : (getObj r).run P w = .ok (.map es clock) w := by simp [getObj, Sem.run, hb]
theorem run_setObj_mp {r : Nat} {es : Array MapEntry} {clock : Nat} (hb : w.heap[r]? = some (.map es clock)) (o' : Obj) (hlt : r < w.heap.size) : (Go.setObj r o').run P w = .ok () { w with heap := w.heap.setIfInBounds r o' } := by simp [Go.setObj, Sem.run, hb]
theorem und_of_key {d : Nat} {t : TypeId} {x : AV} (h : aKey P d t x = true) : ∃ k, P.underlying t = some k := by
  cases d with
  | zero => simp [aKey] at h
  | succ d => unfold aKey at h; split at h <;> first | (cases h; done) | exact ⟨_, by assumption⟩

theorem run_aLookup (s : St F β w h) {t : TypeId} {x i v : AV} {ok : Bool} {u k : Value} (hl : aLookup P h t x i ok = some v) (rx : Rel (ctx F β w h) x u) (ri : Rel (ctx F β w h) i k) :
    ∃ v', (Instr.lookup t u k ok).run P w = .ok v' w ∧ Rel (ctx F β w h) v v' := by
  unfold aLookup at hl
  split at hl <;> try (cases hl; done)
  rename_i kt e hu
  split at hl <;> try (cases hl; done)
  rename_i hkey
  split at hl <;> try (cases hl; done)
  rename_i es hes
  split at hl <;> try (cases hl; done)
  rename_i r hr
  obtain ⟨kd, hkd⟩ := und_of_key hkey
  have main : ∀ (l : List MapEntry) (b : Bool), RelE (ctx F β w h) es l → (Instr.checkKey b 10000 kt k).run P w = .ok () w ∧
      ∃ r' y b0, (Instr.findKey kt k l).run P w = .ok r' w ∧ ((∃ j, r' = some (j, y) ∧ b0 = true) ∨ (r' = none ∧ (zeroValue e).run P w = .ok y w ∧ b0 = false)) ∧ Rel (ctx F β w h) v (if ok then Value.tuple #[y, .bool b0] else y) := by
    intro l b hrel
    obtain ⟨r', h1, h2⟩ := run_aFind (P := P) (w := w) hkd ri hrel hr
    refine ⟨run_aKey (P := P) b 10 9990 kt i k hkey ri w, ?_⟩
    cases r with
    | some jv =>
      obtain ⟨j, v0⟩ := jv
      obtain ⟨v', rfl, rv⟩ := h2
      simp only [lookRes, Option.some.injEq] at hl
      subst hl
      refine ⟨_, v', true, h1, .inl ⟨j, rfl, rfl⟩, ?_⟩
      cases ok
      · exact rv
      · exact ⟨_, rfl, _, _, rfl, rv, _, _, rfl, rfl, rfl⟩
    | none =>
      have h2' : r' = none := h2
      subst h2'
      simp only [lookRes] at hl
      split at hl <;> simp only [Option.some.injEq, reduceCtorEq] at hl
      rename_i z hz
      subst hl
      obtain ⟨v', h4, rv⟩ := run_aZero (P := P) (c := ctx F β w h) hz w
      refine ⟨_, v', false, h1, .inr ⟨rfl, h4, rfl⟩, ?_⟩
      cases ok
      · exact rv
      · exact ⟨_, rfl, _, _, rfl, rv, _, _, rfl, rfl, rfl⟩
  unfold entsOf at hes
  split at hes
  · simp only [Option.some.injEq] at hes
    subst hes
    simp only [Rel] at rx
    subst rx
    obtain ⟨h0, r', y, b0, h1, h2, h3⟩ := main [] true rfl
    refine ⟨_, ?_, h3⟩
    rcases h2 with ⟨j, rfl, rfl⟩ | ⟨rfl, h4, rfl⟩
    · simp [Instr.lookup, run_underlying hu, h0, h1]
    · simp [Instr.lookup, run_underlying hu, h0, h1, h4]
  · rename_i id
    split at hes <;> simp only [Option.some.injEq, reduceCtorEq] at hes
    rename_i clock hb
    subst hes
    obtain ⟨hid, rfl⟩ := rx
    obtain ⟨o, ho, la, rfl, hrel⟩ := s.live id _ hb
    obtain ⟨h0, r', y, b0, h1, h2, h3⟩ := main la.toList la.isEmpty hrel
    refine ⟨_, ?_, h3⟩
    rcases h2 with ⟨j, rfl, rfl⟩ | ⟨rfl, h4, rfl⟩
    · simp [Instr.lookup, run_underlying hu, run_getObj_mp ho, h0, h1]
    · simp [Instr.lookup, run_underlying hu, run_getObj_mp ho, h0, h1, h4]
  · cases hes

def aMakeMap (P : Program) (h : Heap) (t : TypeId) (r : Option AV) : Option (AV × Heap) := match r with
  | none => some (.map h.length, h ++ [some (.mp [] 0)])
  | some x => match P.underlying t, x with
    | some (.map _ _), .int _ _ => some (.map h.length, h ++ [some (.mp [] 0)])
    | _, _ => none
theorem run_aMakeMap (s : St F β w h) {t : TypeId} {r : Option AV} {v : AV} {h' : Heap} {u : Option Value} (hl : aMakeMap P h t r = some (v, h')) (rr : RelO (ctx F β w h) r u) : VOk F β w h ((Instr.makeMap t u).run P w) v h' := by
  unfold aMakeMap at hl
  cases r with
  | none =>
    cases rr
    simp only [Option.some.injEq, Prod.mk.injEq] at hl
    obtain ⟨rfl, rfl⟩ := hl
    exact ⟨.map (some w.heap.size), w.alloc (.map #[] 0), _, by simp [Instr.makeMap], s.alloc (.map #[] 0) (.mp [] 0) ⟨_, rfl, rfl⟩, by simp, by simp⟩
  | some x =>
    obtain ⟨y, rfl, ry⟩ := rr
    simp only at hl
    split at hl <;> simp only [Option.some.injEq, Prod.mk.injEq, reduceCtorEq] at hl
    rename_i hu
    obtain ⟨rfl, rfl⟩ := hl
    simp only [Rel] at ry
    subst ry
    exact ⟨.map (some w.heap.size), w.alloc (.map #[] 0), _, by simp [Instr.makeMap, run_underlying hu, asInt, asIntOf], s.alloc (.map #[] 0) (.mp [] 0) ⟨_, rfl, rfl⟩, by simp, by simp⟩

theorem RelE.snoc {k v : AV} {b : Nat} {e : MapEntry} (h1 : Rel c k e.key) (h2 : Rel c v e.val) (h3 : e.born = b) : ∀ {es : List (AV × AV × Nat)} {l : List MapEntry}, RelE c es l → RelE c (es ++ [(k, v, b)]) (l ++ [e])
  | [], _, r => by cases r; exact ⟨e, [], rfl, h1, h2, h3, rfl⟩
  | (_, _, _) :: _, _, ⟨e', r, e1, q1, q2, q3, q4⟩ => by cases e1; exact ⟨e', _, rfl, q1, q2, q3, RelE.snoc h1 h2 h3 q4⟩

def aMapUpdate (P : Program) (h : Heap) (t : TypeId) (m k v : AV) : Option Heap := match P.underlying t with
  | some (.map kt _) => match m with
    | .map id => match h[id]? with
      | some (some (.mp es clock)) => if aKey P 10 kt k then match aFind P kt k es 0 with
        | some none => some (h.set id (some (.mp (es ++ [(k, v, clock)]) (clock + 1))))
        | _ => none else none
      | _ => none
    | _ => none
  | _ => none
theorem run_aMapUpdate (s : St F β w h) {t : TypeId} {m k v : AV} {h' : Heap} {um uk uv : Value} (hl : aMapUpdate P h t m k v = some h') (rm : Rel (ctx F β w h) m um) (rk : Rel (ctx F β w h) k uk) (rv : Rel (ctx F β w h) v uv) :
    ∃ w', (Instr.mapUpdate t um uk uv).run P w = .ok () w' ∧ Goes F β w h β w' h' := by
  unfold aMapUpdate at hl
  split at hl <;> try (cases hl; done)
  rename_i kt e hu
  split at hl <;> try (cases hl; done)
  rename_i id
  split at hl <;> try (cases hl; done)
  rename_i es clock hb
  split at hl <;> try (cases hl; done)
  rename_i hkey
  split at hl <;> simp only [Option.some.injEq, reduceCtorEq] at hl
  rename_i hf
  subst hl
  obtain ⟨kd, hkd⟩ := und_of_key hkey
  obtain ⟨hid, rfl⟩ := rm
  obtain ⟨o, ho, la, rfl, hrel⟩ := s.live id _ hb
  obtain ⟨r', h1, h2⟩ := run_aFind (P := P) (w := w) hkd rk hrel hf
  have h2' : r' = none := h2
  subst h2'
  have h3 := run_aKey (P := P) false 10 9990 kt k uk hkey rk w
  obtain ⟨h4, h5⟩ := s.setObj (P := P) hb (blk := .mp (es ++ [(k, v, clock)]) (clock + 1)) ho (fun u hu => by simp [World.shape?, hu]) (o' := .map (la.push { key := uk, val := uv, born := clock }) (clock + 1)) (fun u hu => by simp [World.shape?, hu])
    ⟨_, rfl, by rw [Array.toList_push]; exact RelE.snoc (e := { key := uk, val := uv, born := clock }) rk rv rfl hrel⟩ (run_setObj_mp ho _)
  refine ⟨_, ?_, h5⟩
  simp only [Instr.mapUpdate, Sem.run_bind, run_underlying hu, run_getObj_mp ho, Result.andThen_ok, h3, h1]
  exact h4

/-- How many entries. -/
def aLenM (P : Program) (h : Heap) (t : TypeId) (x : AV) : Option AV := match P.underlying t with
  | some (.map _ _) => match entsOf h x with
    | some es => some (.int .i64 (es.length : Nat))
    | none => none
  | _ => none
theorem RelE.length : ∀ {es : List (AV × AV × Nat)} {l : List MapEntry}, RelE c es l → es.length = l.length
  | [], _, r => by cases r; rfl
  | (_, _, _) :: _, _, ⟨_, _, e1, _, _, _, q⟩ => by cases e1; simp [RelE.length q]
theorem run_aLenM (s : St F β w h) {t : TypeId} {x v : AV} {u : Value} (hl : aLenM P h t x = some v) (rx : Rel (ctx F β w h) x u) (ts us : Array _) (ty : TypeId) (hts : ts[0]? = some t) (hus : us[0]? = some u) :
    ∃ v', (Builtin.len_ ts ty us).run P w = .ok v' w ∧ Rel (ctx F β w h) v v' := by
  unfold aLenM at hl
  split at hl <;> try (cases hl; done)
  rename_i kt e hu
  split at hl <;> simp only [Option.some.injEq, reduceCtorEq] at hl
  rename_i es hes
  subst hl
  unfold entsOf at hes
  split at hes
  · simp only [Option.some.injEq] at hes
    subst hes
    simp only [Rel] at rx
    subst rx
    exact ⟨_, by simp only [Builtin.len_, hts, hus, Sem.run_bind, run_underlying hu, Result.andThen_ok]; rfl, rfl⟩
  · rename_i id
    split at hes <;> simp only [Option.some.injEq, reduceCtorEq] at hes
    rename_i clock hb
    subst hes
    obtain ⟨hid, rfl⟩ := rx
    obtain ⟨o, ho, la, rfl, hrel⟩ := s.live id _ hb
    refine ⟨_, by simp only [Builtin.len_, hts, hus, Sem.run_bind, run_underlying hu, run_getObj_mp ho, Result.andThen_ok]; rfl, ?_⟩
    have := hrel.length
    simp only [Rel, goInt, this]
    simp
  · cases hes
end
end Go.AH
namespace Go.AH
open Go
set_option linter.unusedVariables false
set_option linter.unusedSimpArgs false
section
variable {P : Program} {F : Fr} {β : Nat → Nat} {w : World} {h : Heap} {c : Ctx}

/-! ### make of a slice -/
theorem zeroRow_get {z : List AV} : ∀ (n i : Nat), i < n * z.length → (zeroRow z n)[i]? = z[i % z.length]?
  | 0, i, hi => by simp at hi
  | n + 1, i, hi => by
    rw [zeroRow, List.getElem?_append]
    split
    · rename_i hlt; rw [Nat.mod_eq_of_lt hlt]
    · rename_i hge
      rw [zeroRow_get n (i - z.length) (by rw [Nat.succ_mul] at hi; omega), Nat.mod_eq_sub_mod (Nat.le_of_not_lt hge)]
theorem madeCells_rel {z : List AV} {cs : Array Value} (r : RelL c z cs.toList) (n : Nat) : RelL c (zeroRow z n) (madeCells cs (n * z.length)).toList := by
  have hl := r.length
  refine relL_of_get (by rw [zeroRow_length]; show _ = (madeCells cs (n * z.length)).size; rw [size_madeCells]) fun i x y hx hy => ?_
  have hi : i < n * z.length := by have := lt_of_some' hx; rwa [zeroRow_length] at this
  rw [zeroRow_get n i hi] at hx
  obtain ⟨y', hy', ry⟩ := r.get hx
  rw [Array.getElem?_toList] at hy
  have hp : i % z.length < cs.size := by
    have := (List.getElem?_eq_some_iff.1 hy').1
    simpa using this
  have hcs : cs.size = z.length := by simpa using hl.symm
  unfold madeCells at hy
  rw [Array.getElem?_map, Array.getElem?_range] at hy
  rw [if_pos hi] at hy
  simp only [Option.map_some, Option.some.injEq] at hy
  rw [hcs] at hy
  rw [getElem!_pos cs (i % z.length) hp] at hy
  rw [Array.getElem?_toList, Array.getElem?_eq_getElem hp] at hy'
  simp only [Option.some.injEq] at hy'
  rw [← hy, hy']
  exact ry
where
  lt_of_some' {α : Type} {l : List α} {i : Nat} {x : α} (h : l[i]? = some x) : i < l.length := (List.getElem?_eq_some_iff.1 h).1

def aMakeSlice (P : Program) (h : Heap) (t : TypeId) (l cp : AV) : Option (AV × Heap) := match P.underlying t with
  | some (.slice e) => match l, cp with
    | .int _ l, .int _ n => match tsz P e, tbytes P e, zeroCellsOf P e with
      | some sz, some by_, some z => if 0 ≤ l ∧ l ≤ n ∧ n ≤ 1048576 ∧ by_ ≤ 4096 ∧ z.length = sz then
          some (.sl h.length 0 l.toNat (some n.toNat), h ++ [some (.row (zeroRow z n.toNat) e true)]) else none
      | _, _, _ => none
    | _, _ => none
  | _ => none
theorem run_aMakeSlice (s : St F β w h) {t : TypeId} {l cp v : AV} {h' : Heap} {ul uc : Value} (hl : aMakeSlice P h t l cp = some (v, h')) (rl : Rel (ctx F β w h) l ul) (rc : Rel (ctx F β w h) cp uc) :
    VOk F β w h ((Instr.makeSlice t ul uc).run P w) v h' := by
  unfold aMakeSlice at hl
  split at hl <;> try (cases hl; done)
  rename_i e hu
  split at hl <;> try (cases hl; done)
  rename_i k1 l k2 n
  split at hl <;> try (cases hl; done)
  rename_i sz by_ z hsz hby hz
  split at hl <;> simp only [Option.some.injEq, Prod.mk.injEq, reduceCtorEq] at hl
  rename_i hc
  obtain ⟨h0, h1, h2, h3, h4⟩ := hc
  obtain ⟨rfl, rfl⟩ := hl
  simp only [Rel] at rl rc
  subst rl rc
  obtain ⟨i, zv, hi, hzv, rz⟩ := zeroCells_rel (c := ctx F β w h) hz
  unfold tbytes at hby
  unfold tsz at hsz
  rw [hi] at hby hsz
  simp only [Option.map_some, Option.some.injEq] at hby hsz
  have hb : (i.bytes : Int) * n ≤ 281474976710656 := by
    have q1 : (i.bytes : Int) ≤ 4096 := by omega
    have := Int.mul_le_mul q1 h2 (by omega) (by omega)
    omega
  have hr := run_make (P := P) w t e i zv hu hi hzv k1 k2 l n h0 h1 hb (by omega)
  refine ⟨_, _, _, hr, s.alloc (.cells _ e) (.row (zeroRow z n.toNat) e true) ?_, ?_⟩
  · refine ⟨_, _, rfl, ⟨_, [], (List.append_nil _).symm, ?_, fun _ => rfl⟩, fun j _ q => by omega⟩
    rw [hsz, ← h4]
    exact madeCells_rel rz n.toNat
  · refine ⟨by simp, 0, n.toNat, by simp, .inl rfl, by omega, fun x hx => by simpa using hx⟩

/-! ### a slice as a pointer to an array -/
def aArrPtr (P : Program) (t : TypeId) (x : AV) : Option AV := match P.underlying t with
  | some (.array n _) => match x with
    | .sl id off len _ => if 0 < n ∧ n ≤ len then some (.ptr id off) else none
    | .gsl id len _ => if 0 < n ∧ n ≤ len then some (.ptr id 0) else none
    | .isl cs len => if 0 < n ∧ n ≤ len then some (.iptr cs) else none
    | _ => none
  | _ => none
theorem run_aArrPtr {t : TypeId} {x v : AV} {u : Value} (hl : aArrPtr P t x = some v) (r : Rel c x u) (w : World) : ∃ v', (Instr.arrayAt t u).run P w = .ok v' w ∧ Rel c v v' := by
  unfold aArrPtr at hl
  split at hl <;> try (cases hl; done)
  rename_i n e hu
  have run : ∀ (a : Option Addr) (len cp : Nat), n ≤ len → (Instr.arrayAt t (.slice a len cp)).run P w = .ok (.pointer a) w := by
    intro a len cp hn
    simp [Instr.arrayAt, run_underlying hu, Nat.not_lt.2 hn]
  split at hl <;> try (cases hl; done)
  · split at hl <;> simp only [Option.some.injEq, reduceCtorEq] at hl
    rename_i hc
    subst hl
    obtain ⟨hid, o, cp, rfl, ho, hle, _⟩ := r
    refine ⟨_, run _ _ _ hc.2, hid, ?_⟩
    rcases ho with rfl | q
    · rfl
    · omega
  · split at hl <;> simp only [Option.some.injEq, reduceCtorEq] at hl
    rename_i hc
    subst hl
    obtain ⟨hid, cp, e', rfl, _⟩ := r
    exact ⟨_, run _ _ _ hc.2, hid, rfl⟩
  · split at hl <;> simp only [Option.some.injEq, reduceCtorEq] at hl
    rename_i hc
    subst hl
    obtain ⟨a, cp, rfl, hle, hr⟩ := r
    rcases hr with q | ⟨b, o, rfl, hb, hN, hrow⟩
    · omega
    · exact ⟨_, run _ _ _ hc.2, b, o, rfl, hb, hN, hrow⟩

/-! ### capacity -/
def aCap (P : Program) (t : TypeId) (x : AV) : Option AV := match P.underlying t with
  | some (.slice _) => match x with
    | .nilsl => some (.int .i64 0)
    | .esl => some (.int .i64 0)
    | .sl _ _ _ (some n) => some (.int .i64 (n : Nat))
    | .sl _ _ _ none => some (.any .i64)
    | .gsl _ _ _ => some (.any .i64)
    | .isl _ _ => some (.any .i64)
    | _ => none
  | _ => none
theorem run_aCap {t : TypeId} {x v : AV} {u : Value} (hl : aCap P t x = some v) (rx : Rel c x u) (ts us : Array _) (ty : TypeId) (hts : ts[0]? = some t) (hus : us[0]? = some u) (w : World) :
    ∃ v', (Builtin.cap_ ts ty us).run P w = .ok v' w ∧ Rel c v v' := by
  unfold aCap at hl
  split at hl <;> try (cases hl; done)
  rename_i e hu
  have run : ∀ (a : Option Addr) (len cp : Nat), u = .slice a len cp → (Builtin.cap_ ts ty us).run P w = .ok (goInt cp) w := by
    rintro a len cp rfl
    simp only [Builtin.cap_, hts, hus, Sem.run_bind, run_underlying hu, Result.andThen_ok, Sem.run_pure]
  split at hl <;> simp only [Option.some.injEq, reduceCtorEq] at hl <;> subst hl <;> simp only [Rel] at rx
  · exact ⟨_, run _ _ _ rx, rfl⟩
  · obtain ⟨a, q⟩ := rx; exact ⟨_, run _ _ _ q, rfl⟩
  · obtain ⟨_, o, cp, q, _, _, hcp⟩ := rx
    have := hcp _ rfl
    subst this
    exact ⟨_, run _ _ _ q, rfl⟩
  · obtain ⟨_, o, cp, q, _⟩ := rx; exact ⟨_, run _ _ _ q, _, rfl⟩
  · obtain ⟨_, cp, e', q, _⟩ := rx; exact ⟨_, run _ _ _ q, _, rfl⟩
  · obtain ⟨a, cp, q, _⟩ := rx; exact ⟨_, run _ _ _ q, _, rfl⟩
def aCapH (P : Program) (h : Heap) (t : TypeId) (x : AV) : Option AV := match P.underlying t with
  | some (.slice _) => match x with
    | .gsl id _ esz => match rowAt h id with
      | some (cs, _, _) => if 0 < esz then some (.atl .i64 (cs.length / esz)) else none
      | none => none
    | _ => none
  | _ => none
theorem run_aCapH (s : St F β w h) {t : TypeId} {x v : AV} {u : Value} (hl : aCapH P h t x = some v) (rx : Rel (ctx F β w h) x u) (ts us : Array _) (ty : TypeId) (hts : ts[0]? = some t) (hus : us[0]? = some u) :
    ∃ v', (Builtin.cap_ ts ty us).run P w = .ok v' w ∧ Rel (ctx F β w h) v v' := by
  unfold aCapH at hl
  split at hl <;> try (cases hl; done)
  rename_i e hu
  split at hl <;> try (cases hl; done)
  rename_i id len esz
  split at hl <;> try (cases hl; done)
  rename_i cs e' wh hrow
  split at hl <;> simp only [Option.some.injEq, reduceCtorEq] at hl
  rename_i hpos
  subst hl
  obtain ⟨hid, cap', et, rfl, hle, hsh⟩ := rx
  obtain ⟨_, _, vs, fz, ho, _, _, h5⟩ := s.rowOf hrow
  have hsize : vs.size = cap' * esz := by
    have hsh' : w.shape? (β id) = some (et, cap' * esz) := hsh
    simp only [World.shape?, ho] at hsh'
    simp at hsh'
    exact hsh'.2
  refine ⟨goInt cap', ?_, (cap' : Int), rfl, ?_⟩
  · simp only [Builtin.cap_, hts, hus, Sem.run_bind, run_underlying hu, Result.andThen_ok, Sem.run_pure]
  · have : cs.length / esz ≤ cap' := by
      rw [Nat.div_le_iff_le_mul_add_pred hpos]
      have := Nat.mul_comm cap' esz
      omega
    omega

/-! ### package variables -/
def gcells (g : Nat) : Option (List AV) := (gtab.find? (·.1 == g)).map (·.2)
theorem gcells_mem {g : Nat} {cs : List AV} (h : gcells g = some cs) : (g, cs) ∈ gtab := by
  unfold gcells at h
  rw [Option.map_eq_some_iff] at h
  obtain ⟨x, hx, rfl⟩ := h
  have := List.find?_some hx
  simp only [beq_iff_eq] at this
  subst this
  exact List.mem_of_find?_eq_some hx
/-- A number, or one that is not known, of a package variable. -/
def gleaf : AV → Bool
  | .int _ _ => true
  | .any _ => true
  | _ => false
theorem gRel_rel {x : AV} {y : Value} (hx : gleaf x = true) (r : gRel x y) : Rel c x y := by
  cases x <;> simp [gleaf] at hx <;> simpa [gRel, Rel] using r
def aGLoad (P : Program) (t : TypeId) (x : AV) : Option AV := match x with
  | .gptr g off => match gcells g, tagg P t with
    | some cs, some false => match cs[off]? with
      | some y => if gleaf y then some y else none
      | none => none
    | _, _ => none
  | _ => none
theorem run_aGLoad (s : St F β w h) {t : TypeId} {x v : AV} {u : Value} (hl : aGLoad P t x = some v) (r : Rel (ctx F β w h) x u) : ∃ v', (Instr.loadAt t u).run P w = .ok v' w ∧ Rel (ctx F β w h) v v' := by
  unfold aGLoad at hl
  split at hl <;> try (cases hl; done)
  rename_i g off
  split at hl <;> try (cases hl; done)
  rename_i cs hg ht
  split at hl <;> try (cases hl; done)
  rename_i y hy
  split at hl <;> simp only [Option.some.injEq, reduceCtorEq] at hl
  rename_i hlf
  subst hl
  simp only [Rel] at r
  subst r
  obtain ⟨_, _, h3, _⟩ := s.gl _ (gcells_mem hg)
  have hrow : Row (ctx F β w h) [y] g off := by
    obtain ⟨z, e, rz⟩ := h3 off y hy
    exact ⟨⟨z, e, gRel_rel hlf rz⟩, trivial⟩
  obtain ⟨v', h1, h2⟩ := run_loadVar_row' (P := P) (t := t) (off := 0) (v := y) hrow (by unfold pick; rw [ht]; rfl)
  refine ⟨v', ?_, h2⟩
  simp only [Nat.add_zero] at h1
  simpa [Instr.loadAt, Instr.sureAddr] using h1
def aGIndexAddr (P : Program) (t : TypeId) (x i : AV) : Option AV := match x, i with
  | .gptr g off, .int _ i => match P.underlying t with
    | some (.array n e) => match tsz P e with
      | some sz => if 0 ≤ i ∧ i < (n : Int) then some (.gptr g (off + i.toNat * sz)) else none
      | none => none
    | _ => none
  | _, _ => none
theorem run_aGIndexAddr {t : TypeId} {x i v : AV} {u j : Value} (hs : aGIndexAddr P t x i = some v) (r : Rel c x u) (ri : Rel c i j) (w : World) :
    ∃ v', (Instr.indexAt t u j).run P w = .ok v' w ∧ Rel c v v' := by
  unfold aGIndexAddr at hs
  split at hs <;> try (cases hs; done)
  rename_i g off k n
  simp only [Rel] at ri r
  subst ri r
  split at hs <;> try (cases hs; done)
  rename_i len e hu
  split at hs <;> try (cases hs; done)
  rename_i sz hsz
  split at hs <;> simp only [Option.some.injEq, reduceCtorEq] at hs
  rename_i hn
  subst hs
  exact ⟨_, by simp [Instr.indexAt, asIntOf, run_underlying hu, Instr.sureAddr, hn, run_sizeOf' hsz, Addr.add_lit], rfl⟩
/-! ### a slice beyond its length, up to what is known of its block -/
def aOver (P : Program) (h : Heap) (t : TypeId) (x : AV) (lo hi mx : Option AV) : Option AV := match P.underlying t with
  | some (.slice e) => match tsz P e, mx with
    | some sz, none => match x with
      | .gsl id len esz => if esz = sz ∧ 0 < sz then match rowAt h id with
        | some (cs, _, _) => match aBounds len (cs.length / sz) lo hi none with
          | some (l, hh, _) => if len ≤ cs.length / sz then (if l = 0 then some (.gsl id hh esz) else some (.sl id (l * sz) (hh - l) none)) else none
          | none => none
        | none => none else none
      | _ => none
    | _, _ => none
  | _ => none
theorem run_aOver (s : St F β w h) {t : TypeId} {x v : AV} {u : Value} {lo hi mx : Option AV} (hs : aOver P h t x lo hi mx = some v) (r : Rel (ctx F β w h) x u) {lo' hi' mx' : Option Value}
    (rl : RelO (ctx F β w h) lo lo') (rh : RelO (ctx F β w h) hi hi') (rm : RelO (ctx F β w h) mx mx') :
    ∃ v', (Instr.sliceAt t u lo' hi' mx').run P w = .ok v' w ∧ Rel (ctx F β w h) v v' := by
  unfold aOver at hs
  split at hs <;> try (cases hs; done)
  rename_i e hu
  split at hs <;> try (cases hs; done)
  rename_i sz hsz
  split at hs <;> try (cases hs; done)
  rename_i id len esz
  split at hs <;> try (cases hs; done)
  rename_i hc
  obtain ⟨rfl, hpos⟩ := hc
  split at hs <;> try (cases hs; done)
  rename_i cs e' wh hrow
  split at hs <;> try (cases hs; done)
  rename_i l hh m hb
  split at hs <;> try (cases hs; done)
  rename_i htop
  cases rm
  obtain ⟨hid, cap', et, rfl, hle, hsh⟩ := r
  obtain ⟨_, _, vs, fz, ho, _, _, h5⟩ := s.rowOf hrow
  have hsize : vs.size = cap' * esz := by
    simp only [World.shape?, ho] at hsh
    simp at hsh
    exact hsh.2
  have hcap : cs.length / esz ≤ cap' := by
    rw [Nat.div_le_iff_le_mul_add_pred hpos]
    have : cs.length ≤ cap' * esz := by rw [← hsize]; exact h5
    rw [Nat.mul_comm]
    omega
  obtain ⟨e1, e2, e3, e4⟩ := run_bounds (P := P) (isSl := true) hb htop hcap rl rh (show RelO (ctx F β w h) none none from rfl) w
  have hm : m = none := by
    unfold aBounds at hb
    simp only at hb
    split at hb <;> try (cases hb; done)
    split at hb <;> simp only [Option.some.injEq, Prod.mk.injEq, reduceCtorEq] at hb
    exact hb.2.2.symm
  subst hm
  simp only [Option.getD_none] at e1
  refine ⟨cutV esz (some ⟨β id, 0, none⟩) l hh cap', by simp [Instr.sliceAt, Instr.slice, run_underlying hu, e1, run_sizeOf' hsz]; rfl, ?_⟩
  simp only [cutV]
  split at hs <;> simp only [Option.some.injEq] at hs <;> subst hs
  · rename_i hl
    subst hl
    refine ⟨hid, cap', et, ?_, by omega, hsh⟩
    split
    · rename_i h0; subst h0; rfl
    · simp [Addr.add_lit]
  · refine ⟨hid, ?_⟩
    by_cases hml : cap' = l
    · rw [if_pos hml]; exact ⟨0, cap' - l, rfl, .inr (by omega), by omega, fun x hx => by simp at hx⟩
    · rw [if_neg hml]; exact ⟨l * esz, cap' - l, by simp [Addr.add_lit], .inl rfl, by omega, fun x hx => by simp at hx⟩
end
end Go.AH
namespace Go.AH
open Go
set_option linter.unusedVariables false
set_option linter.unusedSimpArgs false
section
variable {P : Program} {F : Fr} {β : Nat → Nat} {w : World} {h : Heap} {c : Ctx}

/-! ### named numbers -/
def aNum : AV → Option (IntKind × List Int)
  | .int k n => some (k, [n])
  | .lin k e => some (k, e)
  | _ => none
theorem aNum_rel {x : AV} {k : IntKind} {e : List Int} {u : Value} (h : aNum x = some (k, e)) (r : Rel c x u) : u = .int k (linV c.V.ρ e) := by
  cases x <;> simp only [aNum, reduceCtorEq, Option.some.injEq, Prod.mk.injEq] at h
  · obtain ⟨rfl, rfl⟩ := h; exact r
  · obtain ⟨rfl, rfl⟩ := h; simp only [Rel] at r; subst r; simp [linV, linS]
def fits (k : IntKind) (e : List Int) : Bool := decide (k.min ≤ loV e) && decide (hiV e ≤ k.max)
theorem wrap_in {k : IntKind} {n : Int} (h1 : k.min ≤ n) (h2 : n ≤ k.max) : k.wrap n = n := by
  cases k <;> simp [IntKind.min, IntKind.max, IntKind.signed, IntKind.bits] at h1 h2 <;> simp only [IntKind.wrap, IntKind.bits, IntKind.signed] <;> simp <;> (try split) <;> omega
theorem wrap_fits {k : IntKind} {e : List Int} (V : Val) (h : fits k e = true) : k.wrap (linV V.ρ e) = linV V.ρ e := by
  simp only [fits, Bool.and_eq_true, decide_eq_true_eq] at h
  have := linV_bound V e
  exact wrap_in (by omega) (by omega)
def fitE (k : IntKind) (e : List Int) : Option AV := if fits k e then some (mkLin k e) else none
theorem fitE_rel {k : IntKind} {e : List Int} {v : AV} (h : fitE k e = some v) : Rel c v (.int k (k.wrap (linV c.V.ρ e))) := by
  unfold fitE at h
  split at h <;> simp only [Option.some.injEq, reduceCtorEq] at h
  subst h
  rw [wrap_fits c.V (by assumption)]
  exact mkLin_rel c k e
def cmpE (op : BinOp) (a b : List Int) : Option Bool :=
  let lo := loV (subL a b)
  let hi := hiV (subL a b)
  match op with
  | .lss => if hi < 0 then some true else if 0 ≤ lo then some false else none
  | .leq => if hi ≤ 0 then some true else if 0 < lo then some false else none
  | .gtr => if 0 < lo then some true else if hi ≤ 0 then some false else none
  | .geq => if 0 ≤ lo then some true else if hi < 0 then some false else none
  | .eql => if lo = 0 ∧ hi = 0 then some true else if hi < 0 ∨ 0 < lo then some false else none
  | .neq => if lo = 0 ∧ hi = 0 then some false else if hi < 0 ∨ 0 < lo then some true else none
  | _ => none
def cmpI (op : BinOp) (x y : Int) : Option Bool := match op with
  | .lss => some (decide (x < y))
  | .leq => some (decide (x ≤ y))
  | .gtr => some (decide (x > y))
  | .geq => some (decide (x ≥ y))
  | .eql => some (x == y)
  | .neq => some (x != y)
  | _ => none
theorem cmpE_cmpI {op : BinOp} {a b : List Int} {r : Bool} (V : Val) (h : cmpE op a b = some r) : cmpI op (linV V.ρ a) (linV V.ρ b) = some r := by
  have hb := linV_bound V (subL a b)
  rw [linV_sub] at hb
  obtain ⟨h1, h2⟩ := hb
  cases op <;> simp only [cmpE, reduceCtorEq] at h <;> simp only [cmpI, Option.some.injEq]
  all_goals
    split at h
    · simp only [Option.some.injEq] at h; subst h; simp; omega
    · split at h <;> simp only [Option.some.injEq, reduceCtorEq] at h
      subst h; simp; omega
theorem cmpI_int {op : BinOp} {k : IntKind} {x y : Int} {r : Bool} (h : cmpI op x y = some r) : aInt op k x y = some (.bool r) := by
  cases op <;> simp only [cmpI, reduceCtorEq, Option.some.injEq] at h <;> subst h <;> rfl

/-- The kind of a number. -/
def kindA : AV → Option IntKind
  | .int k _ => some k
  | .lin k _ => some k
  | .any k => some k
  | .atl k _ => some k
  | _ => none
theorem kindA_rel {x : AV} {k : IntKind} {u : Value} (h : kindA x = some k) (r : Rel c x u) : ∃ n, u = .int k n := by
  cases x <;> simp only [kindA, reduceCtorEq, Option.some.injEq] at h <;> subst h <;> first | exact r | exact ⟨_, r⟩ | (obtain ⟨m, e, _⟩ := r; exact ⟨m, e⟩)
def anyBin (op : BinOp) (x y : AV) : Option AV := match kindA x, kindA y with
  | some k, some k' => if k = k' then match op with
    | .add | .sub | .mul | .and | .or | .xor | .andNot => some (.any k)
    | .eql | .neq | .lss | .leq | .gtr | .geq => some .anyb
    | _ => none else none
  | _, _ => none
/-- A form over a number: what divides, what is left. -/
def divL (m : Int) : List Int → List Int
  | [] => []
  | x :: a => x / m :: divL m a
def remL (m : Int) : List Int → List Int
  | [] => []
  | x :: a => x % m :: remL m a
theorem divS_val (ρ : Nat → Int) (m : Int) : ∀ (i : Nat) (a : List Int), linS ρ i a = m * linS ρ i (divL m a) + linS ρ i (remL m a)
  | _, [] => by simp [divL, remL, linS]
  | i, x :: a => by
    have h := Int.mul_ediv_add_emod x m
    have ih := divS_val ρ m (i + 1) a
    simp only [divL, remL, linS]
    have e : x * ρ i = m * (x / m * ρ i) + x % m * ρ i := by
      rw [← Int.mul_assoc, ← Int.add_mul, h]
    rw [e, ih, Int.mul_add]
    omega
theorem divL_val (ρ : Nat → Int) (m : Int) (a : List Int) : linV ρ a = m * linV ρ (divL m a) + linV ρ (remL m a) := by
  cases a with
  | nil => simp [divL, remL, linV]
  | cons x a =>
    have h := Int.mul_ediv_add_emod x m
    have := divS_val ρ m 0 a
    simp only [divL, remL, linV, Int.mul_add]
    omega
def divOk (m : Int) (a : List Int) : Bool := decide (0 < m) && (decide (0 ≤ loV (divL m a)) && (decide (0 ≤ loV (remL m a)) && decide (hiV (remL m a) < m)))
theorem divOk_val {m : Int} {a : List Int} (V : Val) (h : divOk m a = true) : m ≠ 0 ∧ (linV V.ρ a).tdiv m = linV V.ρ (divL m a) ∧ (linV V.ρ a).tmod m = linV V.ρ (remL m a) := by
  simp only [divOk, Bool.and_eq_true, decide_eq_true_eq] at h
  obtain ⟨h1, h2, h3, h4⟩ := h
  have bq := linV_bound V (divL m a)
  have br := linV_bound V (remL m a)
  have e := divL_val V.ρ m a
  have hq : 0 ≤ linV V.ρ (divL m a) := by omega
  have hm : 0 ≤ m * linV V.ρ (divL m a) := Int.mul_nonneg (by omega) hq
  have ha : 0 ≤ linV V.ρ a := by omega
  have e2 : linV V.ρ a = linV V.ρ (remL m a) + m * linV V.ρ (divL m a) := by omega
  refine ⟨by omega, ?_, ?_⟩
  · rw [Int.tdiv_eq_ediv_of_nonneg ha, e2, Int.add_mul_ediv_left _ _ (by omega), Int.ediv_eq_zero_of_lt (by omega) (by omega), Int.zero_add]
  · rw [Int.tmod_eq_emod_of_nonneg ha, e2, Int.add_mul_emod_self_left, Int.emod_eq_of_lt (by omega) (by omega)]
def linBin (op : BinOp) (x y : AV) : Option AV := match aNum x, aNum y with
  | some (k, a), some (k', b) => if k = k' then match op with
    | .add => fitE k (addL a b)
    | .sub => fitE k (subL a b)
    | .mul => match b, a with
      | [n], _ => fitE k (mulL n a)
      | _, [n] => fitE k (mulL n b)
      | _, _ => none
    | .quo => match b with
      | [m] => if divOk m a = true then fitE k (divL m a) else none
      | _ => none
    | .rem => match b with
      | [m] => if divOk m a = true then fitE k (remL m a) else none
      | _ => none
    | op => (cmpE op a b).map .bool else none
  | _, _ => none
theorem run_linBin {op : BinOp} {t : TypeId} {x y v : AV} {u q : Value} (h : linBin op x y = some v) (rx : Rel c x u) (ry : Rel c y q) (w : World) : ∃ v', (binOp op t u q).run P w = .ok v' w ∧ Rel c v v' := by
  unfold linBin at h
  split at h <;> try (cases h; done)
  rename_i k a k' b ha hb
  split at h <;> try (cases h; done)
  rename_i hk
  subst hk
  have ex := aNum_rel ha rx
  have ey := aNum_rel hb ry
  subst ex ey
  have arith : ∀ (o : BinOp) (e : List Int) (m : Int), op = o → aInt o k (linV c.V.ρ a) (linV c.V.ρ b) = some (.int k (k.wrap m)) → linV c.V.ρ e = m → fitE k e = some v →
      ∃ v', (binOp op t (.int k (linV c.V.ρ a)) (.int k (linV c.V.ρ b))).run P w = .ok v' w ∧ Rel c v v' := by
    rintro o e m rfl h1 rfl h3
    obtain ⟨v', h4, h5⟩ := run_intOp (P := P) (c := c) h1 t w
    simp only [Rel] at h5
    subst h5
    exact ⟨_, h4, fitE_rel h3⟩
  have cmp : ∀ r, cmpE op a b = some r → .bool r = v → ∃ v', (binOp op t (.int k (linV c.V.ρ a)) (.int k (linV c.V.ρ b))).run P w = .ok v' w ∧ Rel c v v' := by
    rintro r h1 rfl
    exact run_intOp (P := P) (c := c) (cmpI_int (cmpE_cmpI c.V h1)) t w
  have cmp' : (cmpE op a b).map AV.bool = some v → ∃ v', (binOp op t (.int k (linV c.V.ρ a)) (.int k (linV c.V.ρ b))).run P w = .ok v' w ∧ Rel c v v' := by
    intro h1
    rw [Option.map_eq_some_iff] at h1
    obtain ⟨r, h1, h2⟩ := h1
    exact cmp r h1 h2
  split at h
  · exact arith _ _ _ rfl rfl (linV_add _ _ _) h
  · exact arith _ _ _ rfl rfl (linV_sub _ _ _) h
  · split at h
    · exact arith _ _ _ rfl rfl (by rw [linV_mul]; simp [linV, linS, Int.mul_comm]) h
    · exact arith _ _ _ rfl rfl (by rw [linV_mul]; simp [linV, linS]) h
    · cases h
  · split at h <;> try (cases h; done)
    rename_i m
    split at h <;> try (cases h; done)
    rename_i hd
    obtain ⟨h0, h1, h2⟩ := divOk_val c.V hd
    have e0 : linV c.V.ρ [m] = m := by simp [linV, linS]
    exact arith .quo (divL m a) _ rfl (by rw [e0]; simp only [aInt, if_neg h0]) h1.symm h
  · split at h <;> try (cases h; done)
    rename_i m
    split at h <;> try (cases h; done)
    rename_i hd
    obtain ⟨h0, h1, h2⟩ := divOk_val c.V hd
    have e0 : linV c.V.ρ [m] = m := by simp [linV, linS]
    have hw : k.wrap (linV c.V.ρ (remL m a)) = linV c.V.ρ (remL m a) := by
      unfold fitE at h
      split at h
      · exact wrap_fits c.V (by assumption)
      · cases h
    exact arith .rem (remL m a) (linV c.V.ρ (remL m a)) rfl (by rw [e0]; simp only [aInt, if_neg h0]; rw [h2, hw]) rfl h
  · exact cmp' h
theorem run_anyBin {op : BinOp} {t : TypeId} {x y v : AV} {u q : Value} (h : anyBin op x y = some v) (rx : Rel c x u) (ry : Rel c y q) (w : World) : ∃ v', (binOp op t u q).run P w = .ok v' w ∧ Rel c v v' := by
  unfold anyBin at h
  split at h <;> try (cases h; done)
  rename_i k k' hx hy
  split at h <;> try (cases h; done)
  rename_i hk
  subst hk
  obtain ⟨m, rfl⟩ := kindA_rel hx rx
  obtain ⟨n, rfl⟩ := kindA_rel hy ry
  have go : ∀ z, aInt op k m n = some z → (∀ v', Rel c z v' → Rel c v v') → ∃ v', (binOp op t (.int k m) (.int k n)).run P w = .ok v' w ∧ Rel c v v' := by
    intro z h1 h2
    obtain ⟨v', h3, h4⟩ := run_intOp (P := P) (c := c) h1 t w
    exact ⟨v', h3, h2 v' h4⟩
  split at h <;> simp only [Option.some.injEq, reduceCtorEq] at h <;> subst h <;> refine go _ rfl fun v' q => ?_ <;> exact ⟨_, q⟩
theorem guardEq_num {t : TypeId} {lit : Bool} {x y : AV} {k k' : IntKind} (hx : kindA x = some k) (hy : kindA y = some k') : aGuardEq P t lit x y = true := by
  cases x <;> simp only [kindA, reduceCtorEq] at hx <;> cases y <;> simp only [kindA, reduceCtorEq] at hy <;> rfl
theorem aNum_kind {x : AV} {k : IntKind} {e : List Int} (h : aNum x = some (k, e)) : kindA x = some k := by
  cases x <;> simp only [aNum, reduceCtorEq, Option.some.injEq, Prod.mk.injEq] at h <;> simp [kindA, h.1]
/-- An operator on named numbers. -/
def atlBin (op : BinOp) (x y : AV) : Option AV := match op, x, y with
  | .gtr, .int k a, .atl k' n => if k = k' ∧ a ≤ n then some (.bool false) else none
  | _, _, _ => none
theorem run_atlBin {op : BinOp} {t : TypeId} {x y v : AV} {u q : Value} (h : atlBin op x y = some v) (rx : Rel c x u) (ry : Rel c y q) (w : World) : ∃ v', (binOp op t u q).run P w = .ok v' w ∧ Rel c v v' := by
  unfold atlBin at h
  split at h <;> try (cases h; done)
  rename_i k a k' n
  split at h <;> simp only [Option.some.injEq, reduceCtorEq] at h
  rename_i hc
  obtain ⟨rfl, hc⟩ := hc
  subst h
  have e1 : u = .int k a := rx
  obtain ⟨m, e2, hm⟩ := ry
  subst e1 e2
  have h1 : aInt .gtr k a m = some (.bool (decide (a > m))) := rfl
  obtain ⟨v', h3, h4⟩ := run_intOp (P := P) (c := c) h1 t w
  refine ⟨v', h3, ?_⟩
  have : decide (a > m) = false := by simp; omega
  rw [this] at h4
  exact h4
def numBin (op : BinOp) (x y : AV) : Option AV := match atlBin op x y with
  | some v => some v
  | none => match linBin op x y with
    | some v => some v
    | none => anyBin op x y
theorem run_numBin {op : BinOp} {t : TypeId} {a b : Operand} {x y v : AV} {u q : Value} (h : numBin op x y = some v) (rx : Rel c x u) (ry : Rel c y q) (w : World) :
    ∃ v', (eqGuard op t a b u q >>= fun _ => binOp op t u q).run P w = .ok v' w ∧ Rel c v v' := by
  unfold numBin at h
  have kinds : ∃ k k', kindA x = some k ∧ kindA y = some k' := by
    split at h
    · rename_i h1
      unfold atlBin at h1
      split at h1 <;> first | (cases h1; done) | exact ⟨_, _, rfl, rfl⟩
    split at h
    · rename_i h1
      unfold linBin at h1
      split at h1 <;> try (cases h1; done)
      rename_i ha hb
      exact ⟨_, _, aNum_kind ha, aNum_kind hb⟩
    · unfold anyBin at h
      split at h <;> try (cases h; done)
      exact ⟨_, _, by assumption, by assumption⟩
  obtain ⟨k, k', hx, hy⟩ := kinds
  have hg := run_eqGuard (P := P) (op := op) (t := t) (a := a) (b := b) (guardEq_num hx hy) rx ry w
  have hb : ∃ v', (binOp op t u q).run P w = .ok v' w ∧ Rel c v v' := by
    split at h
    · simp only [Option.some.injEq] at h
      subst h
      exact run_atlBin (by assumption) rx ry w
    split at h
    · simp only [Option.some.injEq] at h
      subst h
      exact run_linBin (by assumption) rx ry w
    · exact run_anyBin h rx ry w
  obtain ⟨v', h1, h2⟩ := hb
  exact ⟨v', by simp only [Sem.run_bind, hg, Result.andThen_ok, h1], h2⟩
theorem wrap_rem8 {e : List Int} (V : Val) (hd : divOk 256 e = true) : IntKind.u8.wrap (linV V.ρ e) = linV V.ρ (remL 256 e) := by
  obtain ⟨_, h4, h5⟩ := divOk_val V hd
  have ev := divL_val V.ρ 256 e
  simp only [divOk, Bool.and_eq_true, decide_eq_true_eq] at hd
  obtain ⟨p1, p2, p3, p4⟩ := hd
  have bd := linV_bound V (divL 256 e)
  have br := linV_bound V (remL 256 e)
  rw [← h5, Int.tmod_eq_emod_of_nonneg (by omega)]
  simp [IntKind.wrap, IntKind.bits, IntKind.signed]
def numConv (P : Program) (src dst : TypeId) (x : AV) : Option AV := match P.underlying src, P.underlying dst with
  | some _, some (.int k) => match x with
    | .lin _ e => match fitE k e with
      | some v => some v
      | none => if k = .u8 ∧ divOk 256 e = true then some (mkLin .u8 (remL 256 e)) else none
    | .any _ => some (.any k)
    | _ => none
  | _, _ => none
theorem run_numConv {src dst : TypeId} {x v : AV} {u : Value} (hs : numConv P src dst x = some v) (r : Rel c x u) (w : World) : ∃ v', (convert src dst u).run P w = .ok v' w ∧ Rel c v v' := by
  unfold numConv at hs
  split at hs <;> try (cases hs; done)
  rename_i d k h1 h2
  have go : ∀ (k0 : IntKind) (n : Int), u = .int k0 n → ∃ v', (convert src dst u).run P w = .ok v' w ∧ v' = .int k (k.wrap n) := by
    rintro k0 n rfl
    obtain ⟨v', h3, h4⟩ := run_aConv (P := P) (c := c) (src := src) (dst := dst) (x := .int k0 n) (v := .int k (k.wrap n)) (by simp only [aConv, h1, h2]) rfl w
    exact ⟨v', h3, h4⟩
  split at hs
  · split at hs
    · simp only [Option.some.injEq] at hs
      subst hs
      obtain ⟨v', h3, rfl⟩ := go _ _ r
      exact ⟨_, h3, fitE_rel (by assumption)⟩
    · split at hs <;> simp only [Option.some.injEq, reduceCtorEq] at hs
      rename_i hc
      obtain ⟨rfl, hd⟩ := hc
      subst hs
      obtain ⟨v', h3, rfl⟩ := go _ _ r
      refine ⟨_, h3, ?_⟩
      rw [wrap_rem8 c.V hd]
      exact mkLin_rel c .u8 _
  · simp only [Option.some.injEq] at hs
    subst hs
    obtain ⟨n, hn⟩ := r
    obtain ⟨v', h3, rfl⟩ := go _ _ hn
    exact ⟨_, h3, _, rfl⟩
  · cases hs
/-- The lesser, the greater of two. -/
def numMin (x y : AV) : Option AV := match aNum x, aNum y with
  | some (k, a), some (k', b) => if k = k' then match cmpE .lss b a with
    | some true => some y
    | some false => some x
    | none => none else none
  | _, _ => none
def numMax (x y : AV) : Option AV := match aNum x, aNum y with
  | some (k, a), some (k', b) => if k = k' then match cmpE .gtr b a with
    | some true => some y
    | some false => some x
    | none => none else none
  | _, _ => none
end
end Go.AH
namespace Go.AH
open Go
set_option linter.unusedVariables false
set_option linter.unusedSimpArgs false
section
variable {P : Program} {F : Fr} {β : Nat → Nat} {w : World} {h : Heap} {c : Ctx}

/-! ### texts with named bytes -/
/-- The bytes of a text are these. -/
def SymOk (c : Ctx) (s : List UInt8) (l : List (List Int)) : Prop := s.map (fun b => (b.toNat : Int)) = l.map (linV c.V.ρ)
def aSym : AV → Option (List (List Int))
  | .str s => some (s.map fun b => [(b.toNat : Int)])
  | .sym l => some l
  | _ => none
theorem aSym_rel {x : AV} {l : List (List Int)} {u : Value} (h : aSym x = some l) (r : Rel c x u) : ∃ s : List UInt8, u = .string ⟨s.toArray⟩ ∧ SymOk c s l := by
  cases x <;> simp only [aSym, reduceCtorEq, Option.some.injEq] at h
  · subst h; exact r
  · rename_i s
    subst h
    refine ⟨s, r, ?_⟩
    unfold SymOk
    rw [List.map_map]
    exact List.map_congr_left fun b _ => by simp [linV, linS]
def constB : List Int → Option UInt8
  | [n] => if 0 ≤ n ∧ n < 256 then some (UInt8.ofNat n.toNat) else none
  | _ => none
def constL : List (List Int) → Option (List UInt8)
  | [] => some []
  | e :: l => match constB e, constL l with
    | some b, some s => some (b :: s)
    | _, _ => none
theorem constB_val {e : List Int} {b : UInt8} (h : constB e = some b) (ρ : Nat → Int) : linV ρ e = b.toNat := by
  unfold constB at h
  split at h <;> try (cases h; done)
  split at h <;> simp only [Option.some.injEq, reduceCtorEq] at h
  subst h
  rename_i n hn
  have : n.toNat % 256 = n.toNat := Nat.mod_eq_of_lt (by omega)
  simp [linV, linS, UInt8.toNat_ofNat', this]
  omega
theorem constL_ok : ∀ {l : List (List Int)} {s t : List UInt8}, constL l = some t → SymOk c s l → s = t
  | [], [], _, h, _ => by simp [constL] at h; exact h.symm
  | [], _ :: _, _, _, r => by simp [SymOk] at r
  | _ :: _, [], _, _, r => by simp [SymOk] at r
  | e :: l, b :: s, t, h, r => by
    simp only [SymOk, List.map_cons, List.cons.injEq] at r
    unfold constL at h
    split at h <;> simp only [Option.some.injEq, reduceCtorEq] at h
    rename_i b' s' hb hs
    subst h
    have h1 := constB_val hb c.V.ρ
    rw [← r.1] at h1
    have h2 : b = b' := by
      apply UInt8.toNat_inj.1
      omega
    rw [h2, constL_ok hs r.2]
def mkSym (l : List (List Int)) : AV := match constL l with
  | some s => .str s
  | none => .sym l
theorem mkSym_rel {s : List UInt8} {l : List (List Int)} (r : SymOk c s l) : Rel c (mkSym l) (.string ⟨s.toArray⟩) := by
  unfold mkSym
  split
  · rename_i t ht; rw [constL_ok ht r]; rfl
  · exact ⟨s, rfl, r⟩
theorem SymOk.length {s : List UInt8} {l : List (List Int)} (r : SymOk c s l) : s.length = l.length := by simpa using congrArg List.length r
theorem SymOk.append {s t : List UInt8} {l m : List (List Int)} (r : SymOk c s l) (q : SymOk c t m) : SymOk c (s ++ t) (l ++ m) := by
  unfold SymOk at *
  rw [List.map_append, List.map_append, r, q]
theorem SymOk.take {s : List UInt8} {l : List (List Int)} (r : SymOk c s l) (n : Nat) : SymOk c (s.take n) (l.take n) := by
  unfold SymOk at *
  rw [List.map_take, List.map_take, r]
theorem SymOk.drop {s : List UInt8} {l : List (List Int)} (r : SymOk c s l) (n : Nat) : SymOk c (s.drop n) (l.drop n) := by
  unfold SymOk at *
  rw [List.map_drop, List.map_drop, r]
theorem SymOk.get {s : List UInt8} {l : List (List Int)} (r : SymOk c s l) {i : Nat} {e : List Int} (hi : l[i]? = some e) : ∃ b, s[i]? = some b ∧ (b.toNat : Int) = linV c.V.ρ e := by
  have := congrArg (·[i]?) r
  simp only [List.getElem?_map, hi, Option.map_some, Option.map_eq_some_iff] at this
  exact this
/-- Are two texts the same? -/
def symEq : List (List Int) → List (List Int) → Option Bool
  | [], [] => some true
  | [], _ :: _ => some false
  | _ :: _, [] => some false
  | e :: a, f :: b => match cmpE .eql e f with
    | some false => some false
    | r => match symEq a b with
      | some false => some false
      | some true => r
      | none => none
theorem symEq_ok : ∀ {a b : List (List Int)} {s t : List UInt8} {r : Bool}, symEq a b = some r → SymOk c s a → SymOk c t b → (s == t) = r
  | [], [], s, t, r, h, p, q => by
    simp [symEq] at h
    have := p.length
    have := q.length
    simp at *
    subst h
    simp [*]
  | [], _ :: _, s, t, r, h, p, q => by
    simp [symEq] at h
    subst h
    have h1 := p.length
    have h2 := q.length
    rw [beq_eq_false_iff_ne]
    rintro rfl
    simp at h1 h2
    simp [h1] at h2
  | _ :: _, [], s, t, r, h, p, q => by
    simp [symEq] at h
    subst h
    have h1 := p.length
    have h2 := q.length
    rw [beq_eq_false_iff_ne]
    rintro rfl
    simp at h1 h2
    simp [h2] at h1
  | e :: a, f :: b, [], _, _, _, p, _ => by have := p.length; simp at this
  | e :: a, f :: b, _ :: _, [], _, _, _, q => by have := q.length; simp at this
  | e :: a, f :: b, x :: s, y :: t, r, h, p, q => by
    simp only [SymOk, List.map_cons, List.cons.injEq] at p q
    obtain ⟨p1, p2⟩ := p
    obtain ⟨q1, q2⟩ := q
    have hd : ∀ r', cmpE .eql e f = some r' → (x == y) = r' := by
      intro r' h'
      have := cmpE_cmpI c.V h'
      simp only [cmpI, Option.some.injEq] at this
      rw [← p1, ← q1] at this
      rw [← this, Bool.eq_iff_iff]
      simp only [beq_iff_eq]
      exact ⟨fun e => by rw [e], fun e => UInt8.toNat_inj.1 (by omega)⟩
    rw [List.cons_beq_cons]
    unfold symEq at h
    split at h
    · rename_i h'
      simp only [Option.some.injEq] at h
      rw [← h, hd _ h', Bool.false_and]
    · split at h
      · rename_i h'
        simp only [Option.some.injEq] at h
        rw [← h, symEq_ok h' p2 q2, Bool.and_false]
      · rename_i h'
        rw [symEq_ok h' p2 q2, Bool.and_true]
        exact hd _ h
      · cases h
def symBin (op : BinOp) (x y : AV) : Option AV := match aSym x, aSym y with
  | some a, some b => match op with
    | .add => if a.length + b.length ≤ 9223372036854775807 then some (mkSym (a ++ b)) else none
    | .eql => (symEq a b).map .bool
    | .neq => (symEq a b).map fun r => .bool !r
    | _ => none
  | _, _ => none
theorem guardEq_sym {t : TypeId} {lit : Bool} {x y : AV} {l l' : List (List Int)} (hx : aSym x = some l) (hy : aSym y = some l') : aGuardEq P t lit x y = true := by
  cases x <;> simp only [aSym, reduceCtorEq] at hx <;> cases y <;> simp only [aSym, reduceCtorEq] at hy <;> rfl
theorem run_symBin {op : BinOp} {t : TypeId} {a b : Operand} {x y v : AV} {u q : Value} (h : symBin op x y = some v) (rx : Rel c x u) (ry : Rel c y q) (w : World) :
    ∃ v', (eqGuard op t a b u q >>= fun _ => binOp op t u q).run P w = .ok v' w ∧ Rel c v v' := by
  unfold symBin at h
  split at h <;> try (cases h; done)
  rename_i la lb ha hb
  have hg := run_eqGuard (P := P) (op := op) (t := t) (a := a) (b := b) (guardEq_sym ha hb) rx ry w
  obtain ⟨s, rfl, ps⟩ := aSym_rel ha rx
  obtain ⟨s', rfl, ps'⟩ := aSym_rel hb ry
  have main : ∃ v', (binOp op t (.string ⟨s.toArray⟩) (.string ⟨s'.toArray⟩)).run P w = .ok v' w ∧ Rel c v v' := by
    split at h
    · split at h <;> simp only [Option.some.injEq, reduceCtorEq] at h
      subst h
      rename_i hl
      have := ps.length
      have := ps'.length
      obtain ⟨v', h1, h2⟩ := run_strOp (P := P) (c := c) (op := .add) (x := s) (y := s') (v := .str (s ++ s')) (by simp only [aStr]; rw [if_pos (by omega)]) t w
      simp only [Rel] at h2
      subst h2
      exact ⟨_, h1, mkSym_rel (ps.append ps')⟩
    · rw [Option.map_eq_some_iff] at h
      obtain ⟨r, h1, rfl⟩ := h
      exact run_strOp (P := P) (c := c) (op := .eql) (x := s) (y := s') (v := .bool r) (by simp only [aStr]; rw [symEq_ok h1 ps ps']) t w
    · rw [Option.map_eq_some_iff] at h
      obtain ⟨r, h1, rfl⟩ := h
      exact run_strOp (P := P) (c := c) (op := .neq) (x := s) (y := s') (v := .bool !r) (by simp only [aStr]; rw [symEq_ok h1 ps ps']) t w
    · cases h
  obtain ⟨v', h1, h2⟩ := main
  exact ⟨v', by simp only [Sem.run_bind, hg, Result.andThen_ok, h1], h2⟩

def symIndex (P : Program) (t : TypeId) (x i : AV) : Option AV := match P.underlying t with
  | some .string => match x, i with
    | .sym l, .int _ i => if 0 ≤ i then match l[i.toNat]? with
      | some e => some (mkLin .u8 e)
      | none => none else none
    | _, _ => none
  | _ => none
theorem run_symIndex {t : TypeId} {x i v : AV} {u j : Value} (hs : symIndex P t x i = some v) (r : Rel c x u) (ri : Rel c i j) (w : World) : ∃ v', (Instr.index t u j).run P w = .ok v' w ∧ Rel c v v' := by
  unfold symIndex at hs
  split at hs <;> try (cases hs; done)
  rename_i hu
  split at hs <;> try (cases hs; done)
  rename_i l k i
  split at hs <;> try (cases hs; done)
  rename_i hi
  split at hs <;> simp only [Option.some.injEq, reduceCtorEq] at hs
  rename_i e he
  subst hs
  obtain ⟨s, rfl, ps⟩ := r
  have ps : SymOk c s l := ps
  obtain ⟨b, hb, hv⟩ := ps.get he
  have hlt := (List.getElem?_eq_some_iff.1 hb).1
  obtain ⟨v', h1, h2⟩ := run_aIndex (P := P) (c := c) (t := t) (x := .str s) (i := .int k i) (v := .int .u8 (s.getD i.toNat 0).toNat) (by simp only [aIndex, hu]; rw [if_pos (by omega)]) rfl ri w
  refine ⟨v', h1, ?_⟩
  simp only [Rel] at h2
  subst h2
  have : s.getD i.toNat 0 = b := by rw [List.getD, hb]; rfl
  rw [this, hv]
  exact mkLin_rel c .u8 e

def symSlice (P : Program) (t : TypeId) (x : AV) (lo hi mx : Option AV) : Option AV := match P.underlying t with
  | some .string => match x with
    | .sym s => if mx.isSome then none else match aBounds s.length s.length lo hi none with
      | some (l, h, _) => some (mkSym ((s.take h).drop l))
      | none => none
    | _ => none
  | _ => none
theorem run_symSlice {t : TypeId} {x v : AV} {u : Value} {lo hi mx : Option AV} (hs : symSlice P t x lo hi mx = some v) (r : Rel c x u) {lo' hi' mx' : Option Value}
    (rl : RelO c lo lo') (rh : RelO c hi hi') (rm : RelO c mx mx') (w : World) : ∃ v', (Instr.sliceAt t u lo' hi' mx').run P w = .ok v' w ∧ Rel c v v' := by
  unfold symSlice at hs
  split at hs <;> try (cases hs; done)
  rename_i hu
  split at hs <;> try (cases hs; done)
  rename_i l
  split at hs <;> try (cases hs; done)
  rename_i hm
  split at hs <;> simp only [Option.some.injEq, reduceCtorEq] at hs
  rename_i a b m hb
  subst hs
  obtain ⟨s, rfl, ps⟩ := r
  have ps : SymOk c s l := ps
  obtain ⟨v', h1, h2⟩ := run_aSlice (P := P) (c := c) (t := t) (x := .str s) (v := .str ((s.take b).drop a)) (lo := lo) (hi := hi) (mx := mx) (by
    simp only [aSlice, hu]
    rw [if_neg hm, ps.length, hb]) rfl rl rh rm w
  refine ⟨v', h1, ?_⟩
  simp only [Rel] at h2
  subst h2
  exact mkSym_rel ((ps.take b).drop a)

def symLen (P : Program) (t : TypeId) (x : AV) : Option AV := match P.underlying t with
  | some .string => match x with
    | .sym l => some (.int .i64 (l.length : Nat))
    | _ => none
  | _ => none
theorem run_symLen {t ty : TypeId} {x v : AV} {u : Value} {ts : Array TypeId} {us : Array Value} (ht : ts[0]? = some t) (hus : us[0]? = some u) (hs : symLen P t x = some v) (r : Rel c x u) (w : World) :
    ∃ v', (Builtin.len_ ts ty us).run P w = .ok v' w ∧ Rel c v v' := by
  unfold symLen at hs
  split at hs <;> try (cases hs; done)
  rename_i hu
  split at hs <;> simp only [Option.some.injEq, reduceCtorEq] at hs
  rename_i l
  subst hs
  obtain ⟨s, rfl, ps⟩ := r
  have ps : SymOk c s l := ps
  exact run_aLen (P := P) (c := c) (x := .str s) ht hus (by simp only [aLen, hu]; rw [ps.length]) rfl w

/-- Cells that are bytes. -/
def symOf : List AV → Option (List (List Int))
  | [] => some []
  | x :: xs => match aNum x, symOf xs with
    | some (.u8, e), some l => if 0 ≤ loV e ∧ hiV e < 256 then some (e :: l) else none
    | _, _ => none
theorem symOf_rel : ∀ {xs : List AV} {l : List (List Int)} {vs : List Value}, symOf xs = some l → RelL c xs vs → ∃ ns : List Int, vs = ns.map (Value.int .u8) ∧ SymOk c (ns.map fun n => UInt8.ofNat n.toNat) l
  | [], l, _, h, r => by cases r; simp [symOf] at h; subst h; exact ⟨[], rfl, rfl⟩
  | x :: xs, l, _, h, ⟨y, ys, e1, r, rs⟩ => by
    subst e1
    unfold symOf at h
    split at h <;> try (cases h; done)
    rename_i e l' hx hl
    split at h <;> simp only [Option.some.injEq, reduceCtorEq] at h
    rename_i hb
    subst h
    have hy := aNum_rel hx r
    subst hy
    obtain ⟨ns, rfl, ps⟩ := symOf_rel hl rs
    refine ⟨linV c.V.ρ e :: ns, rfl, ?_⟩
    unfold SymOk at *
    simp only [List.map_cons, List.cons.injEq]
    refine ⟨?_, ps⟩
    have := linV_bound c.V e
    have : (linV c.V.ρ e).toNat % 256 = (linV c.V.ρ e).toNat := Nat.mod_eq_of_lt (by omega)
    simp [UInt8.toNat_ofNat', this]
    omega
/-- Texts to bytes, bytes to texts, texts to texts. -/
def symConv (P : Program) (h : Heap) (src dst : TypeId) (x : AV) : Option (AV × Heap) := match P.underlying src, P.underlying dst with
  | some .string, some (.slice e) => match P.underlying e, x with
    | some (.int .u8), .sym l => if l.length ≤ 9223372036854775807 then some (.gsl h.length l.length 1, h ++ [some (.row (scells l) e false)]) else none
    | _, _ => none
  | some .string, some .string => match x with
    | .sym l => some (.sym l, h)
    | _ => none
  | some (.slice e), some .string => match P.underlying e, lenOfA x with
    | some (.int .u8), some n => match readSl h 1 x n with
      | some cs => match x with
        | .str _ => none
        | .sym _ => none
        | _ => (symOf cs).map fun l => (mkSym l, h)
      | none => none
    | _, _ => none
  | _, _ => none
end
end Go.AH
namespace Go.AH
open Go
set_option linter.unusedVariables false
set_option linter.unusedSimpArgs false
section
variable {P : Program} {F : Fr} {β : Nat → Nat} {w : World} {h : Heap}
/-- A block is given up: the world may have changed it. -/
theorem St.drop (s : St F β w h) {id : Nat} {blk : Blk} (hid : h[id]? = some (some blk)) (w' : World) (step0 : Step (fun b => b = β id) w w' (fun _ => False)) : Goes F β w h β w' (h.set id none) := by
  have get : ∀ i b, (h.set id none)[i]? = some (some b) → i ≠ id ∧ h[i]? = some (some b) := by
    intro i b hb
    rw [List.getElem?_set] at hb
    split at hb
    · split at hb <;> simp at hb
    · rename_i hne
      exact ⟨fun q => hne q.symm, hb⟩
  have sub : ∀ b, Own β (h.set id none) b → Own β h b ∧ b ≠ β id := by
    rintro b ⟨i, blk', hi, rfl⟩
    obtain ⟨h1, h2⟩ := get i blk' hi
    exact ⟨⟨i, blk', h2, rfl⟩, fun q => h1 (s.inj _ _ _ _ h2 hid q)⟩
  have st : Step (Own β h) w w' (Own β (h.set id none)) := ⟨step0.os, step0.tape, step0.output, step0.size, fun b hb hO => step0.keep b hb fun q => hO ⟨id, blk, hid, q.symm⟩, step0.shape, fun b q => .inl (sub b q).1⟩
  have hlen : (h.set id none).length = h.length := List.length_set
  have le := s.leOf (β' := β) (h' := h.set id none) st (by rw [hlen]; exact Nat.le_refl _) (fun _ _ => rfl)
  refine ⟨⟨fun i b hi => ?_, fun i j bi bj hi hj q => s.inj _ _ _ _ (get i bi hi).2 (get j bj hj).2 q, fun b hF q => s.sep b hF (sub b q).1, fun b hb => Nat.lt_of_lt_of_le (s.flt b hb) step0.size, fun i hi => Nat.lt_of_lt_of_le (s.lt i (by rw [hlen] at hi; exact hi)) step0.size, s.gl.step st⟩, st, by rw [hlen]; exact Nat.le_refl _, fun _ _ => rfl⟩
  obtain ⟨h1, h2⟩ := get i b hi
  obtain ⟨o, ho, hrel⟩ := s.live i b h2
  refine ⟨o, ?_, BlkRel.le le hrel⟩
  rw [step0.keep (β i) (s.lt i (by have := (List.getElem?_eq_some_iff.1 h2).1; exact this)) fun q => h1 (s.inj _ _ _ _ h2 hid q)]
  exact ho
theorem symOf_rel' {c : Ctx} : ∀ {xs : List AV} {l : List (List Int)} {vs : List Value}, symOf xs = some l → RelL c xs vs → ∃ ns : List Int, vs = ns.map (Value.int .u8) ∧ SymOk c (ns.map fun n => UInt8.ofNat n.toNat) l ∧ ∀ n ∈ ns, 0 ≤ n ∧ n < 256
  | [], l, _, h, r => by cases r; simp [symOf] at h; subst h; exact ⟨[], rfl, rfl, by simp⟩
  | x :: xs, l, _, h, ⟨y, ys, e1, r, rs⟩ => by
    subst e1
    unfold symOf at h
    split at h <;> try (cases h; done)
    rename_i e l' hx hl
    split at h <;> simp only [Option.some.injEq, reduceCtorEq] at h
    rename_i hb
    subst h
    obtain ⟨ns, e2, e3, e4⟩ := symOf_rel' hl rs
    have ex := aNum_rel hx r
    have bd := linV_bound c.V e
    subst e2
    refine ⟨linV c.V.ρ e :: ns, by rw [ex]; rfl, ?_, ?_⟩
    · unfold SymOk at *
      rw [List.map_cons, List.map_cons, List.map_cons, e3]
      congr 1
      have e0 : (UInt8.ofNat (linV c.V.ρ e).toNat).toNat = (linV c.V.ρ e).toNat % 256 := by simp
      rw [e0]; omega
    · intro n hn
      rcases List.mem_cons.1 hn with rfl | hn
      · omega
      · exact e4 n hn
def aSliceData : AV → Option AV
  | .nilsl => some .nilp
  | .gsl id len _ => if 0 < len then some (.ptr id 0) else none
  | .sl id off len _ => if 0 < len then some (.ptr id off) else none
  | _ => none
theorem run_aSliceData {c : Ctx} {x v : AV} {u : Value} (hs : aSliceData x = some v) (r : Rel c x u) (ts : Array TypeId) (ty : TypeId) (w : World) : ∃ v', (Builtin.unsafeSliceData_ ts ty #[u]).run P w = .ok v' w ∧ Rel c v v' := by
  unfold aSliceData at hs
  split at hs
  · cases hs
    have : u = .slice none 0 0 := r
    subst this
    exact ⟨_, Lib.run_unsafeSliceData_nil w ts ty 0 0, rfl⟩
  · rename_i id len esz
    split at hs <;> simp only [Option.some.injEq, reduceCtorEq] at hs
    subst hs
    obtain ⟨h1, cap', e, rfl, h2, h3⟩ := r
    exact ⟨_, Lib.run_unsafeSliceData_row w ts ty _ _ _ (by omega), h1, rfl⟩
  · rename_i id off len cap
    split at hs <;> simp only [Option.some.injEq, reduceCtorEq] at hs
    subst hs
    obtain ⟨h1, o, cap', rfl, h2, h3, _⟩ := r
    have : o = off := by rcases h2 with q | q; exact q; omega
    subst this
    exact ⟨_, Lib.run_unsafeSliceData_row w ts ty _ _ _ (by omega), h1, rfl⟩
  · cases hs
def aUnsafeStr (P : Program) (h : Heap) (ts : List TypeId) (x n : AV) : Option (AV × Heap) := match ts, x, n with
  | [pt, _], .ptr id 0, .int .i64 m => if 0 < m ∧ m ≤ 9223372036854775807 then match P.underlying pt, rowAt h id with
    | some (.pointer e), some (cs, e', _) => if e' = e ∧ P.cellsOf e = 1 then match cut cs 0 m.toNat with
      | some ds => match symOf ds with
        | some l => some (mkSym l, h.set id none)
        | none => none
      | none => none else none
    | _, _ => none else none
  | [_, _], .nilp, .int .i64 m => if m = 0 then some (.str [], h) else none
  | _, _, _ => none
theorem run_aUnsafeStr (s : St F β w h) {ts : List TypeId} {ty : TypeId} {x n v : AV} {u q : Value} {h' : Heap} (ha : aUnsafeStr P h ts x n = some (v, h')) (rx : Rel (ctx F β w h) x u) (rn : Rel (ctx F β w h) n q) :
    VOk F β w h ((Builtin.unsafeString_ ts.toArray ty #[u, q]).run P w) v h' := by
  unfold aUnsafeStr at ha
  split at ha
  · rename_i pt it id m
    split at ha <;> try (cases ha; done)
    rename_i hm
    split at ha <;> try (cases ha; done)
    rename_i e cs e' wh hu hrow
    split at ha <;> try (cases ha; done)
    rename_i he
    obtain ⟨rfl, hce⟩ := he
    split at ha <;> try (cases ha; done)
    rename_i ds hcut
    split at ha <;> simp only [Option.some.injEq, Prod.mk.injEq, reduceCtorEq] at ha
    rename_i l hl
    obtain ⟨rfl, rfl⟩ := ha
    obtain ⟨hid, rfl⟩ := rx
    have : q = .int .i64 m := rn
    subst this
    obtain ⟨hb, _, vs, fz, ho, ⟨ys, zs, e1, r, _⟩, _, _⟩ := s.rowOf hrow
    obtain ⟨c1, c2, c3⟩ := cut_len hcut
    have rds : RelL (ctx F β w h) ds (ys.take m.toNat) := by
      rw [c3, List.drop_zero]
      exact r.take _
    obtain ⟨ns, hns, hsym, hbd⟩ := symOf_rel' hl rds
    have hlen : (ns.map fun n => UInt8.ofNat n.toNat).length = m.toNat := by
      have h1 := congrArg List.length hns
      have h2 := rds.length
      simp only [List.length_map] at h1 ⊢
      omega
    have hnsb : ∀ (j : Nat) (n : Int), ns[j]? = some n → ((UInt8.ofNat n.toNat).toNat : Int) = n := by
      intro j n hj
      have := hbd n (List.mem_of_getElem? hj)
      have e0 : (UInt8.ofNat n.toNat).toNat = n.toNat % 256 := by simp
      rw [e0]; omega
    have hsh : w.shape? (β id) = some (e', vs.size) := by simp only [World.shape?, ho]
    have hsz : m.toNat ≤ vs.size := by
      have h2 := rds.length
      have h3 := congrArg List.length e1
      rw [c1, List.length_take] at h2
      rw [Array.length_toList, List.length_append] at h3
      omega
    have hrun := Lib.run_unsafeString_row (P := P) w pt it ty e' hu hce (β id) vs.size hsh (ns.map fun n => UInt8.ofNat n.toNat) (by intro q; rw [q] at hlen; simp at hlen; omega) (by omega) (by omega) (fun j x hj => by
      have hjl : j < m.toNat := by rw [← hlen]; exact (List.getElem?_eq_some_iff.1 hj).1
      rw [List.getElem?_map, Option.map_eq_some_iff] at hj
      obtain ⟨n, hn, rfl⟩ := hj
      have e2 : (⟨β id, 0, none⟩ : Addr).add j = ⟨β id, j, none⟩ := by unfold Addr.add; split <;> simp_all
      rw [e2]
      simp only [World.cell?, ho]
      have h1 : (ys.take m.toNat)[j]? = some (Value.int .u8 n) := by rw [hns, List.getElem?_map, hn]; rfl
      rw [List.getElem?_take_of_lt hjl] at h1
      have h2 : vs[j]? = some (Value.int .u8 n) := by rw [← Array.getElem?_toList, e1, List.getElem?_append_left (List.getElem?_eq_some_iff.1 h1).1]; exact h1
      have h3 : n = ((UInt8.ofNat n.toNat).toNat : Int) := (hnsb j n hn).symm
      simp only [Option.isSome_none, Bool.false_eq_true, if_false]
      rw [h2, ← h3])
    have hm2 : (((ns.map fun n => UInt8.ofNat n.toNat).length : Nat) : Int) = m := by omega
    rw [hm2] at hrun
    have g := s.drop hb (w.freeze ⟨β id, 0, none⟩ (ns.map fun n => UInt8.ofNat n.toNat).length) (by
      have hk : ∀ b, b ≠ β id → (w.freeze ⟨β id, 0, none⟩ (ns.map fun n => UInt8.ofNat n.toNat).length).heap[b]? = w.heap[b]? := by
        intro b hb
        unfold World.freeze
        split
        · rfl
        · simp only [Array.getElem?_modify]
          rw [if_neg (fun q => hb q.symm)]
      refine ⟨?_, ?_, ?_, ?_, fun b _ hO => hk b hO, fun b _ => ?_, fun b q => q.elim⟩
      · unfold World.freeze; split <;> rfl
      · unfold World.freeze; split <;> rfl
      · unfold World.freeze; split <;> rfl
      · unfold World.freeze; split <;> simp
      · by_cases q : b = β id
        · subst q
          unfold World.freeze
          split
          · rfl
          · simp only [World.shape?, Array.getElem?_modify, if_true, ho, Option.map_some]
        · simp only [World.shape?, hk b q])
    exact ⟨_, _, _, hrun, g, mkSym_rel (show SymOk _ _ l from hsym)⟩
  · rename_i a b m
    split at ha <;> simp only [Option.some.injEq, Prod.mk.injEq, reduceCtorEq] at ha
    rename_i hm
    obtain ⟨rfl, rfl⟩ := ha
    have h1 : u = .pointer none := rx
    have h2 : q = .int .i64 m := rn
    subst h1 h2 hm
    exact ⟨_, w, β, Lib.run_unsafeString_none w _ _ _ none, Goes.refl s, rfl⟩
  · cases ha
/-- A pointer as an unsafe pointer, and back. -/
def aPtrConv (P : Program) (h : Heap) (src dst : TypeId) (x : AV) : Option AV := match x with
  | .ptr id off => match rowAt h id with
    | some (cs, e, wh) => match P.underlying src, P.underlying dst with
      | some (.pointer t), some .unsafePointer => match P.info? t with
        | some j => if j.size ≠ 0 ∧ off < cs.length then some x else none
        | none => none
      | some .unsafePointer, some (.pointer u) => match P.info? u with
        | some _ => if wh = true ∧ liesAt P P.depth e (cs.length / P.cellsOf e) off u 1 = true then some x else none
        | none => none
      | _, _ => none
    | none => none
  | _ => none
theorem run_aPtrConv (s : St F β w h) {src dst : TypeId} {x v : AV} {u : Value} (ha : aPtrConv P h src dst x = some v) (r : Rel (ctx F β w h) x u) : ∃ v', (convert src dst u).run P w = .ok v' w ∧ Rel (ctx F β w h) v v' := by
  unfold aPtrConv at ha
  split at ha <;> try (cases ha; done)
  rename_i id off
  split at ha <;> try (cases ha; done)
  rename_i cs e wh hrow
  obtain ⟨hid, rfl⟩ := r
  obtain ⟨_, _, vs, fz, ho, ⟨ys, zs, e1, rr, hz⟩, _, hle⟩ := s.rowOf hrow
  have hsh : w.shape? (β id) = some (e, vs.size) := by simp only [World.shape?, ho]
  split at ha
  · rename_i t hu hv
    split at ha <;> try (cases ha; done)
    rename_i j hj
    split at ha <;> simp only [Option.some.injEq, reduceCtorEq] at ha
    rename_i hc
    subst ha
    exact ⟨_, Lib.run_to_unsafe w ⟨β id, off, none⟩ hu hv hj hc.1 hsh (Nat.lt_of_lt_of_le hc.2 hle), hid, rfl⟩
  · rename_i t hu hv
    split at ha <;> try (cases ha; done)
    rename_i j hj
    split at ha <;> simp only [Option.some.injEq, reduceCtorEq] at ha
    rename_i hc
    subst ha
    have hz' := hz hc.1
    have hlen : vs.size = cs.length := by
      have h1 := congrArg List.length e1
      rw [hz', List.append_nil, Array.length_toList] at h1
      rw [h1, rr.length]
    exact ⟨_, Lib.run_from_unsafe w ⟨β id, off, none⟩ hu hv hj hsh (by rw [hlen]; exact hc.2), hid, rfl⟩
  · cases ha
def aNotB : UnOp → AV → Option AV
  | .not, .anyb => some .anyb
  | _, _ => none
/-- A pointer held against itself. -/
def aPtrSame (P : Program) (op : BinOp) (t : TypeId) (x y : AV) : Option AV := match op, x, y with
  | .neq, .ptr i o, .ptr j o' => match P.underlying t with
    | some (.pointer te) => if i = j ∧ o = o' ∧ (P.info? te).isSome = true then some (.bool false) else none
    | _ => none
  | _, _, _ => none
theorem run_aPtrSame {c : Ctx} {op : BinOp} {t : TypeId} {a b : Operand} {x y v : AV} {u q : Value} (h : aPtrSame P op t x y = some v) (rx : Rel c x u) (ry : Rel c y q) (w : World) :
    ∃ v', (eqGuard op t a b u q >>= fun _ => binOp op t u q).run P w = .ok v' w ∧ Rel c v v' := by
  unfold aPtrSame at h
  split at h <;> try (cases h; done)
  rename_i i o j o'
  split at h <;> try (cases h; done)
  rename_i te hu
  split at h <;> simp only [Option.some.injEq, reduceCtorEq] at h
  rename_i hc
  obtain ⟨rfl, rfl, hi⟩ := hc
  subst h
  have hg := run_eqGuard (P := P) (op := .neq) (t := t) (a := a) (b := b) (x := .ptr i o) (y := .ptr i o) rfl rx ry w
  obtain ⟨_, rfl⟩ := rx
  obtain ⟨_, rfl⟩ := ry
  obtain ⟨jj, hj⟩ := Option.isSome_iff_exists.1 hi
  exact ⟨.bool false, by simp only [Sem.run_bind, hg, Result.andThen_ok, Lib.run_neq_ptr_same w _ hu hj], rfl⟩
end
end Go.AH
namespace Go.AH
open Go
set_option linter.unusedVariables false
set_option linter.unusedSimpArgs false
section
variable {P : Program} {F : Fr} {β : Nat → Nat} {w : World} {h : Heap}
/-- append of so many zeros: it grows. -/
theorem run_appz_grows (t tn ty e : TypeId) (kn k : IntKind) (i : TypeInfo) (z : Value) (ht : P.underlying t = some (.slice e)) (htn : P.underlying tn = some (.int kn)) (hi : P.info? e = some i) (hz : i.zero = some z)
    (base : Option Addr) (sLen sCap n : Nat) (olds : Array Value) (h0 : 0 < n) (hs : 0 < i.size)
    (ho : (Builtin.firstCells i.size sLen (.slice base sLen sCap)).run P w.drew = .ok olds w.drew)
    (hg : sCap < sLen + n) (h63 : sLen + n ≤ 9223372036854775807) (hfit : (sLen + n) * i.bytes ≤ 140737488355328) :
    (Builtin.append_ #[t, tn] ty #[.slice base sLen sCap, .int k n]).run P w =
      .ok (.slice (some ⟨w.heap.size, 0, none⟩) (sLen + n) (grownCap w (sLen + n) sCap e)) (w.drew.alloc (.cells (olds ++ Builtin.zeroCells z.cells n ++ Builtin.zeroCells z.cells (grownCap w (sLen + n) sCap e - (sLen + n))) e)) := by
  have h1 : ¬ (sLen + n ≤ sCap) := by omega
  have h2 : ¬ (9223372036854775807 < ((sLen : Int) + (n : Int))) := by omega
  have h3 := growslice_fits hg hfit
  have h4 : ¬ (281474976710656 < Builtin.nextslicecap (sLen + n) sCap * i.bytes) := by omega
  have hw : IntKind.i64.wrap (n : Int) = n := by rw [IntKind.wrap_i64]; omega
  have hneg : ¬ ((n : Int) < 0) := by omega
  have hle : n * i.bytes ≤ (sLen + n) * i.bytes := Nat.mul_le_mul_right _ (by omega)
  have h48i : ¬ (281474976710656 < (n : Int) * (i.bytes : Int)) := by
    rw [← Int.natCast_mul]; omega
  have hns : n * i.size ≠ 0 := by
    intro q
    rcases Nat.mul_eq_zero.1 q with q | q <;> omega
  have hn0 : n ≠ 0 := by omega
  have hs0 : i.size ≠ 0 := by omega
  simp [Builtin.append_, run_underlying ht, run_underlying htn, sizeOf, typeInfo, zeroValue, hi, hz, Question.forced, newRow, grownCap, asInt, asIntOf, hw, hneg, h48i, hns, h1, h2, h4, ho, hn0, hs0]
def aAppZ (P : Program) (h : Heap) (t tn : TypeId) (x n : AV) : Option (AV × Heap) := match P.underlying t, P.underlying tn with
  | some (.slice e), some (.int _) => match tsz P e, tbytes P e, zeroCellsOf P e with
    | some sz, some by_, some z => match x, n with
      | .sl id off len (some cap), .int _ m => if 0 < m ∧ 0 < sz ∧ z.length = sz ∧ cap < len + m.toNat ∧ len + m.toNat ≤ 9223372036854775807 ∧ (len + m.toNat) * by_ ≤ 140737488355328 ∧ 0 < len then match readSl h sz x len with
        | some olds => some (.gsl h.length (len + m.toNat) sz, h ++ [some (.row (olds ++ List.replicate (m.toNat * sz) .unk) e false)])
        | none => none
      else if 0 < m ∧ 0 < sz ∧ z.length = sz ∧ cap < len + m.toNat ∧ m.toNat ≤ 9223372036854775807 ∧ m.toNat * by_ ≤ 140737488355328 ∧ len = 0 then some (.gsl h.length m.toNat sz, h ++ [some (.row (List.replicate (m.toNat * sz) .unk) e false)])
      else none
      | _, _ => none
    | _, _, _ => none
  | _, _ => none
theorem run_aAppZ (s : St F β w h) {t tn ty : TypeId} {x n v : AV} {u q : Value} {h' : Heap} (ha : aAppZ P h t tn x n = some (v, h')) (rx : Rel (ctx F β w h) x u) (rn : Rel (ctx F β w h) n q) :
    VOk F β w h ((Builtin.append_ #[t, tn] ty #[u, q]).run P w) v h' := by
  unfold aAppZ at ha
  split at ha <;> try (cases ha; done)
  rename_i e kn hu hun
  split at ha <;> try (cases ha; done)
  rename_i sz by_ z hsz hby hz
  split at ha <;> try (cases ha; done)
  rename_i id off len cap k m
  obtain ⟨i, zv, hi, hzv, rz⟩ := zeroCells_rel (c := ctx F β w h) hz
  have hsz' : i.size = sz := by unfold tsz at hsz; simpa [hi] using hsz
  have hby' : i.bytes = by_ := by unfold tbytes at hby; simpa [hi] using hby
  have eq : q = .int k m := rn
  subst eq
  obtain ⟨hid, o, cap', rfl, hoff, hlc, hcx⟩ := rx
  obtain rfl := hcx cap rfl
  have g0 := s.drew w.drew rfl rfl rfl rfl
  have le0 := g0.le s
  split at ha
  · rename_i hc
    obtain ⟨c1, c2, c3, c4, c5, c6, c7⟩ := hc
    split at ha <;> simp only [Option.some.injEq, Prod.mk.injEq, reduceCtorEq] at ha
    rename_i olds hol
    obtain ⟨rfl, rfl⟩ := ha
    have hzs : zv.cells.size = sz := by have := rz.length; simpa [c3] using this.symm
    have rx2 : Rel (ctx F β w.drew h) (.sl id off len (some cap')) (.slice (some ⟨β id, o, none⟩) len cap') := Rel.le le0 _ _ ⟨hid, o, cap', rfl, hoff, hlc, hcx⟩
    obtain ⟨oldv, hfc, rold, hold⟩ := run_readSl (P := P) g0.st hol rfl (fun l hl => by simp [lenOfA] at hl; omega) rx2
    have hm : (m.toNat : Int) = m := by omega
    have hr := run_appz_grows (P := P) (w := w) t tn ty e kn k i zv hu hun hi hzv (some ⟨β id, o, none⟩) len cap' m.toNat oldv (by omega) (by omega) (by rw [hsz']; exact hfc) c4 c5 (by rw [hby']; exact c6)
    rw [hm] at hr
    have hcap := grownCap_ge w (len + m.toNat) cap' e
    have hos : oldv.size = len * sz := by have := rold.length; simp at this; omega
    have hzc : (Builtin.zeroCells zv.cells m.toNat).size = m.toNat * sz := by rw [size_zeroCells, hzs]
    refine ⟨_, _, _, hr, s.made _ (.row (olds ++ List.replicate (m.toNat * sz) .unk) e false) ⟨_, (0, 0), rfl, ⟨oldv.toList ++ (Builtin.zeroCells zv.cells m.toNat).toList, (Builtin.zeroCells zv.cells (grownCap w (len + m.toNat) cap' e - (len + m.toNat))).toList, by simp [Array.toList_append], rold.append (by
      have := relL_unk (c := ctx F β w.drew h) (Builtin.zeroCells zv.cells m.toNat).toList
      rwa [Array.length_toList, hzc] at this), by simp⟩, by simp⟩, ?_⟩
    refine ⟨by simp, grownCap w (len + m.toNat) cap' e, e, by simp, hcap, ?_⟩
    simp only [if_pos, World.shape?, show (w.drew.alloc _).heap[w.heap.size]? = some _ from heap_alloc_new w.drew _]
    rw [size_grown (len := len) (m := m.toNat) (sz := sz) hos hzc hzs hcap]
  · split at ha <;> simp only [Option.some.injEq, Prod.mk.injEq, reduceCtorEq] at ha
    rename_i hc
    obtain ⟨c1, c2, c3, c4, c5, c6, rfl⟩ := hc
    obtain ⟨rfl, rfl⟩ := ha
    have hzs : zv.cells.size = sz := by have := rz.length; simpa [c3] using this.symm
    have hm : (m.toNat : Int) = m := by omega
    have hr := run_appz_grows (P := P) (w := w) t tn ty e kn k i zv hu hun hi hzv (some ⟨β id, o, none⟩) 0 cap' m.toNat #[] (by omega) (by omega) (by simp [Builtin.firstCells, loadCells, loadCellsFrom]) c4 (by omega) (by rw [hby', Nat.zero_add]; exact c6)
    rw [hm] at hr
    have hcap := grownCap_ge w (0 + m.toNat) cap' e
    have hzc : (Builtin.zeroCells zv.cells m.toNat).size = m.toNat * sz := by rw [size_zeroCells, hzs]
    simp only [Nat.zero_add] at hr hcap
    refine ⟨_, _, _, hr, s.made _ (.row (List.replicate (m.toNat * sz) .unk) e false) ⟨_, (0, 0), rfl, ⟨(Builtin.zeroCells zv.cells m.toNat).toList, (Builtin.zeroCells zv.cells (grownCap w m.toNat cap' e - m.toNat)).toList, by simp [Array.toList_append], (by
      have := relL_unk (c := ctx F β w.drew h) (Builtin.zeroCells zv.cells m.toNat).toList
      rwa [Array.length_toList, hzc] at this), by simp⟩, by simp⟩, ?_⟩
    refine ⟨by simp, grownCap w m.toNat cap' e, e, by simp, hcap, ?_⟩
    simp only [if_pos, World.shape?, show (w.drew.alloc _).heap[w.heap.size]? = some _ from heap_alloc_new w.drew _]
    have := size_grown (len := 0) (m := m.toNat) (sz := sz) (olds := #[]) (cap := grownCap w m.toNat cap' e) (by simp) hzc hzs (by omega)
    simp only [Nat.zero_add] at this
    rw [this]
end
end Go.AH
