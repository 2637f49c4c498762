/- The evaluator is sound: third part. No condition. -/
import Derived.Test.YtieaamjikcjbeaaA10
import Derived.Laws.BytesString
namespace Go.AH
set_option linter.unusedSimpArgs false
set_option linter.unusedVariables false
open Go
section
variable {P : Program} {F : Nat → Prop} {β : Nat → Nat} {w : World} {h : Heap}

/-- A new row that the call owns whole. -/
theorem St.newRow (s : St F β w h) {cs : List AV} {vs : Array Value} (r : RelL (ctx F β w h) cs vs.toList) (e : TypeId) :
    Goes F β w h (fun id => if id = h.length then w.heap.size else β id) (w.alloc (.cells vs e)) (h ++ [some (.row cs e true)]) :=
  s.alloc _ _ ⟨vs, (0, 0), rfl, ⟨vs.toList, [], by simp, r, fun _ => rfl⟩, by simp⟩

theorem run_newVar (s : St F β w h) {t : TypeId} {v : Value} {cs : List AV} (r : RelL (ctx F β w h) cs v.cells.toList) :
    VOk F β w h (Sem.run P (do return .pointer (some (← newVar t v))) w) (.ptr h.length 0) (h ++ [some (.row cs t true)]) :=
  ⟨.pointer (some ⟨w.heap.size, 0, none⟩), w.alloc (.cells v.cells t), _, by simp [newVar, Go.newRow], s.newRow r t, by simp, by simp⟩

theorem run_aAlloc (s : St F β w h) {t : TypeId} {z : List AV} (hz : zeroCellsOf P t = some z) : VOk F β w h ((Instr.alloc t true (.tuple #[])).run P w) (.ptr h.length 0) (h ++ [some (.row z t true)]) := by
  obtain ⟨i, zv, hi, hzv, rz⟩ := zeroCells_rel (c := ctx F β w h) hz
  exact ⟨.pointer (some ⟨w.heap.size, 0, none⟩), w.alloc (.cells zv.cells t), _, by simp [Instr.alloc, zeroValue, typeInfo, hi, hzv, newVar, Go.newRow], s.newRow rz t, by simp, by simp⟩

theorem run_aBox (s : St F β w h) {t : TypeId} {x : AV} {u : Value} {cs : List AV} (hc : acells x = some cs) (r : Rel (ctx F β w h) x u) : VOk F β w h ((Instr.box t u).run P w) (.ptr h.length 0) (h ++ [some (.row cs t true)]) := by
  exact ⟨.pointer (some ⟨w.heap.size, 0, none⟩), w.alloc (.cells u.cells t), _, by simp [Instr.box, newVar, Go.newRow], s.newRow (acells_rel hc r) t, by simp, by simp⟩

theorem run_aBuildSlice (s : St F β w h) {t : TypeId} {len : Nat} {parts : List (Nat × AV)} {parts' : Array (Nat × Value)} {v : AV} {h' : Heap} (hb : aBuildSlice P h t len parts = some (v, h')) (rp : RelP (ctx F β w h) parts parts'.toList) :
    VOk F β w h ((Instr.buildSlice t len parts').run P w) v h' := by
  unfold aBuildSlice at hb
  split at hb <;> try (cases hb; done)
  rename_i e hu
  split at hb <;> try (cases hb; done)
  rename_i sz z hsz hz
  split at hb <;> try (cases hb; done)
  rename_i hle
  split at hb <;> simp only [Option.some.injEq, Prod.mk.injEq, reduceCtorEq] at hb
  rename_i cs hf
  obtain ⟨rfl, rfl⟩ := hb
  obtain ⟨i, zv, hi, hzv, rz⟩ := zeroCells_rel (c := ctx F β w h) hz
  have hn : ¬ (16777216 < len * sz) := by omega
  let zz : Array Value := if len * sz = 0 then #[] else zv.cells
  have rr : RelL (ctx F β w h) (List.replicate (len * sz) .unk) ((Array.range (len * sz)).map (zz[· % zz.size]!)).toList := by
    have := relL_unk (c := ctx F β w h) ((Array.range (len * sz)).map (zz[· % zz.size]!)).toList
    simpa using this
  obtain ⟨out, h1, h2⟩ := fill_rel hf rp rr
  refine ⟨_, _, _, ?_, s.newRow h2 e, by simp, 0, len, rfl, .inl rfl, Nat.le_refl _, fun x hx => by simpa using hx⟩
  by_cases h0 : len * sz = 0
  · have hzz : zz = #[] := if_pos h0
    rw [hzz] at h1
    simp [Instr.buildSlice, run_underlying hu, run_sizeOf' hsz, h0, Go.newRow]
    simp [h0] at h1
    simp [h1]
  · have hzz : zz = zv.cells := if_neg h0
    rw [hzz] at h1
    simp [Instr.buildSlice, run_underlying hu, run_sizeOf' hsz, hn, h0, zeroValue, typeInfo, hi, hzv, Go.newRow, h1]

theorem zeroRow_oneC {z : List AV} (h1 : z.all oneC = true) : ∀ n, (zeroRow z n).all oneC = true
  | 0 => rfl
  | n + 1 => by rw [zeroRow, List.all_append, h1, zeroRow_oneC h1 n]; rfl
theorem zeroRow_length (z : List AV) : ∀ n, (zeroRow z n).length = n * z.length
  | 0 => by simp [zeroRow]
  | n + 1 => by rw [zeroRow, List.length_append, zeroRow_length z n, Nat.succ_mul, Nat.add_comm]

theorem run_aClear (s : St F β w h) {t ty : TypeId} {ts : Array TypeId} (hts : ts[0]? = some t) {x : AV} {u : Value} {h' : Heap} (ha : aClear P h t x = some h') (r : Rel (ctx F β w h) x u) :
    VOk F β w h ((Builtin.clear_ ts ty #[u]).run P w) (.tup []) h' := by
  unfold aClear at ha
  split at ha <;> try (cases ha; done)
  rename_i e hu
  split at ha <;> try (cases ha; done)
  rename_i sz z hsz hz
  split at ha <;> try (cases ha; done)
  rename_i hzc
  obtain ⟨i, zv, hi, hzv, rz⟩ := zeroCells_rel (c := ctx F β w h) hz
  have fin : ∀ (b o len cap : Nat) (w' : World), (storeCells ⟨b, o, none⟩ (Builtin.zeroCells zv.cells len).toList).run P w = .ok () w' → (Builtin.clear_ ts ty #[.slice (some ⟨b, o, none⟩) len cap]).run P w = .ok (.tuple #[]) w' := by
    intro b o len cap w' hst
    cases len with
    | zero => simp [Builtin.zeroCells, storeCells] at hst; subst hst; simp [Builtin.clear_, hts, run_underlying hu]
    | succ n => simp [Builtin.clear_, hts, run_underlying hu, zeroValue, typeInfo, hi, hzv, hst]
  split at ha
  · simp only [Option.some.injEq] at ha
    subst ha
    simp only [Rel] at r
    subst r
    exact VOk.same s ⟨_, by simp [Builtin.clear_, hts, run_underlying hu], ⟨#[], rfl, rfl⟩⟩
  · simp only [Option.some.injEq] at ha
    subst ha
    obtain ⟨a, rfl⟩ := r
    refine VOk.same s ⟨.tuple #[], ?_, ⟨#[], rfl, rfl⟩⟩
    cases a <;> simp [Builtin.clear_, hts, run_underlying hu]
  · rename_i id off len cap
    split at ha <;> try (cases ha; done)
    rename_i cs e' wh hrow
    split at ha <;> simp only [Option.some.injEq, reduceCtorEq] at ha
    rename_i hle
    subst ha
    obtain ⟨hid, o, cap', rfl, ho, hlc, hc⟩ := r
    by_cases h0 : len = 0
    · subst h0
      have : h.set id (some (.row (setMany cs off (zeroRow z 0)) e' wh)) = h := by
        obtain ⟨hb, _⟩ := s.rowOf hrow
        rw [zeroRow, setMany]
        refine List.ext_getElem? fun j => ?_
        rw [List.getElem?_set]
        split
        · rename_i hj; subst hj; rw [hb]
        · rfl
      rw [this]
      exact VOk.same s ⟨_, fin _ _ _ _ w (by simp [Builtin.zeroCells, storeCells]), ⟨#[], rfl, rfl⟩⟩
    · have ho' : o = off := by rcases ho with q | q <;> omega
      subst ho'
      obtain ⟨w', hst, g⟩ := s.write (P := P) hrow (off := o) (vc := zeroRow z len) (by rw [zeroRow_length, hzc.1]; exact hle) (relL_append_zero rz len) (zeroRow_oneC hzc.2 len)
      exact ⟨_, _, _, fin _ _ _ _ _ hst, g, ⟨#[], rfl, rfl⟩⟩
  · rename_i id len esz
    split at ha <;> try (cases ha; done)
    rename_i cs e' wh hrow
    split at ha <;> simp only [Option.some.injEq, reduceCtorEq] at ha
    rename_i hle
    subst ha
    obtain ⟨hid, cap', et, rfl, hlc, hsh⟩ := r
    obtain ⟨w', hst, g⟩ := s.write (P := P) hrow (off := 0) (vc := zeroRow z len) (by rw [zeroRow_length, hzc.1]; omega) (relL_append_zero rz len) (zeroRow_oneC hzc.2 len)
    exact ⟨_, _, _, fin _ _ _ _ _ hst, g, ⟨#[], rfl, rfl⟩⟩
  · cases ha

theorem run_aCopy (s : St F β w h) {t ty : TypeId} {ts : Array TypeId} (hts : ts[0]? = some t) {x y v : AV} {u q : Value} {h' : Heap} (ha : aCopy P h t x y = some (v, h')) (rx : Rel (ctx F β w h) x u) (ry : Rel (ctx F β w h) y q) :
    VOk F β w h ((Builtin.copy_ ts ty #[u, q]).run P w) v h' := by
  unfold aCopy at ha
  split at ha <;> try (cases ha; done)
  rename_i e hu
  split at ha <;> try (cases ha; done)
  rename_i sz lx ly hsz hlx hly
  split at ha <;> try (cases ha; done)
  rename_i new hnew
  split at ha <;> try (cases ha; done)
  rename_i hc
  have hlen := run_lenOfA (P := P) hly ry w
  obtain ⟨news, hfc, rnew, hnl⟩ := run_readSl (P := P) s hnew hc.2 (fun l hl => by rw [hly] at hl; simp at hl; omega) ry
  have hmin : Nat.min ly lx = min ly lx := rfl
  split at ha
  · simp only [Option.some.injEq, Prod.mk.injEq] at ha
    obtain ⟨rfl, rfl⟩ := ha
    simp only [Rel] at rx
    subst rx
    simp [lenOfA] at hlx
    subst hlx
    refine VOk.same s ⟨_, ?_, rfl⟩
    rw [Nat.min_zero] at hfc
    simp [Builtin.copy_, hts, run_underlying hu, hlen, run_sizeOf' hsz, hfc, goInt]
  · simp only [Option.some.injEq, Prod.mk.injEq] at ha
    obtain ⟨rfl, rfl⟩ := ha
    obtain ⟨a, rfl⟩ := rx
    simp [lenOfA] at hlx
    subst hlx
    rw [Nat.min_zero] at hfc hnl
    have hnil : news.toList = [] := List.eq_nil_of_length_eq_zero (by have := rnew.length; rw [← this, hnl]; simp)
    refine VOk.same s ⟨.int .i64 0, ?_, rfl⟩
    cases a <;> simp [Builtin.copy_, hts, run_underlying hu, hlen, run_sizeOf' hsz, hfc, goInt, hnil, storeCells]
  · rename_i id off len cap
    split at ha <;> try (cases ha; done)
    rename_i cs e' wh hrow
    split at ha <;> simp only [Option.some.injEq, Prod.mk.injEq, reduceCtorEq] at ha
    rename_i hle
    obtain ⟨rfl, rfl⟩ := ha
    obtain ⟨hid, o, cap', rfl, ho, hlc, hcx⟩ := rx
    simp [lenOfA] at hlx
    subst hlx
    by_cases h0 : min ly len = 0
    · have hnil : new = [] := List.eq_nil_of_length_eq_zero (by rw [hnl, h0]; simp)
      subst hnil
      have hnil2 : news.toList = [] := rnew
      have : h.set id (some (.row (setMany cs off []) e' wh)) = h := by
        obtain ⟨hb, _⟩ := s.rowOf hrow
        rw [setMany]
        refine List.ext_getElem? fun j => ?_
        rw [List.getElem?_set]
        split
        · rename_i hj; subst hj; rw [hb]
        · rfl
      rw [this]
      refine VOk.same s ⟨.int .i64 ((min ly len : Nat) : Int), ?_, by simp only [Rel]⟩
      simp [Builtin.copy_, hts, run_underlying hu, hlen, run_sizeOf' hsz, hmin, hfc, goInt, hnil2, storeCells]
    · have ho' : o = off := by rcases ho with q | q <;> omega
      subst ho'
      obtain ⟨w', hst, g⟩ := s.write (P := P) hrow hle rnew hc.1
      refine ⟨.int .i64 ((min ly len : Nat) : Int), _, _, ?_, g, by simp only [Rel]⟩
      simp [Builtin.copy_, hts, run_underlying hu, hlen, run_sizeOf' hsz, hmin, hfc, goInt, hst]
  · rename_i id len esz
    split at ha <;> try (cases ha; done)
    rename_i cs e' wh hrow
    split at ha <;> simp only [Option.some.injEq, Prod.mk.injEq, reduceCtorEq] at ha
    rename_i hle
    obtain ⟨rfl, rfl⟩ := ha
    obtain ⟨hid, cap', et, rfl, hlc, hsh⟩ := rx
    simp [lenOfA] at hlx
    subst hlx
    obtain ⟨w', hst, g⟩ := s.write (P := P) hrow (off := 0) (by omega) rnew hc.1
    refine ⟨.int .i64 ((min ly len : Nat) : Int), _, _, ?_, g, by simp only [Rel]⟩
    simp [Builtin.copy_, hts, run_underlying hu, hlen, run_sizeOf' hsz, hmin, hfc, goInt, hst]
  · cases ha

theorem toBytes_rel {c : Ctx} : ∀ {xs : List AV} {vs : List Value} {s : List UInt8}, toBytes xs = some s → RelL c xs vs → ∃ ns : List Int, vs = ns.map (Value.int .u8) ∧ s = ns.map fun n => UInt8.ofNat n.toNat
  | [], _, s, h, r => by cases r; simp [toBytes] at h; subst h; exact ⟨[], rfl, rfl⟩
  | x :: xs, _, s, h, ⟨y, ys, e, r, rs⟩ => by
    subst e
    unfold toBytes at h
    split at h <;> try (cases h; done)
    · rename_i heq; simp at heq
    · rename_i n xs' heq
      simp only [List.cons.injEq] at heq
      obtain ⟨rfl, rfl⟩ := heq
      rw [Option.map_eq_some_iff] at h
      obtain ⟨s', hs', rfl⟩ := h
      simp only [Rel] at r
      subst r
      obtain ⟨ns, rfl, rfl⟩ := toBytes_rel hs' rs
      exact ⟨n :: ns, rfl, rfl⟩

theorem fold_push : ∀ (ns : List Int) (acc : ByteArray), ns.foldl (fun r n => r.push (UInt8.ofNat n.toNat)) acc = ⟨acc.data ++ (ns.map fun n => UInt8.ofNat n.toNat).toArray⟩
  | [], acc => by simp
  | n :: ns, acc => by
    rw [List.foldl_cons, fold_push ns]
    congr 1
    apply Array.ext'
    simp

theorem alloc_freeze (w : World) (cs : Array Value) (e : TypeId) : (w.alloc (.cells cs e)).freeze { block := w.heap.size, off := cs.size } 1 = w.alloc (.cells cs e (cs.size, cs.size + 1)) := by
  simp only [World.freeze, World.alloc, Nat.one_ne_zero, if_false]
  congr 1
  apply Array.ext
  · simp
  · intro i h1 h2
    simp at h1
    rw [Array.getElem_modify]
    by_cases hi : i = w.heap.size
    · subst hi; simp
    · simp [Array.getElem_push, show i < w.heap.size by omega, show w.heap.size ≠ i by omega]

theorem run_toBytes (s : St F β w h) {e : TypeId} (l : List UInt8) : VOk F β w h ((Conv.stringToBytes e ⟨l.toArray⟩).run P w) (.gsl h.length l.length 1) (h ++ [some (.row (bcells l) e false)]) := by
  have hsz : (ByteArray.mk l.toArray).size = l.length := by simp [ByteArray.size]
  have hcap := grownCap_ge w l.length 0 e
  let cs : Array Value := (l.toArray.map fun b => Value.int .u8 b.toNat) ++ Array.replicate (grownCap w l.length 0 e - l.length) (.int .u8 0)
  have hcs : cs.size = grownCap w l.length 0 e := by simp [cs]; omega
  have hsh : (w.drew.alloc (.cells cs e)).shape? w.heap.size = some (e, cs.size) := by
    simp only [World.shape?, show (w.drew.alloc (.cells cs e)).heap[w.heap.size]? = some _ from heap_alloc_new w.drew _]
  refine ⟨.slice (some ⟨w.heap.size, 0, none⟩) l.length (grownCap w l.length 0 e), _, _, ?_, s.made (.cells cs e (cs.size, cs.size + 1)) (.row (bcells l) e false) ?_, ?_⟩
  · have hf := alloc_freeze w.drew cs e
    have hsh' : ({ w.drew with heap := w.drew.heap.push (.cells cs e) } : World).shape? w.heap.size = some (e, cs.size) := hsh
    have e1 : (Conv.stringToBytes e ⟨l.toArray⟩).run P w = ((do
        let a ← Go.newRow e cs
        markStringish a
        pure (.slice (some a) l.length (grownCap w l.length 0 e)) : Sem Value)).run P w.drew := by
      simp only [Conv.stringToBytes, hsz, Sem.run_bind, run_choose, Question.forced, Bool.false_eq_true, if_false, Result.andThen_ok]
      rfl
    rw [e1]
    simp only [Go.newRow, markStringish, Sem.run_bind, run_newObj, Sem.run_pure, Result.andThen_ok, run_shape]
    have e2 : w.drew.heap.size = w.heap.size := rfl
    rw [e2, hsh']
    simp only [run_freeze, Result.andThen_ok]
    rw [e2] at hf
    exact congrArg (Result.ok _) hf
  · refine ⟨cs, (cs.size, cs.size + 1), rfl, ⟨l.map (fun b => Value.int .u8 b.toNat), List.replicate (grownCap w l.length 0 e - l.length) (.int .u8 0), by simp [cs], rel_bcells _ l, by simp⟩, fun i hi => by simp; omega⟩
  · refine ⟨by simp, grownCap w l.length 0 e, e, by simp, hcap, ?_⟩
    simp only [if_pos, World.shape?, show (w.drew.alloc _).heap[w.heap.size]? = some _ from heap_alloc_new w.drew _, hcs, Nat.mul_one]

theorem run_aConvert (s : St F β w h) {src dst : TypeId} {x v : AV} {u : Value} {h' : Heap} (ha : aConvert P h src dst x = some (v, h')) (r : Rel (ctx F β w h) x u) : VOk F β w h ((convert src dst u).run P w) v h' := by
  unfold aConvert at ha
  split at ha
  · rename_i e hu hv
    split at ha <;> try (cases ha; done)
    rename_i l he
    split at ha <;> simp only [Option.some.injEq, Prod.mk.injEq, reduceCtorEq] at ha
    rename_i hl
    obtain ⟨rfl, rfl⟩ := ha
    simp only [Rel] at r
    subst r
    have : (convert src dst (.string ⟨l.toArray⟩)).run P w = (Conv.stringToBytes e ⟨l.toArray⟩).run P w := by
      simp [convert, run_underlying hu, run_underlying hv, run_underlying he]
    rw [this]
    exact run_toBytes s l
  · rename_i e hu hv
    split at ha <;> try (cases ha; done)
    rename_i n he hn
    split at ha <;> try (cases ha; done)
    rename_i cs hcs
    have key : (∀ l, x ≠ .str l) → ∀ l, toBytes cs = some l → VOk F β w h ((convert src dst u).run P w) (.str l) h := by
      intro hx l hl
      obtain ⟨vs, hfc, rv, _⟩ := run_readSl (P := P) s hcs (by cases x <;> simp [strOk]) (fun l hl => by rw [hn] at hl; simp at hl; omega) r
      obtain ⟨ns, e1, e2⟩ := toBytes_rel hl rv
      have hvs : vs = (ns.map (Value.int .u8)).toArray := by apply Array.ext'; simpa using e1
      refine VOk.same s ⟨.string ⟨l.toArray⟩, ?_, rfl⟩
      have hlen := run_lenOfA (P := P) hn r w
      have hu2 : ∃ a len cap, u = .slice a len cap := by
        cases x <;> simp only [lenOfA, reduceCtorEq] at hn <;> simp only [Rel] at r
        · exact absurd rfl (hx _)
        · exact ⟨_, _, _, r⟩
        · obtain ⟨a, r⟩ := r; exact ⟨_, _, _, r⟩
        · obtain ⟨_, o, cap', r, _⟩ := r; exact ⟨_, _, _, r⟩
        · obtain ⟨_, cap', et, r, _⟩ := r; exact ⟨_, _, _, r⟩
        · obtain ⟨a, cap', r, _⟩ := r; exact ⟨_, _, _, r⟩
      obtain ⟨a, len, cap, rfl⟩ := hu2
      simp [Builtin.lenOf] at hlen
      subst hlen
      rw [run_convert_bytes_string w src dst e a len cap hu he hv]
      cases a with
      | none =>
        simp [Builtin.firstCells] at hfc
        have hv0 : vs = #[] := hfc
        rw [hv0] at hvs
        have : ns = [] := by
          have := congrArg Array.toList hvs
          simpa using this.symm
        subst this
        subst e2
        rfl
      | some a =>
        simp only [Builtin.firstCells, Nat.mul_one] at hfc
        rw [run_bytesToString w a len cap ns (by rw [hfc, hvs]), fold_push, ← e2]
        congr 3
        apply Array.ext'
        simp [ByteArray.empty, ByteArray.emptyWithCapacity]
        rfl
    split at ha
    · cases ha
    · rename_i hx
      rw [Option.map_eq_some_iff] at ha
      obtain ⟨l, hl, he2⟩ := ha
      simp only [Prod.mk.injEq] at he2
      obtain ⟨rfl, rfl⟩ := he2
      exact key hx l hl
  · rw [Option.map_eq_some_iff] at ha
    obtain ⟨l, hl, he2⟩ := ha
    simp only [Prod.mk.injEq] at he2
    obtain ⟨rfl, rfl⟩ := he2
    exact VOk.same s (run_aConv hl r w)

end
end Go.AH
