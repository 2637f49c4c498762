/- An address by its length alone; texts that are searched; a byte by its digits; bits. No condition. -/
import Derived.Test.YtbdhilbngaemcaaGreatDoorAY
import Derived.Test.YtbdhilbngaemcaaGreatDoorAS
import Derived.Lib.IndexAny
set_option linter.unusedVariables false
set_option linter.unusedSimpArgs false
namespace Go.AH
open Go
set_option linter.unusedVariables false
set_option linter.unusedSimpArgs false
set_option maxRecDepth 10000
/-! ### an address's text by its length alone: digits and dots -/
def chrCls (n : Nat) : Cls := ⟨true, (List.range n).map fun i => nmE 46 (72 + i), (List.range 4).map fun k => nmE 0 (60 + k)⟩
def chrAll : List Cls := (List.range 9).map fun i => chrCls (7 + i)
theorem decB_chr : ∀ x : Fin 256, (decB x.1).all (fun b => Nat.ble 46 b.toNat && Nat.ble b.toNat 57) = true ∧ 1 ≤ (decB x.1).length ∧ (decB x.1).length ≤ 3 := by decide +kernel
theorem decB_chr' {x : Nat} (h : x ≤ 255) : (∀ b ∈ decB x, 46 ≤ b.toNat ∧ b.toNat ≤ 57) ∧ 1 ≤ (decB x).length ∧ (decB x).length ≤ 3 := by
  have := decB_chr ⟨x, by omega⟩
  refine ⟨?_, this.2⟩
  intro b hb
  have := List.all_eq_true.1 this.1 b hb
  simp only [Bool.and_eq_true] at this
  exact ⟨Nat.le_of_ble_eq_true this.1, Nat.le_of_ble_eq_true this.2⟩
theorem dotB_chr (V : Val) (j : Nat) : (∀ b ∈ dotB V j, 46 ≤ b.toNat ∧ b.toNat ≤ 57) ∧ 7 ≤ (dotB V j).length ∧ (dotB V j).length ≤ 15 := by
  have h0 := decB_chr' (V.ob j 0)
  have h1 := decB_chr' (V.ob j 1)
  have h2 := decB_chr' (V.ob j 2)
  have h3 := decB_chr' (V.ob j 3)
  refine ⟨?_, ?_⟩
  · intro b hb
    unfold dotB at hb
    simp only [List.mem_append, List.mem_cons] at hb
    rcases hb with hb | rfl | hb | rfl | hb | rfl | hb
    · exact h0.1 b hb
    · decide
    · exact h1.1 b hb
    · decide
    · exact h2.1 b hb
    · decide
    · exact h3.1 b hb
  · unfold dotB
    simp only [List.length_append, List.length_cons]
    omega
def chrG (V : Val) (j i : Nat) : Nat := if i < 60 then 0 else if i < 64 then V.oct j (i - 60) else if i < 72 then 0 else ((dotB V j).getD (i - 72) 46).toNat - 46
theorem dom_chr : ∀ i : Fin 15, dom (72 + i.1) = 11 := by decide +kernel
theorem chrG_dom (V : Val) (j i : Nat) (hi : 20 ≤ i) : chrG V j i ≤ dom i := by
  unfold chrG
  split
  · exact Nat.zero_le _
  · split
    · have h := dom_byte ⟨i - 60, by omega⟩
      simp only [show 60 + (i - 60) = i by omega] at h
      rw [h]
      exact V.ob _ _
    · split
      · exact Nat.zero_le _
      · have hd := dotB_chr V j
        by_cases hl : i - 72 < (dotB V j).length
        · have h := dom_chr ⟨i - 72, by omega⟩
          simp only [show 72 + (i - 72) = i by omega] at h
          rw [h, List.getD_eq_getElem?_getD, List.getElem?_eq_getElem hl]
          have := hd.1 _ (List.getElem_mem hl)
          simp only [Option.getD_some]
          omega
        · rw [List.getD_eq_getElem?_getD, List.getElem?_eq_none (by omega)]
          exact Nat.zero_le _
theorem chr_cov (j : Nat) (V : Val) : ∃ cl ∈ chrAll, ∃ V', ClsOk V V' j cl := by
  have hd := dotB_chr V j
  refine ⟨chrCls (dotB V j).length, ?_, withG V (chrG V j) (chrG_dom V j), rfl, ?_, ?_⟩
  · unfold chrAll
    refine List.mem_map.2 ⟨(dotB V j).length - 7, List.mem_range.2 (by omega), ?_⟩
    rw [show 7 + ((dotB V j).length - 7) = (dotB V j).length by omega]
  · intro k hk
    have e : (withG V (chrG V j) (chrG_dom V j)).ρ (60 + k) = (V.oct j k : Nat) := by
      rw [withG_ρ _ _ _ (by omega)]
      unfold chrG
      rw [if_neg (by omega), if_pos (by omega), show 60 + k - 60 = k by omega]
    refine ⟨nmE 0 (60 + k), ?_, by rw [nmE_val, e]; omega⟩
    unfold chrCls
    simp only
    rw [List.getElem?_map, List.getElem?_range (by omega)]
    rfl
  · intro _
    unfold chrCls
    simp only [List.map_map]
    apply List.ext_getElem?
    intro i
    rw [List.getElem?_map, List.getElem?_map]
    by_cases hl : i < (dotB V j).length
    · rw [List.getElem?_range hl, List.getElem?_eq_getElem hl]
      simp only [Option.map_some, Function.comp, Option.some.injEq]
      rw [nmE_val, withG_ρ _ _ _ (by omega)]
      unfold chrG
      rw [if_neg (by omega), if_neg (by omega), if_neg (by omega), show 72 + i - 72 = i by omega, List.getD_eq_getElem?_getD, List.getElem?_eq_getElem hl]
      have := hd.1 _ (List.getElem_mem hl)
      simp only [Option.getD_some]
      omega
    · rw [List.getElem?_eq_none (by simpa using hl), List.getElem?_eq_none (by omega)]
      rfl
theorem chrAll_tx : ∀ cl ∈ chrAll, cl.tx = true := by
  intro cl h
  obtain ⟨q, _, rfl⟩ := List.mem_map.1 h
  rfl
end Go.AH
namespace Go.AH
open Go
set_option linter.unusedVariables false
set_option linter.unusedSimpArgs false
/-! ### internal/bytealg.IndexByteString of a named byte -/
def sIdxN (n : List Int) : List (List Int) → Nat → Option Int
  | [], _ => some (-1)
  | e :: l, i => match cmpE .eql e n with
    | some true => some (i : Nat)
    | some false => sIdxN n l (i + 1)
    | none => none
theorem cmp_byteN {c0 : Ctx} {n : List Int} (hc : fits .u8 n = true) {b : UInt8} {e : List Int} (hb : (b.toNat : Int) = linV c0.V.ρ e) {r : Bool} (h : cmpE .eql e n = some r) : (b == (linV c0.V.ρ n).toNat.toUInt8) = r := by
  have := cmpE_cmpI c0.V h
  simp only [cmpI, Option.some.injEq] at this
  obtain ⟨m, hm, he⟩ := oct_of (x := .unk) c0 hc
  rw [he]
  have e1 : ((m : Int).toNat.toUInt8).toNat = m := by
    show (UInt8.ofNat m).toNat = m
    simp only [UInt8.toNat_ofNat']
    omega
  rw [← hb, he] at this
  rw [← this]
  rw [Bool.eq_iff_iff]
  simp only [beq_iff_eq]
  constructor
  · rintro rfl; omega
  · intro q; exact UInt8.toNat_inj.1 (by omega)
theorem sIdxN_ok {c0 : Ctx} {n : List Int} (hc : fits .u8 n = true) : ∀ {l : List (List Int)} {i : Nat} {s : List UInt8} {r : Int}, sIdxN n l i = some r → SymOk c0 s l → (Lib.indexByte s (linV c0.V.ρ n).toNat.toUInt8 = -1 ∧ r = -1) ∨ (0 ≤ Lib.indexByte s (linV c0.V.ρ n).toNat.toUInt8 ∧ r = Lib.indexByte s (linV c0.V.ρ n).toNat.toUInt8 + i)
  | [], i, s, r, h, q => by
    have : s = [] := by have := q.length; simpa using this
    subst this
    simp only [sIdxN, Option.some.injEq] at h
    left
    exact ⟨rfl, h.symm⟩
  | e :: l, i, s, r, h, q => by
    cases s with
    | nil => have := q.length; simp at this
    | cons b s =>
      have q' : (b.toNat : Int) = linV c0.V.ρ e ∧ SymOk c0 s l := by
        unfold SymOk at q
        simp only [List.map_cons, List.cons.injEq] at q
        exact q
      unfold sIdxN at h
      split at h
      · rename_i hh
        simp only [Option.some.injEq] at h
        have hb := cmp_byteN hc q'.1 hh
        right
        unfold Lib.indexByte
        rw [if_pos hb]
        exact ⟨Int.le_refl _, by omega⟩
      · rename_i hh
        have hb := cmp_byteN hc q'.1 hh
        have ih := sIdxN_ok hc h q'.2
        unfold Lib.indexByte
        rw [if_neg (by rw [hb]; simp)]
        rcases ih with ⟨h1, h2⟩ | ⟨h1, h2⟩
        · left; rw [h1]; exact ⟨rfl, h2⟩
        · right
          have hne : (Lib.indexByte s (linV c0.V.ρ n).toNat.toUInt8 == -1) = false := by
            rw [beq_eq_false_iff_ne]; omega
          rw [hne]
          simp only [Bool.false_eq_true, if_false]
          constructor
          · omega
          · rw [h2]; omega
      · cases h
def spIdxN (args : List AV) (h : Heap) : Option OutH := match args with
  | [x, y] => match aSym x, octE y with
    | some l, some n => match sIdxN n l 0 with
      | some r => some (.int .i64 r, h)
      | none => none
    | _, _ => none
  | _ => none
theorem spIdxN_ok {P : Program} {f : FuncId} (he : Ent P f Extern.BytealgIndexByte.indexByte) {args : List AV} {h h' : Heap} {r : AV} (e : spIdxN args h = some (r, h')) : ACalls P f args h (fun r' h'' => r' = .ret r ∧ h'' = h') := by
  unfold spIdxN at e
  split at e <;> try (cases e; done)
  rename_i x y
  split at e <;> try (cases e; done)
  rename_i l n hx hy
  split at e <;> try (cases e; done)
  rename_i r hn
  simp only [Option.some.injEq, Prod.mk.injEq] at e
  obtain ⟨rfl, rfl⟩ := e
  refine acalls_entry0 he fun F β w vs s rl => ?_
  obtain ⟨u, us, rfl, ru, v, vs', rfl, rv, rfl⟩ := rl
  obtain ⟨st, rfl, hs⟩ := aSym_rel hx ru
  obtain ⟨h1, h2⟩ := octE_num hy
  have := aNum_rel h1 rv
  subst this
  refine ⟨_, Lib.run_indexByteString _ _ _, ?_⟩
  show Value.int .i64 _ = .int .i64 r
  congr 1
  have := sIdxN_ok h2 hn hs
  show Lib.indexByte st (linV (ctx F β w h).V.ρ n).toNat.toUInt8 = r
  rcases this with ⟨h1, h2⟩ | ⟨h1, h2⟩
  · rw [h1, h2]
  · omega
end Go.AH
namespace Go.AH
open Go
set_option linter.unusedVariables false
set_option linter.unusedSimpArgs false
/-! ### a byte's number by its digits -/
theorem dgk_ok : ∀ i : Fin 12, digOk (dgk (i.1 % 3) (i.1 / 3)) = true ∧ (dgk (i.1 % 3) (i.1 / 3)).all (fun d => decide (0 ≤ loV d) && decide (hiV d < 256)) = true ∧ 0 ≤ loV (nfk (i.1 % 3) (i.1 / 3)) ∧ hiV (nfk (i.1 % 3) (i.1 / 3)) ≤ 255 := by decide +kernel
theorem dgk_val (V : Val) (l k : Nat) (hk : k < 4) : linV V.ρ (valE (dgk l k)) = linV V.ρ (nfk l k) := by
  unfold dgk nfk
  split
  · simp only [valE, List.foldl_cons, List.foldl_nil, linV_add, linV_mul, linV_sub, nC_val]
    simp [linV, linS]; omega
  · simp only [valE, List.foldl_cons, List.foldl_nil, linV_add, linV_mul, linV_sub, nC_val, nF2_val]
    simp [linV, linS]; omega
  · simp only [valE, List.foldl_cons, List.foldl_nil, linV_add, linV_mul, linV_sub, nC_val]
    have := V.thr k hk
    simp [linV, linS]; omega
def findNf (e : List Int) : Nat → Option Nat
  | 0 => none
  | i + 1 => if nfk (i % 3) (i / 3) = e then some i else findNf e i
theorem findNf_ok {e : List Int} : ∀ {n i : Nat}, findNf e n = some i → i < n ∧ nfk (i % 3) (i / 3) = e
  | 0, _, h => by cases h
  | n + 1, i, h => by
    unfold findNf at h
    split at h
    · rename_i hc; cases h; exact ⟨by omega, hc⟩
    · obtain ⟨h1, h2⟩ := findNf_ok h; exact ⟨by omega, h2⟩
/-- strconv.Itoa of a byte. -/
def spItoaB (args : List AV) (h : Heap) : Option OutH := match args with
  | [.lin .i64 e] => match findNf e 12 with
    | some i => some (.sym (dgk (i % 3) (i / 3)), h)
    | none => none
  | _ => none
theorem spItoaB_ok {P : Program} {f : FuncId} (hc : Callable P f)
    (hk : ∀ (n : Int) (w : World), -9223372036854775808 ≤ n → n ≤ 9223372036854775807 → (∃ e fz, w.heap[1]? = some (.cells pow10V.toArray e fz)) → Calls P f #[.int .i64 n] w fun e w' => e = .returned (.string ⟨(Lib.itoa n).toArray⟩) ∧ ∃ k os, w' = Go.Sort.grow (w.drewN k) os)
    {args : List AV} {h h' : Heap} {r : AV} (e : spItoaB args h = some (r, h')) : ACalls P f args h (fun r' h'' => r' = .ret r ∧ h'' = h') := by
  unfold spItoaB at e
  split at e <;> try (cases e; done)
  rename_i le
  split at e <;> simp only [Option.some.injEq, Prod.mk.injEq, reduceCtorEq] at e
  rename_i i hi
  obtain ⟨rfl, rfl⟩ := e
  obtain ⟨hlt, he⟩ := findNf_ok hi
  obtain ⟨hd, hb, lo, hiB⟩ := dgk_ok ⟨i, hlt⟩
  simp only at hd hb lo hiB
  rw [he] at lo hiB
  intro F β w vs s rl
  obtain ⟨u, us, e1, ru, e2⟩ := rl
  have e2' : us = [] := e2
  subst e2'
  have hvs : vs = #[u] := by rw [← Array.toArray_toList (xs := vs), e1]
  subst hvs
  have : u = .int .i64 (linV F.V.ρ le) := ru
  subst this
  have hval : linV F.V.ρ le = linV F.V.ρ (valE (dgk (i % 3) (i / 3))) := by rw [dgk_val F.V _ _ (by omega), he]
  have bd := linV_bound F.V le
  obtain ⟨sb, hsb⟩ := sym_bytes (c := ctx F β w h) _ hb
  obtain ⟨hit, hnn⟩ := itoa_ok hd hsb
  have hit' : Lib.itoa (linV F.V.ρ le) = sb := by rw [hval]; exact hit
  refine .inl ⟨hc, (hk (linV F.V.ρ le) w (by omega) (by omega) (gl_pow10 s.gl)).mono ?_⟩
  rintro e w' ⟨rfl, k, os, rfl⟩
  have g1 := s.drew (w.drewN k) rfl rfl rfl rfl
  have g2 := St.growL os.toList g1.st
  rw [Array.toArray_toList] at g2
  exact ⟨β, h, .ret (.sym (dgk (i % 3) (i / 3))), ⟨rfl, rfl⟩, g1.trans g2, _, rfl, sb, by rw [hit'], hsb⟩
/-- A number of three digits is a byte's name. -/
def sumE (k : Nat) : List Int := strip (valE (dgk 2 k))
theorem thr_rel {c : Ctx} {k : Nat} (hk : k < 4) {xs : List AV} {v : Value} (r : Rel c (.tup (mkLin .i64 (sumE k) :: xs)) v) : Rel c (.tup (mkLin .i64 (nfk 2 k) :: xs)) v := by
  obtain ⟨ul, rfl, q⟩ := r
  obtain ⟨u, us, e, ru, q⟩ := relL_cons.1 q
  refine ⟨ul, rfl, ?_⟩
  rw [e]
  refine relL_cons.2 ⟨u, us, rfl, ?_, q⟩
  rw [mkLin_iff] at ru ⊢
  rw [ru]
  unfold sumE
  rw [linV_strip, dgk_val c.V 2 k hk]
end Go.AH
namespace Go.AH
open Go
set_option linter.unusedVariables false
set_option linter.unusedSimpArgs false
/-- A number of one digit, by its ten values. -/
theorem digit_enum {P : Program} {f : FuncId} {k : Nat} (hk : k < 4) (runs : ∀ x : Nat, x < 10 → ACalls P f [.str [UInt8.ofNat (48 + x)]] [] (fun r h => r = .ret (.tup [.int .i64 (x : Int), .bool true]) ∧ h = [])) :
    ACalls P f [.sym (dgk 0 k)] [] (fun r h => r = .ret (.tup [mkLin .i64 (nfk 0 k), .bool true]) ∧ h = []) := by
  refine named_call closed_nil closed_nil fun c vs rl => ?_
  obtain ⟨v, ws, rfl, ⟨s, rfl, hs⟩, rl'⟩ := relL_cons.1 rl
  have rl2 : ws = [] := rl'
  subst rl2
  have lo := c.V.lo (5 * k + 2)
  have hi := c.V.hi (5 * k + 2)
  have hd : dom (5 * k + 2) = 9 := by
    have := dom_dig ⟨5 * k + 2, by omega⟩
    simp only at this
    rw [this, show (5 * k + 2) % 5 = 2 by omega]
    rfl
  rw [hd] at hi
  obtain ⟨x, hx⟩ : ∃ x : Nat, c.V.ρ (5 * k + 2) = x := ⟨(c.V.ρ (5 * k + 2)).toNat, by omega⟩
  have hx10 : x < 10 := by omega
  have hsb : s = [UInt8.ofNat (48 + x)] := by
    have hs : s.map (fun b => (b.toNat : Int)) = (dgk 0 k).map (linV c.V.ρ) := hs
    unfold dgk at hs
    simp only [List.map_cons, List.map_nil, nC_val, hx] at hs
    obtain ⟨b, rfl⟩ : ∃ b, s = [b] := List.length_eq_one_iff.1 (by simpa using congrArg List.length hs)
    simp only [List.map_cons, List.map_nil, List.cons.injEq, and_true] at hs
    congr 1
    apply UInt8.toNat_inj.1
    simp only [UInt8.toNat_ofNat']
    omega
  subst hsb
  refine ⟨c.V, rfl, [.str [UInt8.ofNat (48 + x)]], .tup [.int .i64 (x : Int), .bool true], relL_cons.2 ⟨_, [], rfl, rfl, rfl⟩, runs x hx10, ?_⟩
  rintro c2 v ec ⟨ul, rfl, q⟩
  obtain ⟨u, us, e, ru, q⟩ := relL_cons.1 q
  refine ⟨ul, rfl, ?_⟩
  rw [e]
  refine relL_cons.2 ⟨u, us, rfl, ?_, q⟩
  rw [mkLin_iff]
  have ru : u = .int .i64 (x : Int) := ru
  rw [ru]
  show _ = Value.int .i64 (linV c2.V.ρ (nC 0 (5 * k + 2)))
  rw [nC_val, ec, hx]
  simp
end Go.AH
namespace Go.AH
open Go
set_option linter.unusedVariables false
set_option linter.unusedSimpArgs false
/-- A world that grew: nothing that there was is changed. -/
theorem St.grown {F : Fr} {β : Nat → Nat} {w w' : World} {h : Heap} (s : St F β w h) (b : Go.RowKit.Below w.heap.size w w') : Goes F β w h β w' h := by
  have st : Step (Own β h) w w' (Own β h) := ⟨b.os, b.tape, b.output, b.size, fun k hk _ => b.block k hk, fun k hk => by simp [World.shape?, b.block k hk], fun k q => .inl q⟩
  have le := s.leOf (β' := β) (h' := h) st (Nat.le_refl _) (fun _ _ => rfl)
  refine ⟨⟨fun id blk hb => ?_, s.inj, s.sep, fun k hk => Nat.lt_of_lt_of_le (s.flt k hk) b.size, fun id hid => Nat.lt_of_lt_of_le (s.lt id hid) b.size, s.gl.step st⟩, st, Nat.le_refl _, fun _ _ => rfl⟩
  obtain ⟨o, ho, hr⟩ := s.live id blk hb
  exact ⟨o, by rw [b.block _ (s.lt id (by
    rcases Nat.lt_or_ge id h.length with q | q
    · exact q
    · rw [List.getElem?_eq_none q] at hb; cases hb))]; exact ho, BlkRel.le le hr⟩
/-! ### strings.IndexAny of texts with named bytes -/
def anyE (e : List Int) : List UInt8 → Option Bool
  | [] => some false
  | c :: cs => match cmpE .eql e [(c.toNat : Int)] with
    | some true => some true
    | some false => anyE e cs
    | none => none
theorem anyE_ok {c0 : Ctx} {e : List Int} {b : UInt8} (hb : (b.toNat : Int) = linV c0.V.ρ e) : ∀ {cs : List UInt8} {r : Bool}, anyE e cs = some r → cs.contains b = r
  | [], r, h => by simp only [anyE, Option.some.injEq] at h; subst h; rfl
  | c :: cs, r, h => by
    have key : ∀ q, cmpE .eql e [(c.toNat : Int)] = some q → (b == c) = q := by
      intro q hq
      have hc : byteE (c.toNat : Int) = true := by
        have := c.toNat_lt
        simp only [byteE, Bool.and_eq_true, decide_eq_true_eq]
        omega
      have := cmp_byte (c0 := c0) hc hb hq
      have e1 : ((c.toNat : Int).toNat.toUInt8) = c := by simp
      rw [e1] at this
      exact this
    unfold anyE at h
    split at h
    · rename_i hh
      simp only [Option.some.injEq] at h
      subst h
      rw [List.contains_cons, key _ hh, Bool.true_or]
    · rename_i hh
      rw [List.contains_cons, key _ hh, Bool.false_or]
      exact anyE_ok hb h
    · cases h
def sIdxAny (cs : List UInt8) : List (List Int) → Nat → Option Int
  | [], _ => some (-1)
  | e :: l, i => match anyE e cs with
    | some true => some (i : Nat)
    | some false => sIdxAny cs l (i + 1)
    | none => none
theorem sIdxAny_ok {c0 : Ctx} {cs : List UInt8} : ∀ {l : List (List Int)} {i : Nat} {s : List UInt8} {r : Int}, sIdxAny cs l i = some r → SymOk c0 s l → (Lib.indexAny s cs = -1 ∧ r = -1) ∨ (0 ≤ Lib.indexAny s cs ∧ r = Lib.indexAny s cs + i)
  | [], i, s, r, h, q => by
    have : s = [] := by have := q.length; simpa using this
    subst this
    simp only [sIdxAny, Option.some.injEq] at h
    exact .inl ⟨rfl, h.symm⟩
  | e :: l, i, s, r, h, q => by
    cases s with
    | nil => have := q.length; simp at this
    | cons b s =>
      have q' : (b.toNat : Int) = linV c0.V.ρ e ∧ SymOk c0 s l := by
        unfold SymOk at q
        simp only [List.map_cons, List.cons.injEq] at q
        exact q
      unfold sIdxAny at h
      split at h
      · rename_i hh
        simp only [Option.some.injEq] at h
        right
        unfold Lib.indexAny
        rw [if_pos (anyE_ok q'.1 hh)]
        exact ⟨Int.le_refl _, by omega⟩
      · rename_i hh
        have ih := sIdxAny_ok h q'.2
        unfold Lib.indexAny
        rw [if_neg (by rw [anyE_ok q'.1 hh]; simp)]
        rcases ih with ⟨h1, h2⟩ | ⟨h1, h2⟩
        · left; rw [h1]; exact ⟨rfl, h2⟩
        · right
          have hne : (Lib.indexAny s cs == -1) = false := by
            rw [beq_eq_false_iff_ne]; omega
          rw [hne]
          simp only [Bool.false_eq_true, if_false]
          constructor
          · omega
          · rw [h2]; omega
      · cases h
def asciiE (l : List (List Int)) : Bool := l.all fun e => decide (hiV e < 128)
def spIdxAny (args : List AV) (h : Heap) : Option OutH := match args with
  | [x, .str cs] => match aSym x with
    | some l => bif asciiE l && cs.all (fun b => Nat.blt b.toNat 128) && Nat.blt l.length 1000 && Nat.blt cs.length 1000 then (match sIdxAny cs l 0 with
      | some r => some (.int .i64 r, h)
      | none => none) else none
    | none => none
  | _ => none
theorem spIdxAny_ok {P : Program} {f : FuncId} (hc : Callable P f)
    (hk : ∀ (s chars : ByteArray) (w : World), s.size < 4294967281 → chars.size < 4294967281 → (∀ (j : Nat) b, s.data.toList[j]? = some b → b.toNat < 128) → (∀ (j : Nat) b, chars.data.toList[j]? = some b → b.toNat < 128) →
      Calls P f #[.string s, .string chars] w fun e w' => e = .returned (.int .i64 (Lib.indexAny s.data.toList chars.data.toList)) ∧ Go.RowKit.Below w.heap.size w w')
    {args : List AV} {h h' : Heap} {r : AV} (e : spIdxAny args h = some (r, h')) : ACalls P f args h (fun r' h'' => r' = .ret r ∧ h'' = h') := by
  unfold spIdxAny at e
  split at e <;> try (cases e; done)
  rename_i x cs
  split at e <;> try (cases e; done)
  rename_i l hx
  cases hb : (asciiE l && cs.all (fun b => Nat.blt b.toNat 128) && Nat.blt l.length 1000 && Nat.blt cs.length 1000) with
  | false => rw [hb] at e; cases e
  | true =>
    rw [hb] at e
    simp only [cond_true] at e
    split at e <;> try (cases e; done)
    rename_i r hr
    simp only [Option.some.injEq, Prod.mk.injEq] at e
    obtain ⟨rfl, rfl⟩ := e
    simp only [Bool.and_eq_true, Nat.blt_eq] at hb
    obtain ⟨⟨⟨ha, hcs⟩, hl⟩, hcl⟩ := hb
    intro F β w vs s rl
    obtain ⟨u, us, e1, ru, v, vs2, e2, rv, e3⟩ := rl
    have e3' : vs2 = [] := e3
    subst e3'
    obtain ⟨t, rfl, hs⟩ := aSym_rel hx ru
    have rv : v = .string ⟨cs.toArray⟩ := rv
    subst rv
    have hvs : vs = #[.string ⟨t.toArray⟩, .string ⟨cs.toArray⟩] := by rw [← Array.toArray_toList (xs := vs), e1, e2]
    subst hvs
    have hlen : t.length = l.length := hs.length
    refine .inl ⟨hc, (hk ⟨t.toArray⟩ ⟨cs.toArray⟩ w ?_ ?_ ?_ ?_).mono ?_⟩
    · show t.toArray.size < _
      simp; omega
    · show cs.toArray.size < _
      simp; omega
    · intro j b hj
      have hj : t[j]? = some b := by simpa using hj
      have hjl : j < l.length := by
        rcases Nat.lt_or_ge j l.length with q | q
        · exact q
        · rw [List.getElem?_eq_none (by omega)] at hj; cases hj
      obtain ⟨b', h1, h2⟩ := hs.get (List.getElem?_eq_getElem hjl)
      rw [hj] at h1
      cases h1
      have := List.all_eq_true.1 ha _ (List.getElem_mem hjl)
      have := of_decide_eq_true this
      have := (linV_bound F.V l[j]).2
      have h2 : (b.toNat : Int) = linV F.V.ρ l[j] := h2
      omega
    · intro j b hj
      have hj : cs[j]? = some b := by simpa using hj
      have := List.all_eq_true.1 hcs b (List.mem_of_getElem? hj)
      simpa using this
    · rintro e w' ⟨rfl, hb⟩
      refine ⟨β, h, .ret (.int .i64 r), ⟨rfl, rfl⟩, s.grown hb, _, rfl, ?_⟩
      show Value.int .i64 _ = .int .i64 r
      congr 1
      show Lib.indexAny (t.toArray).toList (cs.toArray).toList = r
      have := sIdxAny_ok hr hs
      simp only [List.toList_toArray] at *
      rcases this with ⟨h1, h2⟩ | ⟨h1, h2⟩
      · rw [h1, h2]
      · omega
end Go.AH
namespace Go.AH
open Go
set_option linter.unusedVariables false
set_option linter.unusedSimpArgs false
set_option maxRecDepth 10000
/-! ### a bit of an address of four bytes -/
def bitRes (n : Nat) : AV := mkLin .i64 (nC 0 (20 + 8 * (n / 8) + (7 - n % 8)))
def bitA (m : Nat) (x : AV) : Option AV := match octE x with
  | some e => bif divOk ((2 ^ m : Nat) : Int) e then (bif divOk 2 (divL ((2 ^ m : Nat) : Int) e) then some (mkLin .i64 (remL 2 (divL ((2 ^ m : Nat) : Int) e))) else none) else none
  | none => none
def pick4 (k : Nat) (b0 b1 b2 b3 : AV) : AV := match k with
  | 0 => b0 | 1 => b1 | 2 => b2 | _ => b3
def spBit (args : List AV) (h : Heap) : Option OutH := match args, h with
  | [.agg (.int .i64 4 :: b0 :: b1 :: b2 :: b3 :: z), .int .i64 n], [] =>
    bif Nat.blt n.toNat 32 && decide (0 ≤ n) && eqAL z z12 then
      (match octE b0, octE b1, octE b2, octE b3, bitA (7 - n.toNat % 8) (pick4 (n.toNat / 8) b0 b1 b2 b3) with
      | some _, some _, some _, some _, some r => some (r, [])
      | _, _, _, _, _ => none) else none
  | _, _ => none
theorem bitA_val {m : Nat} {x y : AV} {c : Ctx} {v : Value} {e : List Int} {b : Nat} (h : bitA m x = some y) (hx : octE x = some e) (he : linV c.V.ρ e = (b : Int)) (hv : v = .int .i64 ((b / 2 ^ m % 2 : Nat) : Int)) : Rel c y v := by
  unfold bitA at h
  rw [hx] at h
  simp only at h
  cases h1 : divOk ((2 ^ m : Nat) : Int) e with
  | false => rw [h1] at h; cases h
  | true =>
    rw [h1, cond_true] at h
    cases h2 : divOk 2 (divL ((2 ^ m : Nat) : Int) e) with
    | false => rw [h2] at h; cases h
    | true =>
      rw [h2, cond_true] at h
      simp only [Option.some.injEq] at h
      subst h
      obtain ⟨_, q1, _⟩ := divOk_val c.V h1
      obtain ⟨_, _, q2⟩ := divOk_val c.V h2
      rw [hv]
      apply mkLin_iff.2
      rw [← q2, ← q1, he]
      congr 1
theorem spBit_ok {P : Program} {f : FuncId} (runs : ∀ n, n < 32 → ACalls P f (maskArgs n) [] (fun r h => r = .ret (bitRes n) ∧ h = [])) {args : List AV} {h h' : Heap} {r : AV} (e : spBit args h = some (r, h')) : ACalls P f args h (fun r' h'' => r' = .ret r ∧ h'' = h') := by
  unfold spBit at e
  split at e <;> try (cases e; done)
  rename_i b0 b1 b2 b3 z n
  cases hc : (Nat.blt n.toNat 32 && decide (0 ≤ n) && eqAL z z12)
  · rw [hc] at e; cases e
  rw [hc, cond_true] at e
  simp only [Bool.and_eq_true, decide_eq_true_eq, Nat.blt_eq] at hc
  obtain ⟨⟨hn1, hn0⟩, hz⟩ := hc
  have hz := eqAL_eq hz
  subst hz
  split at e <;> try (cases e; done)
  rename_i e0 e1 e2 e3 y o0 o1 o2 o3 hy
  simp only [Option.some.injEq, Prod.mk.injEq] at e
  obtain ⟨rfl, rfl⟩ := e
  obtain ⟨N, rfl⟩ : ∃ N : Nat, n = (N : Int) := ⟨n.toNat, by omega⟩
  simp only [Int.toNat_natCast] at hn1 hy
  refine named_call closed_nil closed_nil fun c vs rl => ?_
  obtain ⟨v, ws, rfl, ⟨⟨ul⟩, rfl, q⟩, rn⟩ := relL_cons.1 rl
  obtain ⟨u4, us, rfl, r4, q⟩ := relL_cons.1 q
  obtain ⟨u0, us, rfl, r0, q⟩ := relL_cons.1 q
  obtain ⟨u1, us, rfl, r1, q⟩ := relL_cons.1 q
  obtain ⟨u2, us, rfl, r2, q⟩ := relL_cons.1 q
  obtain ⟨u3, us, rfl, r3, qz⟩ := relL_cons.1 q
  obtain ⟨g0, f0⟩ := octE_num o0
  obtain ⟨g1, f1⟩ := octE_num o1
  obtain ⟨g2, f2⟩ := octE_num o2
  obtain ⟨g3, f3⟩ := octE_num o3
  obtain ⟨x0, l0, k0⟩ := oct_of (x := b0) c f0
  obtain ⟨x1, l1, k1⟩ := oct_of (x := b1) c f1
  obtain ⟨x2, l2, k2⟩ := oct_of (x := b2) c f2
  obtain ⟨x3, l3, k3⟩ := oct_of (x := b3) c f3
  have r0 := aNum_rel g0 r0
  have r1 := aNum_rel g1 r1
  have r2 := aNum_rel g2 r2
  have r3 := aNum_rel g3 r3
  rw [k0] at r0
  rw [k1] at r1
  rw [k2] at r2
  rw [k3] at r3
  subst r0 r1 r2 r3
  have bv : ∀ k (hk : k < 4), linV (withG c.V (bitsG (x4 x0 x1 x2 x3)) (bitsG_dom _)).ρ (bitF 0 8 k) = ((x4 x0 x1 x2 x3 k : Nat) : Int) := fun k hk => by
    rw [bitF_val _ _ _ _ _ (by omega) (by omega), Nat.mod_eq_of_lt, Nat.zero_add]
    have : k = 0 ∨ k = 1 ∨ k = 2 ∨ k = 3 := by omega
    rcases this with rfl | rfl | rfl | rfl <;> assumption
  refine ⟨withG c.V (bitsG (x4 x0 x1 x2 x3)) (bitsG_dom _), rfl, maskArgs N, bitRes N, ?_, runs N hn1, ?_⟩
  · refine ⟨_, _, rfl, ⟨_, rfl, ⟨_, _, rfl, r4, _, _, rfl, ?_, _, _, rfl, ?_, _, _, rfl, ?_, _, _, rfl, ?_, relL_z12 qz⟩⟩, ?_⟩
    · exact mkLin_iff.2 (congrArg (Value.int .u8) (bv 0 (by omega)).symm)
    · exact mkLin_iff.2 (congrArg (Value.int .u8) (bv 1 (by omega)).symm)
    · exact mkLin_iff.2 (congrArg (Value.int .u8) (bv 2 (by omega)).symm)
    · exact mkLin_iff.2 (congrArg (Value.int .u8) (bv 3 (by omega)).symm)
    · obtain ⟨a, b, rfl, h1, h2⟩ := relL_cons.1 rn
      exact ⟨a, b, rfl, h1, h2⟩
  · intro c2 v ec rv
    have rv := mkLin_iff.1 rv
    change v = Value.int .i64 (linV (withG c.V (bitsG (x4 x0 x1 x2 x3)) (bitsG_dom _)).ρ _) at rv
    rw [nC_val, Int.zero_add, bitsG_at _ _ _ _ (by omega) (by omega)] at rv
    rw [← ec] at k0 k1 k2 k3
    have hk : N / 8 = 0 ∨ N / 8 = 1 ∨ N / 8 = 2 ∨ N / 8 = 3 := by omega
    rcases hk with hk | hk | hk | hk <;> rw [hk] at hy rv
    · exact bitA_val hy o0 k0 rv
    · exact bitA_val hy o1 k1 rv
    · exact bitA_val hy o2 k2 rv
    · exact bitA_val hy o3 k3 rv
end Go.AH
