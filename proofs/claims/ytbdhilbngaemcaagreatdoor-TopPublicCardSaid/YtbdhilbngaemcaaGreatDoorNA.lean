/- Calls by classes of an address; digits and bytes, one by one. No condition. -/
import Derived.Test.YtbdhilbngaemcaaGreatDoorMC
set_option linter.unusedVariables false
set_option linter.unusedSimpArgs false
namespace Go.Proofs
open Go Go.AH
set_option maxRecDepth 100000
/-! ### calls by classes of an address -/
noncomputable def okS (e : Option OutH) (r : AV) (h' : Heap) : Bool := match e with
  | some o => bif lesS r o.1 then eqH o.2 h' else false
  | none => false
noncomputable def okCl (sp : CallF) (e : KCall) (cl : Cls) : Bool :=
  okS ((rAll Tryz.prog (IT sp) 3000).body e.f (sbTL cl e.args) (mapH2 (sbTB cl) e.h)) (sbT cl e.r) (mapH2 (sbTB cl) e.h1)
/-- The ninth address is the j-th one. -/
def jCall (j : Nat) (e : KCall) : KCall := ⟨e.f, rnL j e.args, mapH2 (rnB j) e.h, rnA j e.r, mapH2 (rnB j) e.h1⟩
def okE (tx : Bool) (e : KCall) : Bool := okXL tx e.args && allH2 (okXB tx) e.h && okX tx e.r && allH2 (okXB tx) e.h1
theorem cls_ok {sp : CallF} (hs : CallOk Tryz.prog sp) {e : KCall} {L : List Cls} {tx : Bool} (htx : ∀ cl ∈ L, cl.tx = tx) (ke : okE tx e = true) {j : Nat} (cov : ∀ V : Val, ∃ cl ∈ L, ∃ V', ClsOk V V' j cl)
    (q : ∀ cl ∈ L, okCl sp e cl = true) : KOk (jCall j e) := by
  unfold okE at ke
  simp only [Bool.and_eq_true] at ke
  obtain ⟨⟨⟨k1, k2⟩, k3⟩, k4⟩ := ke
  refine class_call tx L htx k1 k2 k3 k4 cov ?_
  intro cl hcl
  have := q cl hcl
  unfold okCl okS at this
  split at this
  · rename_i o ho
    cases hl : lesS (sbT cl e.r) o.1 with
    | false => rw [hl] at this; cases this
    | true =>
      rw [hl] at this
      have e2 := eqH_eq this
      obtain ⟨o1, o2⟩ := o
      have e2 : o2 = mapH2 (sbTB cl) e.h1 := e2
      subst e2
      exact ⟨o1, hl, (run_ok (IT_ok hs) 3000).body _ _ _ _ _ ho⟩
  · cases this
/-- Of a list of classes, in parts. -/
theorem allC_part {α : Type} {g : α → Bool} {l : List α} {k : Nat} (h1 : allC g (l.take k) = true) (h2 : allC g (l.drop k) = true) : allC g l = true := by
  have : ∀ x ∈ l, g x = true := by
    intro x hx
    rw [← List.take_append_drop k l] at hx
    rcases List.mem_append.1 hx with q | q
    · exact allC_ok h1 x q
    · exact allC_ok h2 x q
  clear h1 h2
  induction l with
  | nil => rfl
  | cons a l ih =>
    show (bif g a then allC g l else false) = true
    rw [this a (by simp)]
    exact ih (fun x hx => this x (by simp [hx]))
theorem allC_mem {α : Type} {g : α → Bool} {l : List α} (h : ∀ x ∈ l, g x = true) : allC g l = true := by
  induction l with
  | nil => rfl
  | cons a l ih =>
    show (bif g a then allC g l else false) = true
    rw [h a (by simp)]
    exact ih (fun x hx => h x (by simp [hx]))
end Go.Proofs
namespace Go.Proofs
open Go Go.AH
set_option maxRecDepth 100000
set_option linter.unusedVariables false
/-! ### classes of four bytes by their digits, one by one -/
structure Q4 where
  a : Nat
  b : Nat
  c : Nat
  d : Nat
def qAll : List Q4 := [0, 1, 2].flatMap fun a => [0, 1, 2].flatMap fun b => [0, 1, 2].flatMap fun c => [0, 1, 2].map fun d => ⟨a, b, c, d⟩
def qCls (q : Q4) : Cls := digCls q.a q.b q.c q.d
theorem digAll_q : digAll = qAll.map qCls := rfl
def u32E (q : Q4) : List Int := strip (addL (mulL 16777216 (nfk q.a 0)) (addL (mulL 65536 (nfk q.b 1)) (addL (mulL 256 (nfk q.c 2)) (nfk q.d 3))))
/-- four.Strict; four.Print. -/
def e131 (q : Q4) : KCall := ⟨131, [mkSym (qCls q).dg], [], .tup [mkLin .u32 (u32E q), .bool true], []⟩
def e82 (q : Q4) : KCall := ⟨82, [mkLin .u32 (u32E q)], [], mkSym (qCls q).dg, []⟩
noncomputable def okR (E : List KCall) (e : KCall) : Bool := okRun ((rAll Tryz.prog (IT (spL E)) 3000).body e.f e.args e.h) e.r e.h1
theorem okR_ok {E : List KCall} (he : ∀ e ∈ E, KOk e) {e : KCall} (q : okR E e = true) : KOk e := kok_run he 3000 q
/-- A call for each class of the list: what is known for the class stands ahead. -/
theorem quad_ok {e : KCall} {g : Q4 → List KCall} (hg : ∀ q ∈ qAll, ∀ x ∈ g q, KOk x) (ke : okE true e = true) (runs : ∀ q ∈ qAll, okCl (spL (g q)) e (qCls q) = true) (j : Nat) : KOk (jCall j e) := by
  unfold okE at ke
  simp only [Bool.and_eq_true] at ke
  obtain ⟨⟨⟨k1, k2⟩, k3⟩, k4⟩ := ke
  refine class_call true digAll digAll_tx k1 k2 k3 k4 (covDig j) ?_
  intro cl hcl
  rw [digAll_q] at hcl
  obtain ⟨q, hq, rfl⟩ := List.mem_map.1 hcl
  have := runs q hq
  unfold okCl okS at this
  split at this
  · rename_i o ho
    cases hl : lesS (sbT (qCls q) e.r) o.1 with
    | false => rw [hl] at this; cases this
    | true =>
      rw [hl] at this
      have e2 := eqH_eq this
      obtain ⟨o1, o2⟩ := o
      have e2 : o2 = mapH2 (sbTB (qCls q)) e.h1 := e2
      subst e2
      exact ⟨o1, hl, (run_ok (IT_ok (spL_ok (hg q hq))) 3000).body _ _ _ _ _ ho⟩
  · cases this
/-- By its text's length alone. -/
theorem chr_ok {e : KCall} {E : List KCall} (he : ∀ x ∈ E, KOk x) (ke : okE true e = true) (runs : allC (okCl (spL E) e) chrAll = true) (j : Nat) : KOk (jCall j e) :=
  cls_ok (spL_ok he) chrAll_tx ke (chr_cov j) (fun cl hcl => allC_ok runs cl hcl)
/-! ### other values that are the same -/
theorem kok_res {f : Nat} {args : List AV} {h h1 : Heap} {r r2 : AV} (conv : ∀ (c : Ctx) (v : Value), Rel c r v → Rel c r2 v) (k : KOk ⟨f, args, h, r, h1⟩) : KOk ⟨f, args, h, r2, h1⟩ := by
  intro F β w vs s rl
  refine (k F β w vs s rl).mono ?_
  rintro e w' ⟨β', h2, r', ⟨rfl, rfl⟩, g, v', rfl, rv⟩
  exact ⟨β', _, _, ⟨rfl, rfl⟩, g, v', rfl, conv _ _ rv⟩
theorem kok_args {f : Nat} {args args2 : List AV} {h h1 : Heap} {r : AV} (conv : ∀ (c : Ctx) (vs : List Value), RelL c args2 vs → RelL c args vs) (k : KOk ⟨f, args, h, r, h1⟩) : KOk ⟨f, args2, h, r, h1⟩ :=
  fun F β w vs s rl => k F β w vs s (conv _ _ rl)
/-- text.Number of three digits. -/
def s99 (k : Nat) : KCall := ⟨99, [.sym (dgk 2 k), .int .i64 10], [], .tup [mkLin .i64 (nfk 2 k), .bool true], []⟩
def t99 (k : Nat) : KCall := ⟨99, [.sym (dgk 2 k), .int .i64 10], [], .tup [mkLin .i64 (sumE k), .bool true], []⟩
theorem t99_all : allR (fun k => okR [] (t99 k)) 0 4 = true := by decide +kernel
theorem s99_k (k : Nat) (hk : k < 4) : KOk (s99 k) := kok_res (fun c v r => thr_rel hk r) (okR_ok (E := []) kok_nil (allR_ok t99_all k (by omega) (by omega)))
/-- four.number of one piece. -/
def s355 (l k : Nat) : KCall := ⟨355, [.sym (dgk l k)], [], .tup [mkLin .i64 (nfk l k), .bool true], []⟩
def t355 (x : Nat) : KCall := ⟨355, [.str [UInt8.ofNat (48 + x)]], [], .tup [.int .i64 (x : Int), .bool true], []⟩
theorem t355_all : allR (fun x => okR [] (t355 x)) 0 10 = true := by decide +kernel
theorem s355_0 (k : Nat) (hk : k < 4) : KOk (s355 0 k) := digit_enum hk (fun x hx => okR_ok (E := []) (e := t355 x) kok_nil (allR_ok t355_all x (by omega) (by omega)))
theorem t355_1 : allR (fun k => okR [] (s355 1 k)) 0 4 = true := by decide +kernel
def u355 (k : Nat) : KCall := ⟨355, [.sym (dgk 2 k)], [], .tup [mkLin .i64 (sumE k), .bool true], []⟩
theorem t355_2 : allR (fun k => okR [] (u355 k)) 0 4 = true := by decide +kernel
theorem s355_1 (k : Nat) (hk : k < 4) : KOk (s355 1 k) := okR_ok (E := []) kok_nil (allR_ok t355_1 k (by omega) (by omega))
theorem s355_2 (k : Nat) (hk : k < 4) : KOk (s355 2 k) := kok_res (fun c v r => thr_rel hk r) (okR_ok (E := []) kok_nil (allR_ok t355_2 k (by omega) (by omega)))
/-- abatisref01.Decimal of a byte. -/
def s35 (l k : Nat) : KCall := ⟨35, [mkLin .i64 (nfk l k)], [], .sym (dgk l k), []⟩
def t35 (k : Nat) : KCall := ⟨35, [mkLin .i64 (sumE k)], [], .sym (dgk 2 k), []⟩
theorem t35_0 : allR (fun k => okR [] (s35 0 k)) 0 4 = true := by decide +kernel
theorem t35_1 : allR (fun k => okR [] (s35 1 k)) 0 4 = true := by decide +kernel
theorem t35_2 : allR (fun k => okR [] (t35 k)) 0 4 = true := by decide +kernel
theorem s35_0 (k : Nat) (hk : k < 4) : KOk (s35 0 k) := okR_ok (E := []) kok_nil (allR_ok t35_0 k (by omega) (by omega))
theorem s35_1 (k : Nat) (hk : k < 4) : KOk (s35 1 k) := okR_ok (E := []) kok_nil (allR_ok t35_1 k (by omega) (by omega))
theorem s35_2 (k : Nat) (hk : k < 4) : KOk (s35 2 k) := kok_args (args := [mkLin .i64 (sumE k)]) (fun c vs rl => by
  obtain ⟨v, ws, rfl, h1, h2⟩ := relL_cons.1 rl
  refine relL_cons.2 ⟨v, ws, rfl, ?_, h2⟩
  rw [mkLin_iff] at h1 ⊢
  rw [h1]
  unfold sumE
  rw [linV_strip, dgk_val c.V 2 k hk]) (okR_ok (E := []) kok_nil (allR_ok t35_2 k (by omega) (by omega)))
/-- text.Decimal of a byte. -/
def s46 (l k : Nat) : KCall := ⟨46, [mkLin .i64 (nfk l k)], [], .sym (dgk l k), []⟩
theorem t46 : allR (fun i => okR [] (s46 (i % 3) (i / 3))) 0 12 = true := by decide +kernel
theorem s46_k (l k : Nat) (hl : l < 3) (hk : k < 4) : KOk (s46 l k) := by
  have := okR_ok (E := []) kok_nil (allR_ok t46 (l + 3 * k) (by omega) (by omega))
  rw [show (l + 3 * k) % 3 = l by omega, show (l + 3 * k) / 3 = k by omega] at this
  exact this
end Go.Proofs
namespace Go.Proofs
open Go Go.AH
set_option maxRecDepth 100000
/-! ### bytes that are looked at, one by one -/
def l268 : List KCall := [
  ⟨268, [.int .i32 46], [], .bool true, []⟩,
  ⟨268, [.int .i32 116], [], .bool true, []⟩,
  ⟨268, [.int .i32 47], [], .bool true, []⟩,
  ⟨268, [.int .i32 104], [], .bool true, []⟩,
  ⟨268, [.int .i32 112], [], .bool true, []⟩,
  ⟨268, [.int .i32 58], [], .bool true, []⟩,
  ⟨268, [.lin .i32 [48, 0, 0, 1]], [], .bool true, []⟩,
  ⟨268, [.lin .i32 [48, 0, 0, 0, 0, 0, 0, 0, 1]], [], .bool true, []⟩,
  ⟨268, [.lin .i32 [48, 0, 0, 0, 0, 0, 0, 0, 0, 0, 0, 0, 0, 1]], [], .bool true, []⟩,
  ⟨268, [.lin .i32 [48, 0, 0, 0, 0, 0, 0, 0, 0, 0, 0, 0, 0, 0, 0, 0, 0, 0, 1]], [], .bool true, []⟩,
  ⟨268, [.lin .i32 [49, 0, 0, 0, 0, 0, 0, 0, 0, 0, 0, 0, 0, 0, 0, 0, 0, 0, 0, 1]], [], .bool true, []⟩,
  ⟨268, [.lin .i32 [49, 0, 0, 0, 0, 0, 0, 0, 0, 0, 0, 0, 0, 0, 0, 0, 1]], [], .bool true, []⟩,
  ⟨268, [.lin .i32 [48, 0, 0, 0, 0, 0, 0, 0, 0, 0, 0, 0, 0, 0, 0, 0, 0, 1]], [], .bool true, []⟩,
  ⟨268, [.lin .i32 [49, 0, 0, 0, 0, 0, 0, 0, 0, 0, 0, 0, 0, 0, 1]], [], .bool true, []⟩,
  ⟨268, [.lin .i32 [49, 0, 0, 0, 0, 0, 0, 0, 0, 0, 0, 1]], [], .bool true, []⟩,
  ⟨268, [.lin .i32 [48, 0, 0, 0, 0, 0, 0, 0, 0, 0, 0, 0, 1]], [], .bool true, []⟩,
  ⟨268, [.lin .i32 [49, 0, 0, 0, 0, 0, 0, 0, 0, 1]], [], .bool true, []⟩,
  ⟨268, [.lin .i32 [49, 0, 0, 0, 0, 0, 1]], [], .bool true, []⟩,
  ⟨268, [.lin .i32 [48, 0, 0, 0, 0, 0, 0, 1]], [], .bool true, []⟩,
  ⟨268, [.lin .i32 [49, 0, 0, 0, 1]], [], .bool true, []⟩,
  ⟨268, [.lin .i32 [49, 1]], [], .bool true, []⟩,
  ⟨268, [.lin .i32 [48, 0, 1]], [], .bool true, []⟩]
theorem l268_all : allC (okR []) l268 = true := by decide +kernel
theorem l268_k : ∀ e ∈ l268, KOk e := fun e he => okR_ok kok_nil (allC_ok l268_all e he)
def l266 : List KCall := [
  ⟨266, [.int .i32 46], [], .bool false, []⟩,
  ⟨266, [.lin .i32 [48, 0, 0, 1]], [], .bool false, []⟩,
  ⟨266, [.lin .i32 [48, 0, 0, 0, 0, 0, 0, 0, 1]], [], .bool false, []⟩,
  ⟨266, [.lin .i32 [48, 0, 0, 0, 0, 0, 0, 0, 0, 0, 0, 0, 0, 1]], [], .bool false, []⟩,
  ⟨266, [.lin .i32 [48, 0, 0, 0, 0, 0, 0, 0, 0, 0, 0, 0, 0, 0, 0, 0, 0, 0, 1]], [], .bool false, []⟩,
  ⟨266, [.lin .i32 [49, 0, 0, 0, 0, 0, 0, 0, 0, 0, 0, 0, 0, 0, 0, 0, 0, 0, 0, 1]], [], .bool false, []⟩,
  ⟨266, [.lin .i32 [49, 0, 0, 0, 0, 0, 0, 0, 0, 0, 0, 0, 0, 0, 0, 0, 1]], [], .bool false, []⟩,
  ⟨266, [.lin .i32 [48, 0, 0, 0, 0, 0, 0, 0, 0, 0, 0, 0, 0, 0, 0, 0, 0, 1]], [], .bool false, []⟩,
  ⟨266, [.lin .i32 [49, 0, 0, 0, 0, 0, 0, 0, 0, 0, 0, 0, 0, 0, 1]], [], .bool false, []⟩,
  ⟨266, [.lin .i32 [49, 0, 0, 0, 0, 0, 0, 0, 0, 0, 0, 1]], [], .bool false, []⟩,
  ⟨266, [.lin .i32 [48, 0, 0, 0, 0, 0, 0, 0, 0, 0, 0, 0, 1]], [], .bool false, []⟩,
  ⟨266, [.lin .i32 [49, 0, 0, 0, 0, 0, 0, 0, 0, 1]], [], .bool false, []⟩,
  ⟨266, [.lin .i32 [49, 0, 0, 0, 0, 0, 1]], [], .bool false, []⟩,
  ⟨266, [.lin .i32 [48, 0, 0, 0, 0, 0, 0, 1]], [], .bool false, []⟩,
  ⟨266, [.lin .i32 [49, 0, 0, 0, 1]], [], .bool false, []⟩,
  ⟨266, [.lin .i32 [49, 1]], [], .bool false, []⟩,
  ⟨266, [.lin .i32 [48, 0, 1]], [], .bool false, []⟩]
theorem l266_all : allC (okR []) l266 = true := by decide +kernel
theorem l266_k : ∀ e ∈ l266, KOk e := fun e he => okR_ok kok_nil (allC_ok l266_all e he)
def l40 : List KCall := [
  ⟨40, [.int .i32 32], [], .bool true, []⟩,
  ⟨40, [.int .i32 116], [], .bool false, []⟩,
  ⟨40, [.int .i32 104], [], .bool false, []⟩,
  ⟨40, [.int .i32 112], [], .bool false, []⟩,
  ⟨40, [.int .i32 58], [], .bool false, []⟩,
  ⟨40, [.int .i32 47], [], .bool false, []⟩,
  ⟨40, [.int .i32 46], [], .bool false, []⟩,
  ⟨40, [.int .i32 101], [], .bool false, []⟩,
  ⟨40, [.int .i32 115], [], .bool false, []⟩,
  ⟨40, [.int .i32 97], [], .bool false, []⟩,
  ⟨40, [.int .i32 111], [], .bool false, []⟩,
  ⟨40, [.int .i32 110], [], .bool false, []⟩,
  ⟨40, [.int .i32 102], [], .bool false, []⟩,
  ⟨40, [.int .i32 99], [], .bool false, []⟩,
  ⟨40, [.int .i32 117], [], .bool false, []⟩,
  ⟨40, [.int .i32 98], [], .bool false, []⟩,
  ⟨40, [.int .i32 108], [], .bool false, []⟩,
  ⟨40, [.int .i32 105], [], .bool false, []⟩,
  ⟨40, [.int .i32 48], [], .bool false, []⟩,
  ⟨40, [.int .i32 49], [], .bool false, []⟩,
  ⟨40, [.int .i32 71], [], .bool false, []⟩,
  ⟨40, [.int .i32 69], [], .bool false, []⟩,
  ⟨40, [.int .i32 84], [], .bool false, []⟩,
  ⟨40, [.lin .i32 [46, 0, 0, 0, 0, 0, 0, 0, 0, 0, 0, 0, 0, 0, 0, 0, 0, 0, 0, 0, 0, 0, 0, 0, 0, 0, 0, 0, 0, 0, 0, 0, 0, 0, 0, 0, 0, 0, 0, 0, 0, 0, 0, 0, 0, 0, 0, 0, 0, 0, 0, 0, 0, 0, 0, 0, 0, 0, 0, 0, 0, 0, 0, 0, 0, 0, 0, 0, 0, 0, 0, 0, 0, 1]], [], .bool false, []⟩,
  ⟨40, [.lin .i32 [46, 0, 0, 0, 0, 0, 0, 0, 0, 0, 0, 0, 0, 0, 0, 0, 0, 0, 0, 0, 0, 0, 0, 0, 0, 0, 0, 0, 0, 0, 0, 0, 0, 0, 0, 0, 0, 0, 0, 0, 0, 0, 0, 0, 0, 0, 0, 0, 0, 0, 0, 0, 0, 0, 0, 0, 0, 0, 0, 0, 0, 0, 0, 0, 0, 0, 0, 0, 0, 0, 0, 0, 0, 0, 1]], [], .bool false, []⟩,
  ⟨40, [.lin .i32 [46, 0, 0, 0, 0, 0, 0, 0, 0, 0, 0, 0, 0, 0, 0, 0, 0, 0, 0, 0, 0, 0, 0, 0, 0, 0, 0, 0, 0, 0, 0, 0, 0, 0, 0, 0, 0, 0, 0, 0, 0, 0, 0, 0, 0, 0, 0, 0, 0, 0, 0, 0, 0, 0, 0, 0, 0, 0, 0, 0, 0, 0, 0, 0, 0, 0, 0, 0, 0, 0, 0, 0, 0, 0, 0, 1]], [], .bool false, []⟩,
  ⟨40, [.lin .i32 [46, 0, 0, 0, 0, 0, 0, 0, 0, 0, 0, 0, 0, 0, 0, 0, 0, 0, 0, 0, 0, 0, 0, 0, 0, 0, 0, 0, 0, 0, 0, 0, 0, 0, 0, 0, 0, 0, 0, 0, 0, 0, 0, 0, 0, 0, 0, 0, 0, 0, 0, 0, 0, 0, 0, 0, 0, 0, 0, 0, 0, 0, 0, 0, 0, 0, 0, 0, 0, 0, 0, 0, 0, 0, 0, 0, 1]], [], .bool false, []⟩,
  ⟨40, [.lin .i32 [46, 0, 0, 0, 0, 0, 0, 0, 0, 0, 0, 0, 0, 0, 0, 0, 0, 0, 0, 0, 0, 0, 0, 0, 0, 0, 0, 0, 0, 0, 0, 0, 0, 0, 0, 0, 0, 0, 0, 0, 0, 0, 0, 0, 0, 0, 0, 0, 0, 0, 0, 0, 0, 0, 0, 0, 0, 0, 0, 0, 0, 0, 0, 0, 0, 0, 0, 0, 0, 0, 0, 0, 0, 0, 0, 0, 0, 1]], [], .bool false, []⟩,
  ⟨40, [.lin .i32 [46, 0, 0, 0, 0, 0, 0, 0, 0, 0, 0, 0, 0, 0, 0, 0, 0, 0, 0, 0, 0, 0, 0, 0, 0, 0, 0, 0, 0, 0, 0, 0, 0, 0, 0, 0, 0, 0, 0, 0, 0, 0, 0, 0, 0, 0, 0, 0, 0, 0, 0, 0, 0, 0, 0, 0, 0, 0, 0, 0, 0, 0, 0, 0, 0, 0, 0, 0, 0, 0, 0, 0, 0, 0, 0, 0, 0, 0, 1]], [], .bool false, []⟩,
  ⟨40, [.lin .i32 [46, 0, 0, 0, 0, 0, 0, 0, 0, 0, 0, 0, 0, 0, 0, 0, 0, 0, 0, 0, 0, 0, 0, 0, 0, 0, 0, 0, 0, 0, 0, 0, 0, 0, 0, 0, 0, 0, 0, 0, 0, 0, 0, 0, 0, 0, 0, 0, 0, 0, 0, 0, 0, 0, 0, 0, 0, 0, 0, 0, 0, 0, 0, 0, 0, 0, 0, 0, 0, 0, 0, 0, 0, 0, 0, 0, 0, 0, 0, 1]], [], .bool false, []⟩,
  ⟨40, [.lin .i32 [46, 0, 0, 0, 0, 0, 0, 0, 0, 0, 0, 0, 0, 0, 0, 0, 0, 0, 0, 0, 0, 0, 0, 0, 0, 0, 0, 0, 0, 0, 0, 0, 0, 0, 0, 0, 0, 0, 0, 0, 0, 0, 0, 0, 0, 0, 0, 0, 0, 0, 0, 0, 0, 0, 0, 0, 0, 0, 0, 0, 0, 0, 0, 0, 0, 0, 0, 0, 0, 0, 0, 0, 0, 0, 0, 0, 0, 0, 0, 0, 1]], [], .bool false, []⟩,
  ⟨40, [.lin .i32 [46, 0, 0, 0, 0, 0, 0, 0, 0, 0, 0, 0, 0, 0, 0, 0, 0, 0, 0, 0, 0, 0, 0, 0, 0, 0, 0, 0, 0, 0, 0, 0, 0, 0, 0, 0, 0, 0, 0, 0, 0, 0, 0, 0, 0, 0, 0, 0, 0, 0, 0, 0, 0, 0, 0, 0, 0, 0, 0, 0, 0, 0, 0, 0, 0, 0, 0, 0, 0, 0, 0, 0, 0, 0, 0, 0, 0, 0, 0, 0, 0, 1]], [], .bool false, []⟩,
  ⟨40, [.lin .i32 [46, 0, 0, 0, 0, 0, 0, 0, 0, 0, 0, 0, 0, 0, 0, 0, 0, 0, 0, 0, 0, 0, 0, 0, 0, 0, 0, 0, 0, 0, 0, 0, 0, 0, 0, 0, 0, 0, 0, 0, 0, 0, 0, 0, 0, 0, 0, 0, 0, 0, 0, 0, 0, 0, 0, 0, 0, 0, 0, 0, 0, 0, 0, 0, 0, 0, 0, 0, 0, 0, 0, 0, 0, 0, 0, 0, 0, 0, 0, 0, 0, 0, 1]], [], .bool false, []⟩,
  ⟨40, [.lin .i32 [46, 0, 0, 0, 0, 0, 0, 0, 0, 0, 0, 0, 0, 0, 0, 0, 0, 0, 0, 0, 0, 0, 0, 0, 0, 0, 0, 0, 0, 0, 0, 0, 0, 0, 0, 0, 0, 0, 0, 0, 0, 0, 0, 0, 0, 0, 0, 0, 0, 0, 0, 0, 0, 0, 0, 0, 0, 0, 0, 0, 0, 0, 0, 0, 0, 0, 0, 0, 0, 0, 0, 0, 0, 0, 0, 0, 0, 0, 0, 0, 0, 0, 0, 1]], [], .bool false, []⟩,
  ⟨40, [.lin .i32 [46, 0, 0, 0, 0, 0, 0, 0, 0, 0, 0, 0, 0, 0, 0, 0, 0, 0, 0, 0, 0, 0, 0, 0, 0, 0, 0, 0, 0, 0, 0, 0, 0, 0, 0, 0, 0, 0, 0, 0, 0, 0, 0, 0, 0, 0, 0, 0, 0, 0, 0, 0, 0, 0, 0, 0, 0, 0, 0, 0, 0, 0, 0, 0, 0, 0, 0, 0, 0, 0, 0, 0, 0, 0, 0, 0, 0, 0, 0, 0, 0, 0, 0, 0, 1]], [], .bool false, []⟩,
  ⟨40, [.lin .i32 [46, 0, 0, 0, 0, 0, 0, 0, 0, 0, 0, 0, 0, 0, 0, 0, 0, 0, 0, 0, 0, 0, 0, 0, 0, 0, 0, 0, 0, 0, 0, 0, 0, 0, 0, 0, 0, 0, 0, 0, 0, 0, 0, 0, 0, 0, 0, 0, 0, 0, 0, 0, 0, 0, 0, 0, 0, 0, 0, 0, 0, 0, 0, 0, 0, 0, 0, 0, 0, 0, 0, 0, 0, 0, 0, 0, 0, 0, 0, 0, 0, 0, 0, 0, 0, 1]], [], .bool false, []⟩,
  ⟨40, [.lin .i32 [46, 0, 0, 0, 0, 0, 0, 0, 0, 0, 0, 0, 0, 0, 0, 0, 0, 0, 0, 0, 0, 0, 0, 0, 0, 0, 0, 0, 0, 0, 0, 0, 0, 0, 0, 0, 0, 0, 0, 0, 0, 0, 0, 0, 0, 0, 0, 0, 0, 0, 0, 0, 0, 0, 0, 0, 0, 0, 0, 0, 0, 0, 0, 0, 0, 0, 0, 0, 0, 0, 0, 0, 0, 0, 0, 0, 0, 0, 0, 0, 0, 0, 0, 0, 0, 0, 1]], [], .bool false, []⟩,
  ⟨40, [.lin .i32 [46, 0, 0, 0, 0, 0, 0, 0, 0, 0, 0, 0, 0, 0, 0, 0, 0, 0, 0, 0, 0, 0, 0, 0, 0, 0, 0, 0, 0, 0, 0, 0, 0, 0, 0, 0, 0, 0, 0, 0, 0, 0, 0, 0, 0, 0, 0, 0, 0, 0, 0, 0, 0, 0, 0, 0, 0, 0, 0, 0, 0, 0, 0, 0, 0, 0, 0, 0, 0, 0, 0, 0, 0, 0, 0, 0, 0, 0, 0, 0, 0, 0, 0, 0, 0, 0, 0, 1]], [], .bool false, []⟩]
theorem l40_all : allC (okR []) l40 = true := by decide +kernel
theorem l40_k : ∀ e ∈ l40, KOk e := fun e he => okR_ok kok_nil (allC_ok l40_all e he)
def l1266 : List KCall := [
  ⟨266, [.lin .i32 [46, 0, 0, 0, 0, 0, 0, 0, 0, 0, 0, 0, 0, 0, 0, 0, 0, 0, 0, 0, 0, 0, 0, 0, 0, 0, 0, 0, 0, 0, 0, 0, 0, 0, 0, 0, 0, 0, 0, 0, 0, 0, 0, 0, 0, 0, 0, 0, 0, 0, 0, 0, 0, 0, 0, 0, 0, 0, 0, 0, 0, 0, 0, 0, 0, 0, 0, 0, 0, 0, 0, 0, 0, 1]], [], .bool false, []⟩,
  ⟨266, [.lin .i32 [46, 0, 0, 0, 0, 0, 0, 0, 0, 0, 0, 0, 0, 0, 0, 0, 0, 0, 0, 0, 0, 0, 0, 0, 0, 0, 0, 0, 0, 0, 0, 0, 0, 0, 0, 0, 0, 0, 0, 0, 0, 0, 0, 0, 0, 0, 0, 0, 0, 0, 0, 0, 0, 0, 0, 0, 0, 0, 0, 0, 0, 0, 0, 0, 0, 0, 0, 0, 0, 0, 0, 0, 0, 0, 1]], [], .bool false, []⟩,
  ⟨266, [.lin .i32 [46, 0, 0, 0, 0, 0, 0, 0, 0, 0, 0, 0, 0, 0, 0, 0, 0, 0, 0, 0, 0, 0, 0, 0, 0, 0, 0, 0, 0, 0, 0, 0, 0, 0, 0, 0, 0, 0, 0, 0, 0, 0, 0, 0, 0, 0, 0, 0, 0, 0, 0, 0, 0, 0, 0, 0, 0, 0, 0, 0, 0, 0, 0, 0, 0, 0, 0, 0, 0, 0, 0, 0, 0, 0, 0, 1]], [], .bool false, []⟩,
  ⟨266, [.lin .i32 [46, 0, 0, 0, 0, 0, 0, 0, 0, 0, 0, 0, 0, 0, 0, 0, 0, 0, 0, 0, 0, 0, 0, 0, 0, 0, 0, 0, 0, 0, 0, 0, 0, 0, 0, 0, 0, 0, 0, 0, 0, 0, 0, 0, 0, 0, 0, 0, 0, 0, 0, 0, 0, 0, 0, 0, 0, 0, 0, 0, 0, 0, 0, 0, 0, 0, 0, 0, 0, 0, 0, 0, 0, 0, 0, 0, 1]], [], .bool false, []⟩,
  ⟨266, [.lin .i32 [46, 0, 0, 0, 0, 0, 0, 0, 0, 0, 0, 0, 0, 0, 0, 0, 0, 0, 0, 0, 0, 0, 0, 0, 0, 0, 0, 0, 0, 0, 0, 0, 0, 0, 0, 0, 0, 0, 0, 0, 0, 0, 0, 0, 0, 0, 0, 0, 0, 0, 0, 0, 0, 0, 0, 0, 0, 0, 0, 0, 0, 0, 0, 0, 0, 0, 0, 0, 0, 0, 0, 0, 0, 0, 0, 0, 0, 1]], [], .bool false, []⟩,
  ⟨266, [.lin .i32 [46, 0, 0, 0, 0, 0, 0, 0, 0, 0, 0, 0, 0, 0, 0, 0, 0, 0, 0, 0, 0, 0, 0, 0, 0, 0, 0, 0, 0, 0, 0, 0, 0, 0, 0, 0, 0, 0, 0, 0, 0, 0, 0, 0, 0, 0, 0, 0, 0, 0, 0, 0, 0, 0, 0, 0, 0, 0, 0, 0, 0, 0, 0, 0, 0, 0, 0, 0, 0, 0, 0, 0, 0, 0, 0, 0, 0, 0, 1]], [], .bool false, []⟩,
  ⟨266, [.lin .i32 [46, 0, 0, 0, 0, 0, 0, 0, 0, 0, 0, 0, 0, 0, 0, 0, 0, 0, 0, 0, 0, 0, 0, 0, 0, 0, 0, 0, 0, 0, 0, 0, 0, 0, 0, 0, 0, 0, 0, 0, 0, 0, 0, 0, 0, 0, 0, 0, 0, 0, 0, 0, 0, 0, 0, 0, 0, 0, 0, 0, 0, 0, 0, 0, 0, 0, 0, 0, 0, 0, 0, 0, 0, 0, 0, 0, 0, 0, 0, 1]], [], .bool false, []⟩,
  ⟨266, [.lin .i32 [46, 0, 0, 0, 0, 0, 0, 0, 0, 0, 0, 0, 0, 0, 0, 0, 0, 0, 0, 0, 0, 0, 0, 0, 0, 0, 0, 0, 0, 0, 0, 0, 0, 0, 0, 0, 0, 0, 0, 0, 0, 0, 0, 0, 0, 0, 0, 0, 0, 0, 0, 0, 0, 0, 0, 0, 0, 0, 0, 0, 0, 0, 0, 0, 0, 0, 0, 0, 0, 0, 0, 0, 0, 0, 0, 0, 0, 0, 0, 0, 1]], [], .bool false, []⟩,
  ⟨266, [.lin .i32 [46, 0, 0, 0, 0, 0, 0, 0, 0, 0, 0, 0, 0, 0, 0, 0, 0, 0, 0, 0, 0, 0, 0, 0, 0, 0, 0, 0, 0, 0, 0, 0, 0, 0, 0, 0, 0, 0, 0, 0, 0, 0, 0, 0, 0, 0, 0, 0, 0, 0, 0, 0, 0, 0, 0, 0, 0, 0, 0, 0, 0, 0, 0, 0, 0, 0, 0, 0, 0, 0, 0, 0, 0, 0, 0, 0, 0, 0, 0, 0, 0, 1]], [], .bool false, []⟩,
  ⟨266, [.lin .i32 [46, 0, 0, 0, 0, 0, 0, 0, 0, 0, 0, 0, 0, 0, 0, 0, 0, 0, 0, 0, 0, 0, 0, 0, 0, 0, 0, 0, 0, 0, 0, 0, 0, 0, 0, 0, 0, 0, 0, 0, 0, 0, 0, 0, 0, 0, 0, 0, 0, 0, 0, 0, 0, 0, 0, 0, 0, 0, 0, 0, 0, 0, 0, 0, 0, 0, 0, 0, 0, 0, 0, 0, 0, 0, 0, 0, 0, 0, 0, 0, 0, 0, 1]], [], .bool false, []⟩,
  ⟨266, [.lin .i32 [46, 0, 0, 0, 0, 0, 0, 0, 0, 0, 0, 0, 0, 0, 0, 0, 0, 0, 0, 0, 0, 0, 0, 0, 0, 0, 0, 0, 0, 0, 0, 0, 0, 0, 0, 0, 0, 0, 0, 0, 0, 0, 0, 0, 0, 0, 0, 0, 0, 0, 0, 0, 0, 0, 0, 0, 0, 0, 0, 0, 0, 0, 0, 0, 0, 0, 0, 0, 0, 0, 0, 0, 0, 0, 0, 0, 0, 0, 0, 0, 0, 0, 0, 1]], [], .bool false, []⟩,
  ⟨266, [.lin .i32 [46, 0, 0, 0, 0, 0, 0, 0, 0, 0, 0, 0, 0, 0, 0, 0, 0, 0, 0, 0, 0, 0, 0, 0, 0, 0, 0, 0, 0, 0, 0, 0, 0, 0, 0, 0, 0, 0, 0, 0, 0, 0, 0, 0, 0, 0, 0, 0, 0, 0, 0, 0, 0, 0, 0, 0, 0, 0, 0, 0, 0, 0, 0, 0, 0, 0, 0, 0, 0, 0, 0, 0, 0, 0, 0, 0, 0, 0, 0, 0, 0, 0, 0, 0, 1]], [], .bool false, []⟩,
  ⟨266, [.lin .i32 [46, 0, 0, 0, 0, 0, 0, 0, 0, 0, 0, 0, 0, 0, 0, 0, 0, 0, 0, 0, 0, 0, 0, 0, 0, 0, 0, 0, 0, 0, 0, 0, 0, 0, 0, 0, 0, 0, 0, 0, 0, 0, 0, 0, 0, 0, 0, 0, 0, 0, 0, 0, 0, 0, 0, 0, 0, 0, 0, 0, 0, 0, 0, 0, 0, 0, 0, 0, 0, 0, 0, 0, 0, 0, 0, 0, 0, 0, 0, 0, 0, 0, 0, 0, 0, 1]], [], .bool false, []⟩,
  ⟨266, [.lin .i32 [46, 0, 0, 0, 0, 0, 0, 0, 0, 0, 0, 0, 0, 0, 0, 0, 0, 0, 0, 0, 0, 0, 0, 0, 0, 0, 0, 0, 0, 0, 0, 0, 0, 0, 0, 0, 0, 0, 0, 0, 0, 0, 0, 0, 0, 0, 0, 0, 0, 0, 0, 0, 0, 0, 0, 0, 0, 0, 0, 0, 0, 0, 0, 0, 0, 0, 0, 0, 0, 0, 0, 0, 0, 0, 0, 0, 0, 0, 0, 0, 0, 0, 0, 0, 0, 0, 1]], [], .bool false, []⟩,
  ⟨266, [.lin .i32 [46, 0, 0, 0, 0, 0, 0, 0, 0, 0, 0, 0, 0, 0, 0, 0, 0, 0, 0, 0, 0, 0, 0, 0, 0, 0, 0, 0, 0, 0, 0, 0, 0, 0, 0, 0, 0, 0, 0, 0, 0, 0, 0, 0, 0, 0, 0, 0, 0, 0, 0, 0, 0, 0, 0, 0, 0, 0, 0, 0, 0, 0, 0, 0, 0, 0, 0, 0, 0, 0, 0, 0, 0, 0, 0, 0, 0, 0, 0, 0, 0, 0, 0, 0, 0, 0, 0, 1]], [], .bool false, []⟩]
theorem l1266_all : allC (okR []) l1266 = true := by decide +kernel
theorem l1266_k : ∀ e ∈ l1266, KOk e := fun e he => okR_ok kok_nil (allC_ok l1266_all e he)
theorem kok_app {A B : List KCall} (ha : ∀ e ∈ A, KOk e) (hb : ∀ e ∈ B, KOk e) : ∀ e ∈ A ++ B, KOk e := by
  intro e he
  rcases List.mem_append.1 he with h | h
  · exact ha e h
  · exact hb e h
def l46 : List KCall := [s46 0 0, s46 1 0, s46 2 0, s46 0 1, s46 1 1, s46 2 1, s46 0 2, s46 1 2, s46 2 2, s46 0 3, s46 1 3, s46 2 3]
theorem l46_k : ∀ e ∈ l46, KOk e := (kok_cons (s46_k 0 0 (by decide) (by decide)) (kok_cons (s46_k 1 0 (by decide) (by decide)) (kok_cons (s46_k 2 0 (by decide) (by decide)) (kok_cons (s46_k 0 1 (by decide) (by decide)) (kok_cons (s46_k 1 1 (by decide) (by decide)) (kok_cons (s46_k 2 1 (by decide) (by decide)) (kok_cons (s46_k 0 2 (by decide) (by decide)) (kok_cons (s46_k 1 2 (by decide) (by decide)) (kok_cons (s46_k 2 2 (by decide) (by decide)) (kok_cons (s46_k 0 3 (by decide) (by decide)) (kok_cons (s46_k 1 3 (by decide) (by decide)) (kok_cons (s46_k 2 3 (by decide) (by decide)) kok_nil))))))))))))
def l99 : List KCall := [s99 0, s99 1, s99 2, s99 3]
theorem l99_k : ∀ e ∈ l99, KOk e := (kok_cons (s99_k 0 (by decide)) (kok_cons (s99_k 1 (by decide)) (kok_cons (s99_k 2 (by decide)) (kok_cons (s99_k 3 (by decide)) kok_nil))))
def l355 : List KCall := [s355 0 0, s355 1 0, s355 2 0, s355 0 1, s355 1 1, s355 2 1, s355 0 2, s355 1 2, s355 2 2, s355 0 3, s355 1 3, s355 2 3]
theorem l355_k : ∀ e ∈ l355, KOk e := (kok_cons (s355_0 0 (by decide)) (kok_cons (s355_1 0 (by decide)) (kok_cons (s355_2 0 (by decide)) (kok_cons (s355_0 1 (by decide)) (kok_cons (s355_1 1 (by decide)) (kok_cons (s355_2 1 (by decide)) (kok_cons (s355_0 2 (by decide)) (kok_cons (s355_1 2 (by decide)) (kok_cons (s355_2 2 (by decide)) (kok_cons (s355_0 3 (by decide)) (kok_cons (s355_1 3 (by decide)) (kok_cons (s355_2 3 (by decide)) kok_nil))))))))))))
def l35 : List KCall := [s35 0 0, s35 1 0, s35 2 0, s35 0 1, s35 1 1, s35 2 1, s35 0 2, s35 1 2, s35 2 2, s35 0 3, s35 1 3, s35 2 3]
theorem l35_k : ∀ e ∈ l35, KOk e := (kok_cons (s35_0 0 (by decide)) (kok_cons (s35_1 0 (by decide)) (kok_cons (s35_2 0 (by decide)) (kok_cons (s35_0 1 (by decide)) (kok_cons (s35_1 1 (by decide)) (kok_cons (s35_2 1 (by decide)) (kok_cons (s35_0 2 (by decide)) (kok_cons (s35_1 2 (by decide)) (kok_cons (s35_2 2 (by decide)) (kok_cons (s35_0 3 (by decide)) (kok_cons (s35_1 3 (by decide)) (kok_cons (s35_2 3 (by decide)) kok_nil))))))))))))
end Go.Proofs
namespace Go.Proofs
open Go Go.AH
set_option maxRecDepth 100000
/-! ### calls whose arguments hold an address, or its text: the ninth one stands for any -/
def c0 : KCall := ⟨5, [.agg [nI 4, .oct 9 0, .oct 9 1, .oct 9 2, .oct 9 3, uB 0, uB 0, uB 0, uB 0, uB 0, uB 0, uB 0, uB 0, uB 0, uB 0, uB 0, uB 0]], [], .txt [] 9, []⟩
def c1 : KCall := ⟨18, [.txt [111, 112, 101, 110, 32, 104, 116, 116, 112, 58, 47, 47, 97, 46, 116, 101, 115, 116, 32] 9], [], .sl 0 0 3 (some 3), [some (.row [.str [111, 112, 101, 110], .str [104, 116, 116, 112, 58, 47, 47, 97, 46, 116, 101, 115, 116], .txt [] 9] 9 true)]⟩
def c2 : KCall := ⟨98, [.txt [] 9], [], .tup [.agg [nI 4, .oct 9 0, .oct 9 1, .oct 9 2, .oct 9 3, uB 0, uB 0, uB 0, uB 0, uB 0, uB 0, uB 0, uB 0, uB 0, uB 0, uB 0, uB 0], .bool true], []⟩
def c3 : KCall := ⟨18, [.txt [112, 117, 98, 108, 105, 99, 32, 104, 116, 116, 112, 58, 47, 47, 98, 46, 116, 101, 115, 116, 32] 9], [], .sl 0 0 3 (some 3), [some (.row [.str [112, 117, 98, 108, 105, 99], .str [104, 116, 116, 112, 58, 47, 47, 98, 46, 116, 101, 115, 116], .txt [] 9] 9 true)]⟩
def c4 : KCall := ⟨18, [.txt [102, 101, 116, 99, 104, 32, 48, 32, 71, 69, 84, 32, 104, 116, 116, 112, 58, 47, 47] 9], [], .sl 0 0 4 (some 4), [some (.row [.str [102, 101, 116, 99, 104], .str [48], .str [71, 69, 84], .txt [104, 116, 116, 112, 58, 47, 47] 9] 9 true)]⟩
def c5 : KCall := ⟨140, [.txt [104, 116, 116, 112, 58, 47, 47] 9], [], .tup [.agg [.str [104, 116, 116, 112], .txt [] 9, nI 80, .str [47], .str []], nI 0], []⟩
def c6 : KCall := ⟨205, [.txt [] 9], [], .tup [.agg [nI 4, .oct 9 0, .oct 9 1, .oct 9 2, .oct 9 3, uB 0, uB 0, uB 0, uB 0, uB 0, uB 0, uB 0, uB 0, uB 0, uB 0, uB 0, uB 0], .bool true], []⟩
def c7 : KCall := ⟨187, [.txt [] 9], [], .txt [] 9, []⟩
def c8 : KCall := ⟨48, [.agg [nI 4, .oct 9 0, .oct 9 1, .oct 9 2, .oct 9 3, uB 0, uB 0, uB 0, uB 0, uB 0, uB 0, uB 0, uB 0, uB 0, uB 0, uB 0, uB 0]], [], .txt [] 9, []⟩
def c9 : KCall := ⟨49, [.gsl 0 6 1, .str [32]], [some (.row [.str [100, 105, 97, 108, 101, 100], .str [112, 97, 103, 101], .str [48], .str [102, 101, 116, 99, 104], .str [48], .txt [] 9] 9 false)], .bstr 29 37, [some (.row [.str [100, 105, 97, 108, 101, 100], .str [112, 97, 103, 101], .str [48], .str [102, 101, 116, 99, 104], .str [48], .txt [] 9] 9 false)]⟩
def c10 : KCall := ⟨18, [.txt [102, 101, 116, 99, 104, 32, 49, 32, 71, 69, 84, 32, 104, 116, 116, 112, 58, 47, 47] 9], [], .sl 0 0 4 (some 4), [some (.row [.str [102, 101, 116, 99, 104], .str [49], .str [71, 69, 84], .txt [104, 116, 116, 112, 58, 47, 47] 9] 9 true)]⟩
def c11 : KCall := ⟨316, [.agg [.str [104, 116, 116, 112], .txt [] 9, nI 80, .str [47], .str []]], [], .txt [] 9, []⟩
def c12 : KCall := ⟨49, [.gsl 0 7 1, .str [32]], [some (.row [.str [112, 105, 110, 110, 101, 100], .str [112, 97, 103, 101], .str [48], .str [102, 101, 116, 99, 104], .str [48], .txt [] 9, .str [108, 111, 111, 112, 98, 97, 99, 107]] 9 false)], .bstr 38 46, [some (.row [.str [112, 105, 110, 110, 101, 100], .str [112, 97, 103, 101], .str [48], .str [102, 101, 116, 99, 104], .str [48], .txt [] 9, .str [108, 111, 111, 112, 98, 97, 99, 107]] 9 false)]⟩
def c13 : KCall := ⟨49, [.gsl 0 8 1, .str [32]], [some (.row [.str [115, 101, 110, 116], .str [112, 97, 103, 101], .str [48], .str [102, 101, 116, 99, 104], .str [48], .txt [] 9, .str [71, 69, 84], .str [47]] 9 false)], .bstr 33 41, [some (.row [.str [115, 101, 110, 116], .str [112, 97, 103, 101], .str [48], .str [102, 101, 116, 99, 104], .str [48], .txt [] 9, .str [71, 69, 84], .str [47]] 9 false)]⟩
def c14 : KCall := ⟨49, [.gsl 0 7 1, .str [32]], [some (.row [.str [112, 105, 110, 110, 101, 100], .str [112, 97, 103, 101], .str [48], .str [102, 101, 116, 99, 104], .str [48], .txt [] 9, .str [112, 114, 105, 118, 97, 116, 101]] 9 false)], .bstr 37 45, [some (.row [.str [112, 105, 110, 110, 101, 100], .str [112, 97, 103, 101], .str [48], .str [102, 101, 116, 99, 104], .str [48], .txt [] 9, .str [112, 114, 105, 118, 97, 116, 101]] 9 false)]⟩
def c15 : KCall := ⟨49, [.gsl 0 6 1, .str [32]], [some (.row [.str [100, 105, 97, 108, 101, 100], .str [112, 97, 103, 101], .str [49], .str [102, 101, 116, 99, 104], .str [49], .txt [] 9] 9 false)], .bstr 29 37, [some (.row [.str [100, 105, 97, 108, 101, 100], .str [112, 97, 103, 101], .str [49], .str [102, 101, 116, 99, 104], .str [49], .txt [] 9] 9 false)]⟩
def c16 : KCall := ⟨49, [.gsl 0 7 1, .str [32]], [some (.row [.str [112, 105, 110, 110, 101, 100], .str [112, 97, 103, 101], .str [48], .str [102, 101, 116, 99, 104], .str [48], .txt [] 9, .str [112, 117, 98, 108, 105, 99]] 9 false)], .bstr 36 44, [some (.row [.str [112, 105, 110, 110, 101, 100], .str [112, 97, 103, 101], .str [48], .str [102, 101, 116, 99, 104], .str [48], .txt [] 9, .str [112, 117, 98, 108, 105, 99]] 9 false)]⟩
def c17 : KCall := ⟨49, [.gsl 0 7 1, .str [32]], [some (.row [.str [112, 105, 110, 110, 101, 100], .str [112, 97, 103, 101], .str [49], .str [102, 101, 116, 99, 104], .str [49], .txt [] 9, .str [112, 117, 98, 108, 105, 99]] 9 false)], .bstr 36 44, [some (.row [.str [112, 105, 110, 110, 101, 100], .str [112, 97, 103, 101], .str [49], .str [102, 101, 116, 99, 104], .str [49], .txt [] 9, .str [112, 117, 98, 108, 105, 99]] 9 false)]⟩
def c18 : KCall := ⟨49, [.gsl 0 8 1, .str [32]], [some (.row [.str [115, 101, 110, 116], .str [112, 97, 103, 101], .str [49], .str [102, 101, 116, 99, 104], .str [49], .txt [] 9, .str [71, 69, 84], .str [47]] 9 false)], .bstr 33 41, [some (.row [.str [115, 101, 110, 116], .str [112, 97, 103, 101], .str [49], .str [102, 101, 116, 99, 104], .str [49], .txt [] 9, .str [71, 69, 84], .str [47]] 9 false)]⟩
def c19 : KCall := ⟨18, [.txt [111, 112, 101, 110, 32, 104, 116, 116, 112, 115, 58, 47, 47, 97, 46, 116, 101, 115, 116, 32] 9], [], .sl 0 0 3 (some 3), [some (.row [.str [111, 112, 101, 110], .str [104, 116, 116, 112, 115, 58, 47, 47, 97, 46, 116, 101, 115, 116], .txt [] 9] 9 true)]⟩
def c20 : KCall := ⟨18, [.txt [112, 117, 98, 108, 105, 99, 32, 104, 116, 116, 112, 115, 58, 47, 47, 98, 46, 116, 101, 115, 116, 32] 9], [], .sl 0 0 3 (some 3), [some (.row [.str [112, 117, 98, 108, 105, 99], .str [104, 116, 116, 112, 115, 58, 47, 47, 98, 46, 116, 101, 115, 116], .txt [] 9] 9 true)]⟩
def c21 : KCall := ⟨49, [.gsl 0 7 1, .str [32]], [some (.row [.str [112, 105, 110, 110, 101, 100], .str [112, 97, 103, 101], .str [49], .str [102, 101, 116, 99, 104], .str [49], .txt [] 9, .str [108, 111, 111, 112, 98, 97, 99, 107]] 9 false)], .bstr 38 46, [some (.row [.str [112, 105, 110, 110, 101, 100], .str [112, 97, 103, 101], .str [49], .str [102, 101, 116, 99, 104], .str [49], .txt [] 9, .str [108, 111, 111, 112, 98, 97, 99, 107]] 9 false)]⟩
def c22 : KCall := ⟨49, [.gsl 0 8 1, .str [32]], [some (.row [.str [97, 115, 107, 101, 100], .str [112, 97, 103, 101], .str [49], .str [102, 101, 116, 99, 104], .str [49], .txt [] 9, .str [79, 80, 84, 73, 79, 78, 83], .str [47]] 9 false)], .bstr 38 46, [some (.row [.str [97, 115, 107, 101, 100], .str [112, 97, 103, 101], .str [49], .str [102, 101, 116, 99, 104], .str [49], .txt [] 9, .str [79, 80, 84, 73, 79, 78, 83], .str [47]] 9 false)]⟩
def c23 : KCall := ⟨49, [.gsl 0 7 1, .str [32]], [some (.row [.str [112, 105, 110, 110, 101, 100], .str [112, 97, 103, 101], .str [49], .str [102, 101, 116, 99, 104], .str [49], .txt [] 9, .str [112, 114, 105, 118, 97, 116, 101]] 9 false)], .bstr 37 45, [some (.row [.str [112, 105, 110, 110, 101, 100], .str [112, 97, 103, 101], .str [49], .str [102, 101, 116, 99, 104], .str [49], .txt [] 9, .str [112, 114, 105, 118, 97, 116, 101]] 9 false)]⟩
def c24 : KCall := ⟨49, [.gsl 0 8 1, .str [32]], [some (.row [.str [97, 115, 107, 101, 100], .str [112, 97, 103, 101], .str [48], .str [102, 101, 116, 99, 104], .str [48], .txt [] 9, .str [79, 80, 84, 73, 79, 78, 83], .str [47]] 9 false)], .bstr 38 46, [some (.row [.str [97, 115, 107, 101, 100], .str [112, 97, 103, 101], .str [48], .str [102, 101, 116, 99, 104], .str [48], .txt [] 9, .str [79, 80, 84, 73, 79, 78, 83], .str [47]] 9 false)]⟩
end Go.Proofs
