/- Masks, compares and searches, told for all addresses; every address of a space is in one of its blocks. No condition. -/
import Derived.Test.YtbdhilbngaemcaaGreatDoorAX
set_option linter.unusedVariables false
set_option linter.unusedSimpArgs false
namespace Go.AH
open Go
set_option linter.unusedVariables false
set_option linter.unusedSimpArgs false
set_option maxRecDepth 10000
/-! ### cidr.Compare -/
def nmE (c : Int) (i : Nat) : List Int := c :: (List.replicate i 0 ++ [1])
/-- The byte that differs, at bit t: its bits above are in common, those below are its own. -/
def upA (t : Nat) (on : Bool) : List Int := strip ((if on then ((2 ^ t : Nat) : Int) else 0) :: (List.replicate (20 + (t + 1)) 0 ++ pow2 (t + 1) (7 - t)))
def loA (p t : Nat) : List Int := (0 : Int) :: (List.replicate p 0 ++ pow2 0 t)
def byA (t : Nat) (on : Bool) : List Int := strip (addL (upA t on) (loA 20 t))
def byB (t : Nat) (on : Bool) : List Int := strip (addL (upA t on) (loA 28 t))
/-- The k-th byte of the first and of the second; the i-th is the first that differs, s tells whether the first one's is smaller. -/
def cByte (i t : Nat) (s : Bool) (k : Nat) : List Int × List Int :=
  if k < i then (nmE 0 (60 + k), nmE 0 (60 + k)) else if k = i then (byA t (!s), byB t s) else (nmE 0 (60 + k), nmE 0 (64 + k))
def cLen (o : Nat) : List Int × List Int := match o with
  | 0 => (nmE 0 68, nmE 0 68)
  | 1 => (nmE 0 68, strip (addL (nmE 1 68) (nmE 0 69)))
  | _ => (strip (addL (nmE 1 68) (nmE 0 69)), nmE 0 68)
def cArgs (i t : Nat) (s : Bool) (o : Nat) : List AV :=
  [.agg (.int .i64 4 :: mkLin .u8 (cByte i t s 0).1 :: mkLin .u8 (cByte i t s 1).1 :: mkLin .u8 (cByte i t s 2).1 :: mkLin .u8 (cByte i t s 3).1 :: (z12 ++ [mkLin .i64 (cLen o).1])),
   .agg (.int .i64 4 :: mkLin .u8 (cByte i t s 0).2 :: mkLin .u8 (cByte i t s 1).2 :: mkLin .u8 (cByte i t s 2).2 :: mkLin .u8 (cByte i t s 3).2 :: (z12 ++ [mkLin .i64 (cLen o).2]))]
def cVal (i : Nat) (s : Bool) (o : Nat) : Int := if i < 4 then (if s then -1 else 1) else (if o = 0 then 0 else if o = 1 then -1 else 1)
def lexI : List (Int × Int) → Int
  | [] => 0
  | (x, y) :: l => if x < y then -1 else if y < x then 1 else lexI l
def pairV (ρ : Nat → Int) (l : List (List Int × List Int)) : List (Int × Int) := l.map fun x => (linV ρ x.1, linV ρ x.2)
theorem cmpRes_ok (V : Val) : ∀ {l : List (List Int × List Int)} {r : Int}, cmpRes l = some r → lexI (pairV V.ρ l) = r
  | [], r, h => by simp [cmpRes] at h; exact h
  | (e, f) :: l, r, h => by
    have ih := @cmpRes_ok V l
    show (if linV V.ρ e < linV V.ρ f then (-1 : Int) else if linV V.ρ f < linV V.ρ e then 1 else lexI (pairV V.ρ l)) = r
    unfold cmpRes at h
    split at h
    · rename_i h1
      have := cmpE_cmpI V h1
      simp only [cmpI, Option.some.injEq, decide_eq_true_eq] at this
      rw [if_pos this]; simpa using h
    · split at h
      · rename_i h1
        have := cmpE_cmpI V h1
        simp only [cmpI, Option.some.injEq, decide_eq_true_eq] at this
        rw [if_neg (by omega), if_pos (by omega)]; simpa using h
      · split at h
        · rename_i h1
          have := cmpE_cmpI V h1
          simp only [cmpI, Option.some.injEq, beq_iff_eq] at this
          rw [if_neg (by omega), if_neg (by omega)]
          exact ih h
        · split at h
          · rename_i h1
            have := cmpE_cmpI V h1
            simp only [cmpI, Option.some.injEq, decide_eq_true_eq] at this
            split at h
            · rename_i h2
              have := ih h2
              simp only [Option.some.injEq] at h
              subst h
              split
              · rfl
              · rw [if_neg (by omega)]; assumption
            · cases h
          · split at h
            · rename_i h1
              have := cmpE_cmpI V h1
              simp only [cmpI, Option.some.injEq, decide_eq_true_eq] at this
              split at h
              · rename_i h2
                have := ih h2
                simp only [Option.some.injEq] at h
                subst h
                rw [if_neg (by omega)]
                split
                · rfl
                · assumption
              · cases h
            · cases h
theorem bit_differs {x y : Nat} (hx : x < 256) (hy : y < 256) (h : x ≠ y) : ∃ t, t < 8 ∧ x / 2 ^ (t + 1) = y / 2 ^ (t + 1) ∧ x / 2 ^ t ≠ y / 2 ^ t := by
  by_cases h7 : x / 2 ^ 7 = y / 2 ^ 7
  · by_cases h6 : x / 2 ^ 6 = y / 2 ^ 6
    · by_cases h5 : x / 2 ^ 5 = y / 2 ^ 5
      · by_cases h4 : x / 2 ^ 4 = y / 2 ^ 4
        · by_cases h3 : x / 2 ^ 3 = y / 2 ^ 3
          · by_cases h2 : x / 2 ^ 2 = y / 2 ^ 2
            · by_cases h1 : x / 2 ^ 1 = y / 2 ^ 1
              · exact ⟨0, by omega, h1, by simpa using h⟩
              · exact ⟨1, by omega, h2, h1⟩
            · exact ⟨2, by omega, h3, h2⟩
          · exact ⟨3, by omega, h4, h3⟩
        · exact ⟨4, by omega, h5, h4⟩
      · exact ⟨5, by omega, h6, h5⟩
    · exact ⟨6, by omega, h7, h6⟩
  · exact ⟨7, by omega, by omega, h7⟩
/-- The names' values, from the bytes and lengths. -/
def cmpG (a b : Nat → Nat) (i n m : Nat) (j : Nat) : Nat :=
  if j < 28 then a i / 2 ^ (j - 20) % 2 else if j < 36 then b i / 2 ^ (j - 28) % 2 else if j < 60 then 0 else if j < 64 then a (j - 60) else if j < 68 then b (j - 64) else if j = 68 then min n m else if j = 69 then max n m - min n m - 1 else 0
theorem dom_byte : ∀ i : Fin 12, dom (60 + i.1) = 255 := by decide +kernel
theorem cmpG_dom (a b : Nat → Nat) (i n m : Nat) (ha : ∀ k, a k < 256) (hb : ∀ k, b k < 256) (hn : n < 256) (hm : m < 256) (j : Nat) (hj : 20 ≤ j) : cmpG a b i n m j ≤ dom j := by
  unfold cmpG
  by_cases h60 : j < 60
  · have h := dom_bit ⟨j - 20, by omega⟩
    simp only [show 20 + (j - 20) = j by omega] at h
    rw [h]
    split
    · omega
    · split
      · omega
      · first | omega | (split <;> omega)
  · rw [if_neg (by omega), if_neg (by omega), if_neg h60]
    by_cases h72 : j < 72
    · have h := dom_byte ⟨j - 60, by omega⟩
      simp only [show 60 + (j - 60) = j by omega] at h
      rw [h]
      have := ha (j - 60)
      have := hb (j - 64)
      split
      · omega
      · split
        · omega
        · split
          · omega
          · split <;> omega
    · rw [if_neg (by omega), if_neg (by omega), if_neg (by omega), if_neg (by omega)]
      exact Nat.zero_le _
theorem nmE_val (ρ : Nat → Int) (c : Int) (i : Nat) : linV ρ (nmE c i) = c + ρ i := by
  unfold nmE
  simp only [linV]
  rw [linS_zeros]
  simp [linS]
theorem upA_val (ρ : Nat → Int) (x t : Nat) (on : Bool) (ht : t < 8) (hx : x < 256) (h : ∀ j, j < 8 → ρ (20 + j) = ((x / 2 ^ j % 2 : Nat) : Int)) : linV ρ (upA t on) = (((if on then 2 ^ t else 0) + 2 ^ (t + 1) * (x / 2 ^ (t + 1)) : Nat) : Int) := by
  unfold upA
  rw [linV_strip]
  simp only [linV]
  rw [linS_zeros, show 0 + (20 + (t + 1)) = 20 + (t + 1) by omega, pow2_val ρ x 20 (7 - t) (t + 1) (fun i _ hi => h i (by omega))]
  have : x / 2 ^ (t + 1) % 2 ^ (7 - t) = x / 2 ^ (t + 1) := by
    apply Nat.mod_eq_of_lt
    apply Nat.div_lt_of_lt_mul
    rw [← Nat.pow_add, show t + 1 + (7 - t) = 8 by omega]
    exact hx
  rw [this]
  cases on <;> simp
theorem loA_val (ρ : Nat → Int) (x p t : Nat) (ht : t < 8) (h : ∀ j, j < 8 → ρ (p + j) = ((x / 2 ^ j % 2 : Nat) : Int)) : linV ρ (loA p t) = ((x % 2 ^ t : Nat) : Int) := by
  unfold loA
  simp only [linV]
  rw [linS_zeros, show 0 + p = p + 0 by omega, pow2_val ρ x p t 0 (fun i _ hi => h i (by omega))]
  simp
theorem byte_parts (x t : Nat) : x = x % 2 ^ t + 2 ^ t * (x / 2 ^ t % 2) + 2 ^ (t + 1) * (x / 2 ^ (t + 1)) := by
  have h1 := Nat.div_add_mod x (2 ^ t)
  have h2 := Nat.div_add_mod (x / 2 ^ t) 2
  rw [show x / 2 ^ (t + 1) = x / 2 ^ t / 2 by rw [Nat.div_div_eq_div_mul, Nat.pow_succ], Nat.pow_succ, Nat.mul_assoc]
  have h3 : 2 ^ t * (x / 2 ^ t) = 2 ^ t * (x / 2 ^ t % 2) + 2 ^ t * (2 * (x / 2 ^ t / 2)) := by
    rw [← Nat.mul_add]
    congr 1
    omega
  omega
theorem byA_val (ρ : Nat → Int) (x t : Nat) (on : Bool) (ht : t < 8) (hx : x < 256) (h : ∀ j, j < 8 → ρ (20 + j) = ((x / 2 ^ j % 2 : Nat) : Int)) (hon : x / 2 ^ t % 2 = if on then 1 else 0) : linV ρ (byA t on) = (x : Int) := by
  unfold byA
  rw [linV_strip, linV_add, upA_val ρ x t on ht hx h, loA_val ρ x 20 t ht h]
  have := byte_parts x t
  rw [hon] at this
  rw [← Int.natCast_add]
  congr 1
  cases on
  · simp only [Bool.false_eq_true, if_false] at this ⊢; omega
  · simp only [if_true] at this ⊢; omega
theorem byB_val (ρ : Nat → Int) (x y t : Nat) (on : Bool) (ht : t < 8) (hx : x < 256) (h : ∀ j, j < 8 → ρ (20 + j) = ((x / 2 ^ j % 2 : Nat) : Int)) (h' : ∀ j, j < 8 → ρ (28 + j) = ((y / 2 ^ j % 2 : Nat) : Int)) (he : x / 2 ^ (t + 1) = y / 2 ^ (t + 1)) (hon : y / 2 ^ t % 2 = if on then 1 else 0) : linV ρ (byB t on) = (y : Int) := by
  unfold byB
  rw [linV_strip, linV_add, upA_val ρ x t on ht hx h, loA_val ρ y 28 t ht h', he]
  have := byte_parts y t
  rw [hon] at this
  rw [← Int.natCast_add]
  congr 1
  cases on
  · simp only [Bool.false_eq_true, if_false] at this ⊢; omega
  · simp only [if_true] at this ⊢; omega
def lexN (a b : Nat → Nat) (n m : Nat) : Int := lexI [((a 0 : Nat), (b 0 : Nat)), ((a 1 : Nat), (b 1 : Nat)), ((a 2 : Nat), (b 2 : Nat)), ((a 3 : Nat), (b 3 : Nat)), ((n : Nat), (m : Nat))]
theorem lexI_eq (x : Int) (l : List (Int × Int)) : lexI ((x, x) :: l) = lexI l := by
  simp only [lexI, Int.lt_irrefl, if_false]
theorem lexI_ne {x y : Nat} (h : x ≠ y) (l : List (Int × Int)) : lexI (((x : Int), (y : Int)) :: l) = if x < y then -1 else 1 := by
  simp only [lexI]
  by_cases h1 : x < y
  · rw [if_pos h1, if_pos (by omega)]
  · rw [if_neg h1, if_neg (by omega), if_pos (by omega)]
theorem lexN_at {a b : Nat → Nat} {n m i : Nat} (hi : i < 4) (he : ∀ k, k < i → a k = b k) (hd : a i ≠ b i) : lexN a b n m = if a i < b i then -1 else 1 := by
  unfold lexN
  have : i = 0 ∨ i = 1 ∨ i = 2 ∨ i = 3 := by omega
  rcases this with rfl | rfl | rfl | rfl
  · exact lexI_ne hd _
  · rw [he 0 (by omega), lexI_eq]; exact lexI_ne hd _
  · rw [he 0 (by omega), he 1 (by omega), lexI_eq, lexI_eq]; exact lexI_ne hd _
  · rw [he 0 (by omega), he 1 (by omega), he 2 (by omega), lexI_eq, lexI_eq, lexI_eq]; exact lexI_ne hd _
theorem lexN_eq {a b : Nat → Nat} {n m : Nat} (he : ∀ k, k < 4 → a k = b k) : lexN a b n m = lexI [((n : Nat), (m : Nat))] := by
  unfold lexN
  rw [he 0 (by omega), he 1 (by omega), he 2 (by omega), he 3 (by omega), lexI_eq, lexI_eq, lexI_eq, lexI_eq]
theorem first_differs (a b : Nat → Nat) : ∃ i, i ≤ 4 ∧ (∀ k, k < i → a k = b k) ∧ (i < 4 → a i ≠ b i) := by
  by_cases h0 : a 0 = b 0
  · by_cases h1 : a 1 = b 1
    · by_cases h2 : a 2 = b 2
      · by_cases h3 : a 3 = b 3
        · refine ⟨4, by omega, ?_, by omega⟩
          intro k hk
          have : k = 0 ∨ k = 1 ∨ k = 2 ∨ k = 3 := by omega
          rcases this with rfl | rfl | rfl | rfl <;> assumption
        · refine ⟨3, by omega, ?_, fun _ => h3⟩
          intro k hk
          have : k = 0 ∨ k = 1 ∨ k = 2 := by omega
          rcases this with rfl | rfl | rfl <;> assumption
      · refine ⟨2, by omega, ?_, fun _ => h2⟩
        intro k hk
        have : k = 0 ∨ k = 1 := by omega
        rcases this with rfl | rfl <;> assumption
    · refine ⟨1, by omega, ?_, fun _ => h1⟩
      intro k hk
      have : k = 0 := by omega
      subst this; assumption
  · exact ⟨0, by omega, fun k hk => by omega, fun _ => h0⟩
theorem cmp_cov (V : Val) (a b : Nat → Nat) (ha : ∀ k, a k < 256) (hb : ∀ k, b k < 256) (n m : Nat) (hn : n < 256) (hm : m < 256) :
    ∃ i t s o, i ≤ 4 ∧ t < 8 ∧ o < 3 ∧ (i = 4 → t = 0 ∧ s = false) ∧ cVal i s o = lexN a b n m ∧ ∃ V' : Val, V'.oct = V.oct ∧ (∀ k, k < 4 → linV V'.ρ (cByte i t s k).1 = (a k : Int) ∧ linV V'.ρ (cByte i t s k).2 = (b k : Int)) ∧ linV V'.ρ (cLen o).1 = (n : Int) ∧ linV V'.ρ (cLen o).2 = (m : Int) := by
  obtain ⟨i, hi, he, hd⟩ := first_differs a b
  let o : Nat := if n = m then 0 else if n < m then 1 else 2
  have ho : o < 3 := by simp only [o]; split <;> (try split) <;> omega
  let V' := withG V (cmpG a b i n m) (cmpG_dom a b i n m ha hb hn hm)
  have at_ : ∀ j, 20 ≤ j → V'.ρ j = (cmpG a b i n m j : Nat) := fun j hj => withG_ρ V _ _ hj
  have r68 : V'.ρ 68 = ((min n m : Nat) : Int) := by rw [at_ 68 (by omega)]; rfl
  have r69 : V'.ρ 69 = ((max n m - min n m - 1 : Nat) : Int) := by rw [at_ 69 (by omega)]; rfl
  have len : linV V'.ρ (cLen o).1 = (n : Int) ∧ linV V'.ρ (cLen o).2 = (m : Int) := by
    simp only [o]
    split
    · simp only [cLen, nmE_val, r68]; omega
    · split
      · simp only [cLen, linV_strip, linV_add, nmE_val, r68, r69]; omega
      · simp only [cLen, linV_strip, linV_add, nmE_val, r68, r69]; omega
  have nm1 : ∀ k, k < 4 → V'.ρ (60 + k) = (a k : Int) := fun k hk => by
    rw [at_ _ (by omega)]
    unfold cmpG
    rw [if_neg (by omega), if_neg (by omega), if_neg (by omega), if_pos (by omega), show 60 + k - 60 = k by omega]
  have nm2 : ∀ k, k < 4 → V'.ρ (64 + k) = (b k : Int) := fun k hk => by
    rw [at_ _ (by omega)]
    unfold cmpG
    rw [if_neg (by omega), if_neg (by omega), if_neg (by omega), if_neg (by omega), if_pos (by omega), show 64 + k - 64 = k by omega]
  have bt1 : ∀ j, j < 8 → V'.ρ (20 + j) = ((a i / 2 ^ j % 2 : Nat) : Int) := fun j hj => by
    rw [at_ _ (by omega)]
    unfold cmpG
    rw [if_pos (by omega), show 20 + j - 20 = j by omega]
  have bt2 : ∀ j, j < 8 → V'.ρ (28 + j) = ((b i / 2 ^ j % 2 : Nat) : Int) := fun j hj => by
    rw [at_ _ (by omega)]
    unfold cmpG
    rw [if_neg (by omega), if_pos (by omega), show 28 + j - 28 = j by omega]
  by_cases h4 : i = 4
  · subst h4
    refine ⟨4, 0, false, o, by omega, by omega, ho, fun _ => ⟨rfl, rfl⟩, ?_, V', rfl, ?_, len⟩
    · rw [lexN_eq he]
      unfold cVal
      rw [if_neg (by omega)]
      by_cases h1 : n = m
      · subst h1
        have : o = 0 := by simp [o]
        rw [if_pos this, lexI_eq]
        rfl
      · have h0 : o = if n < m then 1 else 2 := by simp only [o]; rw [if_neg h1]
        rw [lexI_ne h1, h0]
        split <;> simp
    · intro k hk
      unfold cByte
      rw [if_pos hk]
      simp only [nmE_val]
      rw [nm1 k hk, ← he k hk]
      omega
  · have hi4 : i < 4 := by omega
    have hne := hd hi4
    obtain ⟨t, ht, e1, e2⟩ := bit_differs (ha i) (hb i) hne
    refine ⟨i, t, decide (a i < b i), o, hi, ht, ho, fun h => absurd h h4, ?_, V', rfl, ?_, len⟩
    · unfold cVal
      rw [if_pos hi4, lexN_at hi4 he hne]
      simp only [decide_eq_true_eq]
    · intro k hk
      unfold cByte
      split
      · rename_i h
        simp only [nmE_val]
        rw [nm1 k hk, ← he k h]
        omega
      · split
        · rename_i h1 h2
          subst h2
          have hx := ha k
          have hy := hb k
          have d1 : a k / 2 ^ t / 2 = a k / 2 ^ (t + 1) := by rw [Nat.div_div_eq_div_mul, Nat.pow_succ]
          have d2 : b k / 2 ^ t / 2 = b k / 2 ^ (t + 1) := by rw [Nat.div_div_eq_div_mul, Nat.pow_succ]
          have lt1 : a k < b k → a k / 2 ^ t ≤ b k / 2 ^ t := fun h => Nat.div_le_div_right (by omega)
          have lt2 : ¬ a k < b k → b k / 2 ^ t ≤ a k / 2 ^ t := fun h => Nat.div_le_div_right (by omega)
          refine ⟨byA_val _ (a k) t _ ht hx bt1 ?_, byB_val _ (a k) (b k) t _ ht hx bt1 bt2 e1 ?_⟩
          · by_cases h : a k < b k
            · have := lt1 h
              rw [show (!decide (a k < b k)) = false by rw [decide_eq_true h]; rfl]
              show a k / 2 ^ t % 2 = 0
              omega
            · have := lt2 h
              rw [show (!decide (a k < b k)) = true by rw [decide_eq_false h]; rfl]
              show a k / 2 ^ t % 2 = 1
              omega
          · by_cases h : a k < b k
            · have := lt1 h
              rw [decide_eq_true h]
              show b k / 2 ^ t % 2 = 1
              omega
            · have := lt2 h
              rw [decide_eq_false h]
              show b k / 2 ^ t % 2 = 0
              omega
        · simp only [nmE_val]
          rw [nm1 k hk, nm2 k hk]
          omega
end Go.AH
namespace Go.AH
open Go
set_option linter.unusedVariables false
set_option linter.unusedSimpArgs false
set_option maxRecDepth 10000
theorem octE_num {x : AV} {e : List Int} (h : octE x = some e) : aNum x = some (.u8, e) ∧ fits .u8 e = true := by
  unfold octE at h
  split at h <;> try (cases h; done)
  rename_i e' hx
  cases hf : fits .u8 e'
  · rw [hf] at h; cases h
  · rw [hf, cond_true] at h
    simp only [Option.some.injEq] at h
    subst h
    exact ⟨hx, hf⟩
theorem lenE_num {x : AV} {e : List Int} (h : lenE x = some e) : aNum x = some (.i64, e) ∧ 0 ≤ loV e ∧ hiV e ≤ 255 := by
  unfold lenE at h
  split at h <;> try (cases h; done)
  rename_i e' hx
  cases hf : (decide (0 ≤ loV e') && decide (hiV e' ≤ 255))
  · rw [hf] at h; cases h
  · rw [hf, cond_true] at h
    simp only [Option.some.injEq] at h
    subst h
    simp only [Bool.and_eq_true, decide_eq_true_eq] at hf
    exact ⟨hx, hf⟩
theorem octE_val {x : AV} {e : List Int} {c : Ctx} {v : Value} (h : octE x = some e) (r : Rel c x v) : ∃ b : Nat, b < 256 ∧ linV c.V.ρ e = (b : Int) ∧ v = .int .u8 (b : Int) := by
  obtain ⟨h1, h2⟩ := octE_num h
  obtain ⟨b, hb, he⟩ := oct_of (x := x) c h2
  exact ⟨b, hb, he, by rw [← he]; exact aNum_rel h1 r⟩
theorem lenE_val {x : AV} {e : List Int} {c : Ctx} {v : Value} (h : lenE x = some e) (r : Rel c x v) : ∃ b : Nat, b < 256 ∧ linV c.V.ρ e = (b : Int) ∧ v = .int .i64 (b : Int) := by
  obtain ⟨h1, h2, h3⟩ := lenE_num h
  have := linV_bound c.V e
  have he : linV c.V.ρ e = ((linV c.V.ρ e).toNat : Int) := by omega
  exact ⟨_, by omega, he, by rw [← he]; exact aNum_rel h1 r⟩
theorem z_rel {c : Ctx} {x : AV} : ∀ {n : Nat} {vs : List Value}, RelL c (List.replicate n (.int .u8 0) ++ [x]) vs → ∃ v, Rel c x v ∧ ∀ {c' : Ctx} {y : AV}, Rel c' y v → RelL c' (List.replicate n (.int .u8 0) ++ [y]) vs
  | 0, vs, h => by
    obtain ⟨v, ws, rfl, h1, h2⟩ := relL_cons.1 h
    exact ⟨v, h1, fun r => relL_cons.2 ⟨v, ws, rfl, r, h2⟩⟩
  | n + 1, vs, h => by
    obtain ⟨v, ws, rfl, h1, h2⟩ := relL_cons.1 h
    obtain ⟨u, h3, h4⟩ := z_rel (c := c) (x := x) (n := n) h2
    exact ⟨u, h3, fun r => relL_cons.2 ⟨v, ws, rfl, h1, h4 r⟩⟩
/-- A prefix's values. -/
theorem pfx_rel {c : Ctx} {a0 a1 a2 a3 n : AV} {e0 e1 e2 e3 e : List Int} {v : Value} (h0 : octE a0 = some e0) (h1 : octE a1 = some e1) (h2 : octE a2 = some e2) (h3 : octE a3 = some e3) (h : lenE n = some e) (r : Rel c (.agg (.int .i64 4 :: a0 :: a1 :: a2 :: a3 :: (z12 ++ [n]))) v) :
    ∃ x0 x1 x2 x3 m : Nat, x0 < 256 ∧ x1 < 256 ∧ x2 < 256 ∧ x3 < 256 ∧ m < 256 ∧ linV c.V.ρ e0 = (x0 : Int) ∧ linV c.V.ρ e1 = (x1 : Int) ∧ linV c.V.ρ e2 = (x2 : Int) ∧ linV c.V.ρ e3 = (x3 : Int) ∧ linV c.V.ρ e = (m : Int) ∧
      ∀ {c' : Ctx} {b0 b1 b2 b3 k : List Int}, linV c'.V.ρ b0 = (x0 : Int) → linV c'.V.ρ b1 = (x1 : Int) → linV c'.V.ρ b2 = (x2 : Int) → linV c'.V.ρ b3 = (x3 : Int) → linV c'.V.ρ k = (m : Int) → Rel c' (.agg (.int .i64 4 :: mkLin .u8 b0 :: mkLin .u8 b1 :: mkLin .u8 b2 :: mkLin .u8 b3 :: (z12 ++ [mkLin .i64 k]))) v := by
  obtain ⟨⟨ul⟩, rfl, q⟩ := r
  obtain ⟨u4, us, rfl, r4, q⟩ := relL_cons.1 q
  obtain ⟨u0, us, rfl, r0, q⟩ := relL_cons.1 q
  obtain ⟨u1, us, rfl, r1, q⟩ := relL_cons.1 q
  obtain ⟨u2, us, rfl, r2, q⟩ := relL_cons.1 q
  obtain ⟨u3, us, rfl, r3, q⟩ := relL_cons.1 q
  obtain ⟨un, rn, hz⟩ := z_rel q
  obtain ⟨x0, l0, k0, rfl⟩ := octE_val h0 r0
  obtain ⟨x1, l1, k1, rfl⟩ := octE_val h1 r1
  obtain ⟨x2, l2, k2, rfl⟩ := octE_val h2 r2
  obtain ⟨x3, l3, k3, rfl⟩ := octE_val h3 r3
  obtain ⟨m, lm, km, rfl⟩ := lenE_val h rn
  refine ⟨x0, x1, x2, x3, m, l0, l1, l2, l3, lm, k0, k1, k2, k3, km, ?_⟩
  intro c' b0 b1 b2 b3 k g0 g1 g2 g3 gk
  exact ⟨_, rfl, _, _, rfl, r4, _, _, rfl, mkLin_iff.2 (congrArg (Value.int .u8) g0.symm), _, _, rfl, mkLin_iff.2 (congrArg (Value.int .u8) g1.symm), _, _, rfl, mkLin_iff.2 (congrArg (Value.int .u8) g2.symm), _, _, rfl, mkLin_iff.2 (congrArg (Value.int .u8) g3.symm), hz (mkLin_iff.2 (congrArg (Value.int .i64) gk.symm))⟩
theorem x4_lt {a b c d : Nat} (ha : a < 256) (hb : b < 256) (hc : c < 256) (hd : d < 256) : ∀ k, x4 a b c d k < 256 := by
  intro k
  unfold x4
  split <;> assumption
theorem spCmpL_ok {P : Program} {f : FuncId} (runs : ∀ i t s o, i ≤ 4 → t < 8 → o < 3 → (i = 4 → t = 0 ∧ s = false) → ACalls P f (cArgs i t s o) [] (fun r h => r = .ret (.int .i64 (cVal i s o)) ∧ h = [])) {args : List AV} {h h' : Heap} {r : AV} (e : spCmpL args h = some (r, h')) : ACalls P f args h (fun r' h'' => r' = .ret r ∧ h'' = h') := by
  unfold spCmpL at e
  split at e <;> try (cases e; done)
  rename_i a0 a1 a2 a3 x0 x1 x2 x3 x4 x5 x6 x7 x8 x9 x10 x11 n b0 b1 b2 b3 y0 y1 y2 y3 y4 y5 y6 y7 y8 y9 y10 y11 m
  cases hc : (eqAL [x0, x1, x2, x3, x4, x5, x6, x7, x8, x9, x10, x11] z12 && eqAL [y0, y1, y2, y3, y4, y5, y6, y7, y8, y9, y10, y11] z12)
  · rw [hc] at e; cases e
  rw [hc, cond_true] at e
  rw [Bool.and_eq_true] at hc
  have z1 := eqAL_eq hc.1
  have z2 := eqAL_eq hc.2
  split at e <;> try (cases e; done)
  rename_i A0 A1 A2 A3 N B0 B1 B2 B3 M ha0 ha1 ha2 ha3 hn hb0 hb1 hb2 hb3 hm
  split at e <;> try (cases e; done)
  rename_i q hq
  simp only [Option.some.injEq, Prod.mk.injEq] at e
  obtain ⟨rfl, rfl⟩ := e
  have ea : (AV.int .i64 4 :: a0 :: a1 :: a2 :: a3 :: x0 :: x1 :: x2 :: x3 :: x4 :: x5 :: x6 :: x7 :: x8 :: x9 :: x10 :: x11 :: [n]) = .int .i64 4 :: a0 :: a1 :: a2 :: a3 :: (z12 ++ [n]) := by rw [← z1]; rfl
  have eb : (AV.int .i64 4 :: b0 :: b1 :: b2 :: b3 :: y0 :: y1 :: y2 :: y3 :: y4 :: y5 :: y6 :: y7 :: y8 :: y9 :: y10 :: y11 :: [m]) = .int .i64 4 :: b0 :: b1 :: b2 :: b3 :: (z12 ++ [m]) := by rw [← z2]; rfl
  rw [ea, eb]
  refine named_call closed_nil closed_nil fun c vs rl => ?_
  obtain ⟨v, ws, rfl, rv, rl⟩ := relL_cons.1 rl
  obtain ⟨u, ws, rfl, ru, rl⟩ := relL_cons.1 rl
  cases rl
  obtain ⟨p0, p1, p2, p3, pn, l0, l1, l2, l3, ln, k0, k1, k2, k3, kn, tov⟩ := pfx_rel ha0 ha1 ha2 ha3 hn rv
  obtain ⟨q0, q1, q2, q3, qm, m0, m1, m2, m3, mn, j0, j1, j2, j3, jn, tou⟩ := pfx_rel hb0 hb1 hb2 hb3 hm ru
  obtain ⟨i, t, s, o, hi, ht, ho, h4, hval, V', hoct, hby, hl1, hl2⟩ := cmp_cov c.V (Go.AH.x4 p0 p1 p2 p3) (Go.AH.x4 q0 q1 q2 q3) (x4_lt l0 l1 l2 l3) (x4_lt m0 m1 m2 m3) pn qm ln mn
  refine ⟨V', hoct, cArgs i t s o, .int .i64 (cVal i s o), ?_, runs i t s o hi ht ho h4, ?_⟩
  · exact ⟨_, _, rfl, tov (hby 0 (by omega)).1 (hby 1 (by omega)).1 (hby 2 (by omega)).1 (hby 3 (by omega)).1 hl1, _, _, rfl, tou (hby 0 (by omega)).2 (hby 1 (by omega)).2 (hby 2 (by omega)).2 (hby 3 (by omega)).2 hl2, rfl⟩
  · intro c2 v ec rr
    have hr := cmpRes_ok c.V hq
    have : cVal i s o = q := by
      rw [hval, ← hr]
      show lexN _ _ _ _ = lexI [(linV c.V.ρ A0, linV c.V.ρ B0), (linV c.V.ρ A1, linV c.V.ρ B1), (linV c.V.ρ A2, linV c.V.ρ B2), (linV c.V.ρ A3, linV c.V.ρ B3), (linV c.V.ρ N, linV c.V.ρ M)]
      rw [k0, k1, k2, k3, kn, j0, j1, j2, j3, jn]
      rfl
    rw [← this]
    exact rr
end Go.AH
namespace Go.AH
open Go
set_option linter.unusedVariables false
set_option linter.unusedSimpArgs false
set_option maxRecDepth 10000
/-! ### ranges of numbers, by bits over the least one -/
def inR (x : Nat) (r : Nat × Nat) : Bool := Nat.ble r.1 x && Nat.blt x (r.1 + 2 ^ r.2)
def inRs : List Nat → List (Nat × Nat) → Bool
  | [], [] => true
  | x :: xs, r :: rs => inR x r && inRs xs rs
  | _, _ => false
/-- The values of the bits. -/
def offs (x : Nat → Nat) (r : List (Nat × Nat)) (k : Nat) : Nat := x k - (r.getD k (0, 0)).1
def rngV (V : Val) (x : Nat → Nat) (r : List (Nat × Nat)) : Val := withG V (bitsG (offs x r)) (bitsG_dom _)
theorem rngV_val (V : Val) (x : Nat → Nat) (r : List (Nat × Nat)) (k : Nat) (q : Nat × Nat) (hk : k < 5) (hq : r[k]? = some q) (hm : q.2 ≤ 8) (h : inR (x k) q = true) : linV (rngV V x r).ρ (bitF q.1 q.2 k) = (x k : Int) := by
  unfold rngV
  rw [bitF_val _ _ _ _ _ hk hm]
  simp only [inR, Bool.and_eq_true, Nat.blt_eq] at h
  have h1 := Nat.le_of_ble_eq_true h.1
  have e : offs x r k = x k - q.1 := by unfold offs; rw [List.getD_eq_getElem?_getD, hq]; rfl
  rw [e, Nat.mod_eq_of_lt (by omega)]
  congr 1
  omega
/-! ### the table's search -/
def pw (lo hi : Nat) : List (Nat × Nat) := if lo ≤ hi then let k := Nat.log2 (hi - lo + 1); [(lo, k), (hi + 1 - 2 ^ k, k)] else []
def allBut (e : Nat × Nat) : List (Nat × Nat) := (if e.1 = 0 then [] else pw 0 (e.1 - 1)) ++ pw (e.1 + 1) (2 ^ e.2 - 1)
def freeR (es : List (Nat × Nat)) : List (Nat × Nat) := es.map fun e => (0, e.2)
def entCls : List (Nat × Nat) → List (List (Nat × Nat))
  | [] => [[]]
  | e :: es => ((allBut e).map fun r => r :: freeR es) ++ (entCls es).map fun c => (e.1, 0) :: c
/-- The entries of four bytes, in their row. -/
def ents : List (List Nat) := [[0, 0, 0, 0, 32], [10, 0, 0, 0, 8], [100, 64, 0, 0, 10], [127, 0, 0, 0, 8], [169, 254, 0, 0, 16], [172, 16, 0, 0, 12], [192, 168, 0, 0, 16]]
def gaps : List (Nat × Nat) := pw 1 9 ++ pw 11 99 ++ pw 101 126 ++ pw 128 168 ++ pw 170 171 ++ pw 173 191 ++ pw 193 255
def tails (es : List Nat) : List (Nat × Nat) := es.zip [8, 8, 8, 6]
def schCls : List (List (Nat × Nat)) := (gaps.map fun r => [r, (0, 8), (0, 8), (0, 8), (0, 6)]) ++ ents.flatMap fun e => match e with
  | [] => []
  | e :: es => (entCls (tails es)).map fun c => (e, 0) :: c
theorem gaps_ok : (List.range 256).all (fun x => [0, 10, 100, 127, 169, 172, 192].any (· == x) || gaps.any (inR x)) = true := by decide +kernel
def known : List (Nat × Nat) := [(0, 8), (64, 8), (254, 8), (16, 8), (168, 8), (32, 6), (8, 6), (10, 6), (12, 6), (16, 6)]
theorem allBut_ok : known.all (fun e => (List.range (2 ^ e.2)).all fun x => x == e.1 || (allBut e).any (inR x)) = true := by decide +kernel
theorem inR_self (e : Nat) : inR e (e, 0) = true := by simp [inR]
theorem inR_lt {x m : Nat} (h : inR x (0, m) = true) : x < 2 ^ m := by simpa [inR] using h
theorem inR_all {x m : Nat} (h : x < 2 ^ m) : inR x (0, m) = true := by simpa [inR] using h
theorem entCls_cov : ∀ {es : List (Nat × Nat)} {xs : List Nat}, inRs xs (freeR es) = true → (∀ e ∈ es, e ∈ known) → ∃ c ∈ entCls es, inRs xs c = true
  | [], [], _, _ => ⟨[], by simp [entCls], rfl⟩
  | e :: es, x :: xs, hl, he => by
    simp only [freeR, List.map_cons, inRs, Bool.and_eq_true] at hl
    have h1 := List.all_eq_true.1 allBut_ok e (he e (by simp))
    have h2 := List.all_eq_true.1 h1 x (List.mem_range.2 (inR_lt hl.1))
    simp only [Bool.or_eq_true, beq_iff_eq, List.any_eq_true] at h2
    rcases h2 with rfl | ⟨r, hr, hx⟩
    · obtain ⟨c, hc, hc2⟩ := @entCls_cov es xs hl.2 (fun y hy => he y (by simp [hy]))
      refine ⟨(e.1, 0) :: c, ?_, ?_⟩
      · unfold entCls
        exact List.mem_append_right _ (List.mem_map.2 ⟨c, hc, rfl⟩)
      · simp only [inRs, inR_self, hc2, Bool.and_self]
    · refine ⟨r :: freeR es, ?_, ?_⟩
      · unfold entCls
        exact List.mem_append_left _ (List.mem_map.2 ⟨r, hr, rfl⟩)
      · simp only [inRs, hx, Bool.true_and]
        exact hl.2
  | [], _ :: _, hl, _ => by simp [freeR, inRs] at hl
  | _ :: _, [], hl, _ => by simp [freeR, inRs] at hl
theorem ents_small : ∀ e ∈ ents, ∃ a b c d n, e = [a, b, c, d, n] ∧ ∀ x ∈ tails [b, c, d, n], x ∈ known := by
  intro e he
  simp only [ents, List.mem_cons, List.not_mem_nil, or_false] at he
  rcases he with rfl | rfl | rfl | rfl | rfl | rfl | rfl <;> exact ⟨_, _, _, _, _, rfl, by decide⟩
theorem schCls_cov {x0 x1 x2 x3 n : Nat} (h0 : x0 < 256) (h1 : x1 < 256) (h2 : x2 < 256) (h3 : x3 < 256) (hn : n < 64) : ∃ c ∈ schCls, inRs [x0, x1, x2, x3, n] c = true := by
  have g := List.all_eq_true.1 gaps_ok x0 (List.mem_range.2 h0)
  simp only [Bool.or_eq_true] at g
  rcases g with g | g
  · have : ∃ es, (x0 :: es) ∈ ents := by
      simp only [List.any_cons, List.any_nil, Bool.or_eq_true, beq_iff_eq, Bool.or_false] at g
      rcases g with rfl | rfl | rfl | rfl | rfl | rfl | rfl
      · exact ⟨[0, 0, 0, 32], by simp [ents]⟩
      · exact ⟨[0, 0, 0, 8], by simp [ents]⟩
      · exact ⟨[64, 0, 0, 10], by simp [ents]⟩
      · exact ⟨[0, 0, 0, 8], by simp [ents]⟩
      · exact ⟨[254, 0, 0, 16], by simp [ents]⟩
      · exact ⟨[16, 0, 0, 12], by simp [ents]⟩
      · exact ⟨[168, 0, 0, 16], by simp [ents]⟩
    obtain ⟨es, hes⟩ := this
    obtain ⟨a, b, c, d, m, e, hm⟩ := ents_small _ hes
    injection e with e1 e2
    subst e1 e2
    obtain ⟨cl, hc, hc2⟩ := entCls_cov (es := tails [b, c, d, m]) (xs := [x1, x2, x3, n]) (by simp only [tails, freeR, List.zip_cons_cons, List.zip_nil_right, List.zip_nil_left, List.map_cons, List.map_nil, inRs, inR_all (m := 8) h1, inR_all (m := 8) h2, inR_all (m := 8) h3, inR_all (m := 6) hn, Bool.and_self]) hm
    refine ⟨(x0, 0) :: cl, ?_, ?_⟩
    · unfold schCls
      exact List.mem_append_right _ (List.mem_flatMap.2 ⟨_, hes, List.mem_map.2 ⟨cl, hc, rfl⟩⟩)
    · simp only [inRs, inR_self, hc2, Bool.and_self]
  · obtain ⟨r, hr, hx⟩ := List.any_eq_true.1 g
    refine ⟨[r, (0, 8), (0, 8), (0, 8), (0, 6)], ?_, ?_⟩
    · unfold schCls
      exact List.mem_append_left _ (List.mem_map.2 ⟨r, hr, rfl⟩)
    · simp only [inRs, hx, inR_all (m := 8) h1, inR_all (m := 8) h2, inR_all (m := 8) h3, inR_all (m := 6) hn, Bool.and_self]
theorem schCls_form : schCls.all (fun c => match c with
  | [r0, r1, r2, r3, r4] => Nat.ble r0.2 8 && Nat.ble r1.2 8 && Nat.ble r2.2 8 && Nat.ble r3.2 8 && Nat.ble r4.2 8
  | _ => false) = true := by decide +kernel
/-- What the search answers, from how each entry stands to what is sought. -/
def cmpEnt (p : List (List Int)) (e : List Nat) : Option Int := cmpRes ((e.map fun (x : Nat) => [(x : Int)]).zip p)
def allS : List (Option Int) → Option (List Int)
  | [] => some []
  | none :: _ => none
  | some x :: l => match allS l with
    | some l => some (x :: l)
    | none => none
def resOf (l : List Int) : AV := .tup [.int .i64 ((l.filter fun x => decide (x < 0)).length : Nat), .bool (l.any fun x => decide (x = 0))]
def schRes (p : List (List Int)) : Option AV := match allS (ents.map (cmpEnt p)) with
  | some l => some (resOf l)
  | none => none
def clsL (c : List (Nat × Nat)) : List (List Int) := (c.zip [0, 1, 2, 3, 4]).map fun x => bitF x.1.1 x.1.2 x.2
def schPfx (c : List (Nat × Nat)) : AV := match clsL c with
  | [a, b, d, e, n] => .agg (.int .i64 4 :: mkLin .u8 a :: mkLin .u8 b :: mkLin .u8 d :: mkLin .u8 e :: (z12 ++ [mkLin .i64 n]))
  | _ => .unk
/-! ### rows of numbers, held against one another fast -/
def eqInt (a b : Int) : Bool := match a, b with
  | .ofNat a, .ofNat b => Nat.beq a b
  | _, _ => false
theorem eqInt_eq {a b : Int} (h : eqInt a b = true) : a = b := by
  unfold eqInt at h
  split at h
  · rw [Nat.eq_of_beq_eq_true h]
  · cases h
def eqI1 (x y : AV) : Bool := match x, y with
  | .int .u8 a, .int .u8 b => eqInt a b
  | .int .i64 a, .int .i64 b => eqInt a b
  | _, _ => false
theorem eqI1_eq {x y : AV} (h : eqI1 x y = true) : x = y := by
  unfold eqI1 at h
  split at h
  · rw [eqInt_eq h]
  · rw [eqInt_eq h]
  · cases h
noncomputable def eqI (xs : List AV) : List AV → Bool := List.rec (motive := fun _ => List AV → Bool) (fun ys => match ys with | [] => true | _ => false) (fun x _ ih ys => match ys with | y :: ys => bif eqI1 x y then ih ys else false | [] => false) xs
theorem eqI_eq : ∀ {xs ys : List AV}, eqI xs ys = true → xs = ys
  | [], [], _ => rfl
  | [], _ :: _, h => by cases h
  | _ :: _, [], h => by cases h
  | x :: xs, y :: ys, h => by
    have h : (bif eqI1 x y then eqI xs ys else false) = true := h
    cases hb : eqI1 x y with
    | false => rw [hb] at h; cases h
    | true => rw [hb] at h; rw [eqI1_eq hb, eqI_eq h]
noncomputable def eqTab (h H : Heap) : Bool := match h, H with
  | some (.row cs e w) :: h, some (.row cs' e' w') :: H => bif eqI cs cs' && Nat.beq e e' && (w == w') then eqH h H else false
  | _, _ => false
theorem eqTab_eq {h H : Heap} (k : eqTab h H = true) : h = H := by
  unfold eqTab at k
  split at k
  · rename_i cs e w h cs' e' w' H
    cases hb : (eqI cs cs' && Nat.beq e e' && (w == w')) with
    | false => rw [hb] at k; cases k
    | true =>
      rw [hb] at k
      simp only [Bool.and_eq_true, beq_iff_eq] at hb
      rw [eqI_eq hb.1.1, Nat.eq_of_beq_eq_true hb.1.2, hb.2, eqH_eq k]
  · cases k
noncomputable def spSearch (A B : AV) (H : Heap) (args : List AV) (h : Heap) : Option OutH := match args with
  | [l, .agg (.int .i64 4 :: a0 :: a1 :: a2 :: a3 :: x0 :: x1 :: x2 :: x3 :: x4 :: x5 :: x6 :: x7 :: x8 :: x9 :: x10 :: x11 :: [n]), s] =>
    bif eqAL [x0, x1, x2, x3, x4, x5, x6, x7, x8, x9, x10, x11] z12 && eqAV l A && eqAV s B && eqTab h H then
      (match octE a0, octE a1, octE a2, octE a3, lenE n with
      | some a0, some a1, some a2, some a3, some n => (match bif decide (hiV n < 64) then schRes [a0, a1, a2, a3, n] else none with
        | some r => some (r, H)
        | none => none)
      | _, _, _, _, _ => none) else none
  | _ => none
end Go.AH
namespace Go.AH
open Go
set_option linter.unusedVariables false
set_option linter.unusedSimpArgs false
set_option maxRecDepth 10000
structure ClosedA (x : AV) : Prop where
  ok : okX false x = true
  rn : rnA 0 x = x
  sb : ∀ cl, sbT cl x = x
theorem ClosedA.rel {x : AV} (k : ClosedA x) {c : Ctx} {V' : Val} (ho : V'.oct = c.V.oct) {v : Value} : Rel (c.withV V') x v ↔ Rel c x v := by
  have := Rel.cls (anyCls c.V V' ho 0) (c := c) x v k.ok
  rw [k.sb, k.rn] at this
  exact this
theorem closed_res (l : List Int) : ClosedA (resOf l) := ⟨rfl, rfl, fun _ => rfl⟩
def standOf (e : List Nat) (xs : List Int) : Int := lexI ((e.map fun (x : Nat) => (x : Int)).zip xs)
theorem pairV_zip (ρ : Nat → Int) : ∀ (e : List Nat) (p : List (List Int)), pairV ρ ((e.map fun (x : Nat) => [(x : Int)]).zip p) = (e.map fun (x : Nat) => (x : Int)).zip (p.map (linV ρ))
  | [], p => by simp [pairV]
  | x :: e, [] => by simp [pairV]
  | x :: e, q :: p => by
    have ih := pairV_zip ρ e p
    unfold pairV at ih ⊢
    simp only [List.map_cons, List.zip_cons_cons, ih]
    simp [linV, linS]
theorem cmpEnt_ok {V : Val} {p : List (List Int)} {e : List Nat} {r : Int} (h : cmpEnt p e = some r) : standOf e (p.map (linV V.ρ)) = r := by
  unfold standOf
  rw [← pairV_zip]
  exact cmpRes_ok V h
theorem allS_ok {V : Val} {p : List (List Int)} : ∀ {es : List (List Nat)} {l : List Int}, allS (es.map (cmpEnt p)) = some l → l = es.map fun e => standOf e (p.map (linV V.ρ))
  | [], l, h => by simp [allS] at h; subst h; rfl
  | e :: es, l, h => by
    rw [List.map_cons] at h
    unfold allS at h
    split at h <;> try (cases h; done)
    · rename_i e1; cases e1
    · rename_i x tl e1
      injection e1 with e1 e2
      subst e2
      split at h <;> try (cases h; done)
      rename_i l' hl
      simp only [Option.some.injEq] at h
      subst h
      rw [List.map_cons, cmpEnt_ok (V := V) e1, ← allS_ok (V := V) hl]
theorem schRes_ok {V : Val} {p : List (List Int)} {r : AV} (h : schRes p = some r) : r = resOf (ents.map fun e => standOf e (p.map (linV V.ρ))) := by
  unfold schRes at h
  split at h <;> try (cases h; done)
  rename_i l hl
  simp only [Option.some.injEq] at h
  subst h
  rw [← allS_ok (V := V) hl]
def vals5 (x0 x1 x2 x3 n : Nat) (k : Nat) : Nat := match k with
  | 0 => x0 | 1 => x1 | 2 => x2 | 3 => x3 | _ => n
theorem spSearch_ok {P : Program} {f : FuncId} {A B : AV} {H : Heap} (kA : ClosedA A) (kB : ClosedA B) (kH : ClosedH H)
    (runs : ∀ c ∈ schCls, ∃ r, schRes (clsL c) = some r ∧ ACalls P f [A, schPfx c, B] H (fun r' h => r' = .ret r ∧ h = H))
    {args : List AV} {h h' : Heap} {r : AV} (e : spSearch A B H args h = some (r, h')) : ACalls P f args h (fun r' h'' => r' = .ret r ∧ h'' = h') := by
  unfold spSearch at e
  split at e <;> try (cases e; done)
  rename_i l a0 a1 a2 a3 x0 x1 x2 x3 x4 x5 x6 x7 x8 x9 x10 x11 n s
  cases hc : (eqAL [x0, x1, x2, x3, x4, x5, x6, x7, x8, x9, x10, x11] z12 && eqAV l A && eqAV s B && eqTab h H)
  · rw [hc] at e; cases e
  rw [hc, cond_true] at e
  simp only [Bool.and_eq_true] at hc
  obtain ⟨⟨⟨hz, hl⟩, hs⟩, hh⟩ := hc
  have z1 := eqAL_eq hz
  have hl := eqAV_eq hl
  have hs := eqAV_eq hs
  have hh := eqTab_eq hh
  subst hl hs hh
  split at e <;> try (cases e; done)
  rename_i A0 A1 A2 A3 N ha0 ha1 ha2 ha3 hn
  split at e <;> try (cases e; done)
  rename_i q hq
  simp only [Option.some.injEq, Prod.mk.injEq] at e
  obtain ⟨rfl, rfl⟩ := e
  cases hlt : decide (hiV N < 64)
  · rw [hlt] at hq; cases hq
  rw [hlt, cond_true] at hq
  have hlt := of_decide_eq_true hlt
  have ea : (AV.int .i64 4 :: a0 :: a1 :: a2 :: a3 :: x0 :: x1 :: x2 :: x3 :: x4 :: x5 :: x6 :: x7 :: x8 :: x9 :: x10 :: x11 :: [n]) = .int .i64 4 :: a0 :: a1 :: a2 :: a3 :: (z12 ++ [n]) := by rw [← z1]; rfl
  rw [ea]
  refine named_call kH kH fun c vs rl => ?_
  obtain ⟨vl, ws, rfl, rvl, rl⟩ := relL_cons.1 rl
  obtain ⟨v, ws, rfl, rv, rl⟩ := relL_cons.1 rl
  obtain ⟨u, ws, rfl, ru, rl⟩ := relL_cons.1 rl
  cases rl
  obtain ⟨p0, p1, p2, p3, pn, l0, l1, l2, l3, ln, k0, k1, k2, k3, kn, tov⟩ := pfx_rel ha0 ha1 ha2 ha3 hn rv
  obtain ⟨C, hC, hin⟩ := schCls_cov l0 l1 l2 l3 (n := pn) (by have := linV_bound c.V N; omega)
  have form := List.all_eq_true.1 schCls_form C hC
  split at form <;> try (cases form; done)
  rename_i r0 r1 r2 r3 r4
  simp only [Bool.and_eq_true] at form
  obtain ⟨⟨⟨⟨f0, f1⟩, f2⟩, f3⟩, f4⟩ := form
  have f0 := Nat.le_of_ble_eq_true f0
  have f1 := Nat.le_of_ble_eq_true f1
  have f2 := Nat.le_of_ble_eq_true f2
  have f3 := Nat.le_of_ble_eq_true f3
  have f4 := Nat.le_of_ble_eq_true f4
  simp only [inRs, Bool.and_eq_true, and_true] at hin
  obtain ⟨i0, i1, i2, i3, i4⟩ := hin
  obtain ⟨r, hr, run⟩ := runs _ hC
  let V' := rngV c.V (vals5 p0 p1 p2 p3 pn) [r0, r1, r2, r3, r4]
  have g0 : linV V'.ρ (bitF r0.1 r0.2 0) = (p0 : Int) := rngV_val c.V (vals5 p0 p1 p2 p3 pn) [r0, r1, r2, r3, r4] 0 r0 (by omega) rfl f0 i0
  have g1 : linV V'.ρ (bitF r1.1 r1.2 1) = (p1 : Int) := rngV_val c.V (vals5 p0 p1 p2 p3 pn) [r0, r1, r2, r3, r4] 1 r1 (by omega) rfl f1 i1
  have g2 : linV V'.ρ (bitF r2.1 r2.2 2) = (p2 : Int) := rngV_val c.V (vals5 p0 p1 p2 p3 pn) [r0, r1, r2, r3, r4] 2 r2 (by omega) rfl f2 i2
  have g3 : linV V'.ρ (bitF r3.1 r3.2 3) = (p3 : Int) := rngV_val c.V (vals5 p0 p1 p2 p3 pn) [r0, r1, r2, r3, r4] 3 r3 (by omega) rfl f3 i3
  have g4 : linV V'.ρ (bitF r4.1 r4.2 4) = (pn : Int) := rngV_val c.V (vals5 p0 p1 p2 p3 pn) [r0, r1, r2, r3, r4] 4 r4 (by omega) rfl f4 i4
  refine ⟨V', rfl, _, r, ?_, run, ?_⟩
  · exact ⟨_, _, rfl, (kA.rel (c := c) (V' := V') rfl).2 rvl, _, _, rfl, tov (c' := c.withV V') g0 g1 g2 g3 g4, _, _, rfl, (kB.rel (c := c) (V' := V') rfl).2 ru, rfl⟩
  · intro c2 v' ec rr
    have e1 := schRes_ok (V := c.V) hq
    have e2 := schRes_ok (V := V') hr
    have : r = q := by
      rw [e1, e2]
      show resOf (ents.map fun e => standOf e [linV V'.ρ (bitF r0.1 r0.2 0), linV V'.ρ (bitF r1.1 r1.2 1), linV V'.ρ (bitF r2.1 r2.2 2), linV V'.ρ (bitF r3.1 r3.2 3), linV V'.ρ (bitF r4.1 r4.2 4)]) = resOf (ents.map fun e => standOf e [linV c.V.ρ A0, linV c.V.ρ A1, linV c.V.ρ A2, linV c.V.ρ A3, linV c.V.ρ N])
      rw [g0, g1, g2, g3, g4, k0, k1, k2, k3, kn]
    subst this
    rw [e2] at rr ⊢
    exact ((closed_res _).rel (c := c2) (V' := V') (by rw [ec]; rfl)).1 rr
end Go.AH
namespace Go.AH
open Go
set_option linter.unusedVariables false
set_option maxRecDepth 10000
/-- The table that is told first, as its search sees it. -/
def tabH : Heap := [some (.row [.int .i64 4, .int .u8 0, .int .u8 0, .int .u8 0, .int .u8 0, .int .u8 0, .int .u8 0, .int .u8 0, .int .u8 0, .int .u8 0, .int .u8 0, .int .u8 0, .int .u8 0, .int .u8 0, .int .u8 0, .int .u8 0, .int .u8 0, .int .i64 32, .int .i64 0, .int .i64 4, .int .u8 10, .int .u8 0, .int .u8 0, .int .u8 0, .int .u8 0, .int .u8 0, .int .u8 0, .int .u8 0, .int .u8 0, .int .u8 0, .int .u8 0, .int .u8 0, .int .u8 0, .int .u8 0, .int .u8 0, .int .u8 0, .int .i64 8, .int .i64 1, .int .i64 4, .int .u8 100, .int .u8 64, .int .u8 0, .int .u8 0, .int .u8 0, .int .u8 0, .int .u8 0, .int .u8 0, .int .u8 0, .int .u8 0, .int .u8 0, .int .u8 0, .int .u8 0, .int .u8 0, .int .u8 0, .int .u8 0, .int .i64 10, .int .i64 1, .int .i64 4, .int .u8 127, .int .u8 0, .int .u8 0, .int .u8 0, .int .u8 0, .int .u8 0, .int .u8 0, .int .u8 0, .int .u8 0, .int .u8 0, .int .u8 0, .int .u8 0, .int .u8 0, .int .u8 0, .int .u8 0, .int .u8 0, .int .i64 8, .int .i64 0, .int .i64 4, .int .u8 169, .int .u8 254, .int .u8 0, .int .u8 0, .int .u8 0, .int .u8 0, .int .u8 0, .int .u8 0, .int .u8 0, .int .u8 0, .int .u8 0, .int .u8 0, .int .u8 0, .int .u8 0, .int .u8 0, .int .u8 0, .int .i64 16, .int .i64 1, .int .i64 4, .int .u8 172, .int .u8 16, .int .u8 0, .int .u8 0, .int .u8 0, .int .u8 0, .int .u8 0, .int .u8 0, .int .u8 0, .int .u8 0, .int .u8 0, .int .u8 0, .int .u8 0, .int .u8 0, .int .u8 0, .int .u8 0, .int .i64 12, .int .i64 1, .int .i64 4, .int .u8 192, .int .u8 168, .int .u8 0, .int .u8 0, .int .u8 0, .int .u8 0, .int .u8 0, .int .u8 0, .int .u8 0, .int .u8 0, .int .u8 0, .int .u8 0, .int .u8 0, .int .u8 0, .int .u8 0, .int .u8 0, .int .i64 16, .int .i64 1, .int .i64 6, .int .u8 0, .int .u8 0, .int .u8 0, .int .u8 0, .int .u8 0, .int .u8 0, .int .u8 0, .int .u8 0, .int .u8 0, .int .u8 0, .int .u8 0, .int .u8 0, .int .u8 0, .int .u8 0, .int .u8 0, .int .u8 0, .int .i64 128, .int .i64 0, .int .i64 6, .int .u8 0, .int .u8 0, .int .u8 0, .int .u8 0, .int .u8 0, .int .u8 0, .int .u8 0, .int .u8 0, .int .u8 0, .int .u8 0, .int .u8 0, .int .u8 0, .int .u8 0, .int .u8 0, .int .u8 0, .int .u8 1, .int .i64 128, .int .i64 0, .int .i64 6, .int .u8 252, .int .u8 0, .int .u8 0, .int .u8 0, .int .u8 0, .int .u8 0, .int .u8 0, .int .u8 0, .int .u8 0, .int .u8 0, .int .u8 0, .int .u8 0, .int .u8 0, .int .u8 0, .int .u8 0, .int .u8 0, .int .i64 7, .int .i64 1, .int .i64 6, .int .u8 254, .int .u8 128, .int .u8 0, .int .u8 0, .int .u8 0, .int .u8 0, .int .u8 0, .int .u8 0, .int .u8 0, .int .u8 0, .int .u8 0, .int .u8 0, .int .u8 0, .int .u8 0, .int .u8 0, .int .u8 0, .int .i64 10, .int .i64 1] 178 false), some (.row [.gsl 0 11 19, .any .i64] 221 true)]
theorem closed_tab : ClosedH tabH := ⟨rfl, rfl, fun _ => rfl⟩
theorem closed_tabS : ClosedA (.gsl 0 11 19) := ⟨rfl, rfl, fun _ => rfl⟩
theorem closed_tabP : ClosedA (.ptr 1 1) := ⟨rfl, rfl, fun _ => rfl⟩
noncomputable def spSch : List AV → Heap → Option OutH := spSearch (.gsl 0 11 19) (.ptr 1 1) tabH
end Go.AH
namespace Go.AH
open Go
set_option linter.unusedVariables false
set_option linter.unusedSimpArgs false
set_option maxRecDepth 10000
/-! ### every address of a space is in one of its blocks -/
theorem parts_ok : (List.range 256).all (fun x => specials.any (· == x) || (parts 0 8).any (inR x)) = true := by decide +kernel
def ranges2 : Nat → List (Nat × Nat)
  | 100 => [(0, 6), (128, 7)]
  | 169 => sib 254 8
  | 172 => [(0, 4), (32, 5), (64, 6), (128, 7)]
  | 192 => sib 168 8
  | _ => sib 0 8
theorem rng100 : (List.range 256).all (fun x => (Nat.ble 64 x && Nat.ble x 127) || (ranges2 100).any (inR x)) = true := by decide +kernel
theorem rng169 : (List.range 256).all (fun x => x == 254 || (ranges2 169).any (inR x)) = true := by decide +kernel
theorem rng172 : (List.range 256).all (fun x => (Nat.ble 16 x && Nat.ble x 31) || (ranges2 172).any (inR x)) = true := by decide +kernel
theorem rng192 : (List.range 256).all (fun x => x == 168 || (ranges2 192).any (inR x)) = true := by decide +kernel
theorem rng0 : (List.range 256).all (fun x => x == 0 || (ranges2 0).any (inR x)) = true := by decide +kernel
theorem pickR {p : Nat → Bool} {l : List (Nat × Nat)} (h : (List.range 256).all (fun x => p x || l.any (inR x)) = true) {x : Nat} (hx : x < 256) (hp : p x = false) : ∃ r ∈ l, inR x r = true := by
  have := List.all_eq_true.1 h x (List.mem_range.2 hx)
  simp only [hp, Bool.false_or, List.any_eq_true] at this
  exact this
theorem mem0 : [(127, 0), fr, fr, fr] ∈ blocks 0 ∧ [(0, 0), (0, 0), (0, 0), (0, 0)] ∈ blocks 0 := by
  constructor <;> simp [blocks]
theorem mem1 : [(10, 0), fr, fr, fr] ∈ blocks 1 ∧ [(100, 0), (64, 6), fr, fr] ∈ blocks 1 ∧ [(169, 0), (254, 0), fr, fr] ∈ blocks 1 ∧ [(172, 0), (16, 4), fr, fr] ∈ blocks 1 ∧ [(192, 0), (168, 0), fr, fr] ∈ blocks 1 := by
  refine ⟨?_, ?_, ?_, ?_, ?_⟩ <;> simp [blocks]
theorem blk_in {a b c d s : Nat} (ha : a < 256) (hb : b < 256) (hc : c < 256) (hd : d < 256) (h : spaceF a b c d = s) : ∃ q ∈ blocks s, inRs [a, b, c, d] q = true := by
  have fa : ∀ {x : Nat}, x < 256 → inR x fr = true := fun h => inR_all (m := 8) h
  unfold spaceF at h
  by_cases h127 : a = 127
  · rw [if_pos h127] at h
    subst h h127
    exact ⟨_, mem0.1, by simp only [inRs, inR_self, fa hb, fa hc, fa hd, Bool.and_self]⟩
  rw [if_neg h127] at h
  by_cases hz : a = 0 ∧ b = 0 ∧ c = 0 ∧ d = 0
  · rw [if_pos hz] at h
    obtain ⟨rfl, rfl, rfl, rfl⟩ := hz
    subst h
    exact ⟨_, mem0.2, by simp only [inRs, inR_self, Bool.and_self]⟩
  rw [if_neg hz] at h
  by_cases h10 : a = 10
  · rw [if_pos h10] at h
    subst h h10
    exact ⟨_, mem1.1, by simp only [inRs, inR_self, fa hb, fa hc, fa hd, Bool.and_self]⟩
  rw [if_neg h10] at h
  by_cases h100 : a = 100 ∧ 64 ≤ b ∧ b ≤ 127
  · rw [if_pos h100] at h
    obtain ⟨rfl, h1, h2⟩ := h100
    subst h
    have : inR b (64, 6) = true := by simp [inR]; omega
    exact ⟨_, mem1.2.1, by simp only [inRs, inR_self, this, fa hc, fa hd, Bool.and_self]⟩
  rw [if_neg h100] at h
  by_cases h169 : a = 169 ∧ b = 254
  · rw [if_pos h169] at h
    obtain ⟨rfl, rfl⟩ := h169
    subst h
    exact ⟨_, mem1.2.2.1, by simp only [inRs, inR_self, fa hc, fa hd, Bool.and_self]⟩
  rw [if_neg h169] at h
  by_cases h172 : a = 172 ∧ 16 ≤ b ∧ b ≤ 31
  · rw [if_pos h172] at h
    obtain ⟨rfl, h1, h2⟩ := h172
    subst h
    have : inR b (16, 4) = true := by simp [inR]; omega
    exact ⟨_, mem1.2.2.2.1, by simp only [inRs, inR_self, this, fa hc, fa hd, Bool.and_self]⟩
  rw [if_neg h172] at h
  by_cases h192 : a = 192 ∧ b = 168
  · rw [if_pos h192] at h
    obtain ⟨rfl, rfl⟩ := h192
    subst h
    exact ⟨_, mem1.2.2.2.2, by simp only [inRs, inR_self, fa hc, fa hd, Bool.and_self]⟩
  rw [if_neg h192] at h
  subst h
  by_cases hs : specials.any (· == a) = true
  · have : a = 0 ∨ a = 100 ∨ a = 169 ∨ a = 172 ∨ a = 192 := by
      simp only [specials, List.any_cons, List.any_nil, Bool.or_eq_true, beq_iff_eq, Bool.or_false] at hs
      omega
    rcases this with rfl | rfl | rfl | rfl | rfl
    · by_cases b0 : b = 0
      · subst b0
        by_cases c0 : c = 0
        · subst c0
          obtain ⟨r, hr, hx⟩ := pickR (p := fun x => x == 0) rng0 hd (by simp; omega)
          exact ⟨[(0, 0), (0, 0), (0, 0), r], by unfold blocks; exact List.mem_append_right _ (List.mem_map.2 ⟨r, hr, rfl⟩), by simp only [inRs, inR_self, hx, Bool.and_self]⟩
        · obtain ⟨r, hr, hx⟩ := pickR (p := fun x => x == 0) rng0 hc (by simp; omega)
          exact ⟨[(0, 0), (0, 0), r, fr], by unfold blocks; exact List.mem_append_left _ (List.mem_append_right _ (List.mem_map.2 ⟨r, hr, rfl⟩)), by simp only [inRs, inR_self, hx, fa hd, Bool.and_self]⟩
      · obtain ⟨r, hr, hx⟩ := pickR (p := fun x => x == 0) rng0 hb (by simp; omega)
        exact ⟨[(0, 0), r, fr, fr], by unfold blocks; exact List.mem_append_left _ (List.mem_append_left _ (List.mem_append_right _ (List.mem_map.2 ⟨r, hr, rfl⟩))), by simp only [inRs, inR_self, hx, fa hc, fa hd, Bool.and_self]⟩
    · obtain ⟨r, hr, hx⟩ := pickR (p := fun x => Nat.ble 64 x && Nat.ble x 127) rng100 hb (by
        cases q : (Nat.ble 64 b && Nat.ble b 127) with
        | false => rfl
        | true =>
          simp only [Bool.and_eq_true] at q
          exact absurd ⟨rfl, Nat.le_of_ble_eq_true q.1, Nat.le_of_ble_eq_true q.2⟩ h100)
      exact ⟨[(100, 0), r, fr, fr], by unfold blocks; exact List.mem_append_left _ (List.mem_append_left _ (List.mem_append_left _ (List.mem_append_left _ (List.mem_append_left _ (List.mem_append_left _ (List.mem_append_right _ (List.mem_map.2 ⟨r, hr, rfl⟩))))))), by simp only [inRs, inR_self, hx, fa hc, fa hd, Bool.and_self]⟩
    · obtain ⟨r, hr, hx⟩ := pickR (p := fun x => x == 254) rng169 hb (by simp; omega)
      exact ⟨[(169, 0), r, fr, fr], by unfold blocks; exact List.mem_append_left _ (List.mem_append_left _ (List.mem_append_left _ (List.mem_append_left _ (List.mem_append_left _ (List.mem_append_right _ (List.mem_map.2 ⟨r, hr, rfl⟩)))))), by simp only [inRs, inR_self, hx, fa hc, fa hd, Bool.and_self]⟩
    · obtain ⟨r, hr, hx⟩ := pickR (p := fun x => Nat.ble 16 x && Nat.ble x 31) rng172 hb (by
        cases q : (Nat.ble 16 b && Nat.ble b 31) with
        | false => rfl
        | true =>
          simp only [Bool.and_eq_true] at q
          exact absurd ⟨rfl, Nat.le_of_ble_eq_true q.1, Nat.le_of_ble_eq_true q.2⟩ h172)
      exact ⟨[(172, 0), r, fr, fr], by unfold blocks; exact List.mem_append_left _ (List.mem_append_left _ (List.mem_append_left _ (List.mem_append_left _ (List.mem_append_right _ (List.mem_map.2 ⟨r, hr, rfl⟩))))), by simp only [inRs, inR_self, hx, fa hc, fa hd, Bool.and_self]⟩
    · obtain ⟨r, hr, hx⟩ := pickR (p := fun x => x == 168) rng192 hb (by simp; omega)
      exact ⟨[(192, 0), r, fr, fr], by unfold blocks; exact List.mem_append_left _ (List.mem_append_left _ (List.mem_append_left _ (List.mem_append_right _ (List.mem_map.2 ⟨r, hr, rfl⟩)))), by simp only [inRs, inR_self, hx, fa hc, fa hd, Bool.and_self]⟩
  · obtain ⟨r, hr, hx⟩ := pickR (p := fun x => specials.any (· == x)) parts_ok ha (Bool.eq_false_iff.2 hs)
    refine ⟨[r, fr, fr, fr], ?_, by simp only [inRs, hx, fa hb, fa hc, fa hd, Bool.and_self]⟩
    unfold blocks
    exact List.mem_append_left _ (List.mem_append_left _ (List.mem_append_left _ (List.mem_append_left _ (List.mem_append_left _ (List.mem_append_left _ (List.mem_append_left _ (List.mem_map.2 ⟨r, hr, rfl⟩)))))))
theorem blocks_form : [0, 1, 2].all (fun s => (blocks s).all fun c => match c with
  | [r0, r1, r2, r3] => Nat.ble r0.2 8 && Nat.ble r1.2 8 && Nat.ble r2.2 8 && Nat.ble r3.2 8
  | _ => false) = true := by decide +kernel
/-- The classes of an address of a space. -/
def blkAll (s : Nat) : List Cls := (blocks s).map blkCls
theorem blk_cov (j : Nat) (hj : j < 6) (V : Val) : ∃ cl ∈ blkAll (j % 3), ∃ V', ClsOk V V' j cl := by
  have ob := V.ob j
  obtain ⟨q, hq, hin⟩ := blk_in (a := V.oct j 0) (b := V.oct j 1) (c := V.oct j 2) (d := V.oct j 3) (by have := ob 0; omega) (by have := ob 1; omega) (by have := ob 2; omega) (by have := ob 3; omega) (V.spc j hj)
  have hs : j % 3 ∈ [0, 1, 2] := by
    have : j % 3 = 0 ∨ j % 3 = 1 ∨ j % 3 = 2 := by omega
    rcases this with h | h | h <;> rw [h] <;> simp
  have form := List.all_eq_true.1 (List.all_eq_true.1 blocks_form _ hs) q hq
  split at form <;> try (cases form; done)
  rename_i r0 r1 r2 r3
  simp only [Bool.and_eq_true] at form
  obtain ⟨⟨⟨f0, f1⟩, f2⟩, f3⟩ := form
  have f0 := Nat.le_of_ble_eq_true f0
  have f1 := Nat.le_of_ble_eq_true f1
  have f2 := Nat.le_of_ble_eq_true f2
  have f3 := Nat.le_of_ble_eq_true f3
  simp only [inRs, Bool.and_eq_true, and_true] at hin
  obtain ⟨i0, i1, i2, i3⟩ := hin
  refine ⟨_, List.mem_map.2 ⟨_, hq, rfl⟩, rngV V (V.oct j) [r0, r1, r2, r3], rfl, ?_, fun h => by cases h⟩
  intro k hk
  have : k = 0 ∨ k = 1 ∨ k = 2 ∨ k = 3 := by omega
  rcases this with rfl | rfl | rfl | rfl
  · exact ⟨_, rfl, rngV_val V (V.oct j) [r0, r1, r2, r3] 0 r0 (by omega) rfl f0 i0⟩
  · exact ⟨_, rfl, rngV_val V (V.oct j) [r0, r1, r2, r3] 1 r1 (by omega) rfl f1 i1⟩
  · exact ⟨_, rfl, rngV_val V (V.oct j) [r0, r1, r2, r3] 2 r2 (by omega) rfl f2 i2⟩
  · exact ⟨_, rfl, rngV_val V (V.oct j) [r0, r1, r2, r3] 3 r3 (by omega) rfl f3 i3⟩
theorem blkAll_tx (s : Nat) : ∀ cl ∈ blkAll s, cl.tx = false := by
  intro cl h
  obtain ⟨q, _, rfl⟩ := List.mem_map.1 h
  rfl
end Go.AH
