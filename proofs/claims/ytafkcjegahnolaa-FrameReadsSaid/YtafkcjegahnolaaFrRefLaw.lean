/- The document's sum is Sum's. -/
import Derived.Test.YtafkcjegahnolaaFrRefDef
namespace Go.Proofs.Ytafkcjegahnolaa
open Go.RowKit Go.Proofs.YtafkcjegahnolaaW.PrintWords

theorem beqd (a b : Nat) : (a == b) = decide (a = b) := by rw [Bool.eq_iff_iff]; simp
theorem getD_app_l (l m : List Bool) (j : Nat) (h : j < l.length) : (l ++ m).getD j false = l.getD j false := by
  rw [List.getD_eq_getElem?_getD, List.getD_eq_getElem?_getD, List.getElem?_append_left h]
theorem getD_app_r (l m : List Bool) (j : Nat) (h : l.length ≤ j) : (l ++ m).getD j false = m.getD (j - l.length) false := by
  rw [List.getD_eq_getElem?_getD, List.getD_eq_getElem?_getD, List.getElem?_append_right h]
theorem flip1_getD (l : List Bool) (t j : Nat) (hj : j < l.length) : (flip1 l t).getD j false = (l.getD j false ^^ (j == t)) := by
  rw [beqd]
  simp only [flip1, List.getD_eq_getElem?_getD, List.getElem?_set]
  by_cases h : t = j
  · subst h
    simp [hj]
  · have h2 : ¬ j = t := fun e => h e.symm
    simp [h, h2]
theorem flipN_getD (l : List Bool) (m j : Nat) (hj : j < l.length) : (flipN l m).getD j false = (l.getD j false ^^ decide (j < m)) := by
  induction m with
  | zero => simp [flipN]
  | succ m ih =>
    rw [flipN, flip1_getD _ _ _ (by rw [flipN_length]; exact hj), ih, beqd]
    by_cases h1 : j < m
    · have : ¬ j = m := by omega
      have h2 : j < m + 1 := by omega
      simp [h1, h2, this]
    · by_cases h3 : j = m
      · subst h3
        simp
      · have h2 : ¬ j < m + 1 := by omega
        simp [h1, h2, h3]
def hit (i : Nat) : Nat → Nat → Bool
  | 0, _ => false
  | k + 1, j => hit i k j ^^ (j == i + 32 - pows.getD k 0)
theorem flipP_getD (l : List Bool) (i k j : Nat) (hj : j < l.length) : (flipP l i k).getD j false = (l.getD j false ^^ hit i k j) := by
  induction k with
  | zero => simp [flipP, hit]
  | succ k ih => rw [flipP, flip1_getD _ _ _ (by rw [flipP_length]; exact hj), ih, hit, Bool.xor_assoc]
def hitT : Nat → Nat → Bool
  | 0, _ => false
  | k + 1, t => hitT k t ^^ (t + pows.getD k 0 == 31)
theorem pows_le (k : Nat) : pows.getD k 0 ≤ 26 := by
  rcases Nat.lt_or_ge k 14 with h | h
  · have : k = 0 ∨ k = 1 ∨ k = 2 ∨ k = 3 ∨ k = 4 ∨ k = 5 ∨ k = 6 ∨ k = 7 ∨ k = 8 ∨ k = 9 ∨ k = 10 ∨ k = 11 ∨ k = 12 ∨ k = 13 := by omega
    rcases this with e | e | e | e | e | e | e | e | e | e | e | e | e | e <;> subst e <;> decide
  · have : pows.getD k 0 = 0 := by rw [List.getD_eq_getElem?_getD, List.getElem?_eq_none (by simpa [pows] using h)]; rfl
    omega
theorem hit_eq (i k t : Nat) : hit i k (i + 1 + t) = hitT k t := by
  induction k with
  | zero => rfl
  | succ k ih =>
    rw [hit, hitT, ih]
    have := pows_le k
    congr 1
    rw [Bool.eq_iff_iff]
    simp
    omega
theorem hitT_high (k t : Nat) (h : 32 ≤ t) : hitT k t = false := by
  induction k with
  | zero => rfl
  | succ k ih =>
    rw [hitT, ih]
    have : ¬ (t + pows.getD k 0 = 31) := by omega
    simpa using this
theorem hitT_poly (t : Nat) (h : t < 32) : hitT 14 t = (3988292384 : Nat).testBit t := by
  have : ∀ t : Fin 32, hitT 14 t.val = (3988292384 : Nat).testBit t.val := by decide
  exact this ⟨t, h⟩

/-- The register behind so many bits. -/
def creg (c : Nat) (D : Nat → Bool) : Nat → Nat
  | 0 => c
  | i + 1 => adv1 (creg c D i ^^^ (D i).toNat)
theorem creg_lt {c : Nat} {D : Nat → Bool} (hc : c < 4294967296) (i : Nat) : creg c D i < 4294967296 := by
  induction i with
  | zero => exact hc
  | succ i ih => exact adv1_lt (Nat.xor_lt_two_pow (n := 32) ih (by cases D i <;> decide))
theorem adv1_testBit (c : Nat) (b : Bool) (t : Nat) : (adv1 (c ^^^ b.toNat)).testBit t = (c.testBit (t + 1) ^^ ((c.testBit 0 ^^ b) && (3988292384 : Nat).testBit t)) := by
  have h1 : (c ^^^ b.toNat).testBit (t + 1) = c.testBit (t + 1) := by
    have : b.toNat.testBit (t + 1) = false := by cases b <;> simp [Nat.testBit_add_one]
    rw [Nat.testBit_xor, this, Bool.xor_false]
  have h2 : ((c ^^^ b.toNat) % 2 = 1) ↔ (c.testBit 0 ^^ b) = true := by
    have : (c ^^^ b.toNat).testBit 0 = (c.testBit 0 ^^ b) := by
      have : b.toNat.testBit 0 = b := by cases b <;> rfl
      rw [Nat.testBit_xor, this]
    rw [← this, Nat.testBit_zero]
    simp
  unfold adv1
  rw [Nat.testBit_xor, ← Nat.testBit_add_one, h1]
  by_cases h : (c ^^^ b.toNat) % 2 = 1
  · rw [if_pos h, (h2.1 h)]
    simp
  · rw [if_neg h]
    have : (c.testBit 0 ^^ b) = false := by
      cases hb : (c.testBit 0 ^^ b)
      · rfl
      · exact absurd (h2.2 hb) h
    rw [this]
    simp
theorem divide_win (D : Nat → Bool) (n : Nat) (l : List Bool) (hl : l.length = n + 32) (h0 : ∀ j, j < n + 32 → l.getD j false = (D j ^^ decide (j < 32))) :
    ∀ i, i ≤ n → (∀ t, t < 32 → (divide l i).getD (i + t) false = ((creg 4294967295 D i).testBit t ^^ D (i + t))) ∧ (∀ j, i + 32 ≤ j → j < n + 32 → (divide l i).getD j false = D j) := by
  intro i
  induction i with
  | zero =>
    intro _
    refine ⟨fun t ht => ?_, fun j h1 h2 => ?_⟩
    · rw [divide, Nat.zero_add, h0 t (by omega), creg, show (4294967295 : Nat) = 2 ^ 32 - 1 by decide, Nat.testBit_two_pow_sub_one, Bool.xor_comm]
    · rw [divide, h0 j h2]
      have : ¬ j < 32 := by omega
      simp [this]
  | succ i ih =>
    intro hi
    obtain ⟨ha, hb⟩ := ih (by omega)
    have hlsb := ha 0 (by omega)
    rw [Nat.add_zero] at hlsb
    have hstep : ∀ j, j < n + 32 → (divide l (i + 1)).getD j false = ((divide l i).getD j false ^^ ((divide l i).getD i false && hit i 14 j)) := by
      intro j hj
      rw [divide]
      cases hbit : (divide l i).getD i false with
      | true =>
        rw [if_pos rfl, flipP_getD _ _ _ _ (by rw [divide_length, hl]; exact hj)]
        simp
      | false =>
        rw [if_neg (by decide)]
        simp
    have hc := creg_lt (D := D) (show 4294967295 < 4294967296 by decide) i
    refine ⟨fun t ht => ?_, fun j h1 h2 => ?_⟩
    · rw [hstep _ (by omega), hit_eq, creg, adv1_testBit, hlsb, hitT_poly t ht]
      rcases Nat.lt_or_ge (t + 1) 32 with h | h
      · have := ha (t + 1) h
        rw [show i + (t + 1) = i + 1 + t by omega] at this
        rw [this]
        cases (creg 4294967295 D i).testBit (t + 1) <;> cases D (i + 1 + t) <;> cases (((creg 4294967295 D i).testBit 0 ^^ D i) && (3988292384 : Nat).testBit t) <;> rfl
      · have ht1 : t = 31 := by omega
        subst ht1
        rw [hb (i + 1 + 31) (by omega) (by omega)]
        have : (creg 4294967295 D i).testBit (31 + 1) = false := Nat.testBit_lt_two_pow hc
        rw [this]
        cases D (i + 1 + 31) <;> cases (((creg 4294967295 D i).testBit 0 ^^ D i) && (3988292384 : Nat).testBit 31) <;> rfl
    · rw [hstep _ h2, hb j (by omega) h2]
      have : hit i 14 j = false := by
        have := hit_eq i 14 (j - (i + 1))
        rw [show i + 1 + (j - (i + 1)) = j by omega] at this
        rw [this]
        exact hitT_high _ _ (by omega)
      rw [this]
      simp
theorem readN_eq (l : List Bool) (n c : Nat) (hc : c < 4294967296) (hl : l.length = n + 32) (h : ∀ t, t < 32 → l.getD (n + t) false = c.testBit t) (s : Nat) (hs : s ≤ 32) : readN l s + c / 2 ^ (32 - s) + 1 = 2 ^ s := by
  induction s with
  | zero =>
    simp [readN]
    omega
  | succ s ih =>
    have ih := ih (by omega)
    rw [readN, hl, show n + 32 - 1 - s = n + (31 - s) by omega, h (31 - s) (by omega), Nat.pow_succ]
    have e1 : c / 2 ^ (32 - s) = c / 2 ^ (31 - s) / 2 := by
      rw [Nat.div_div_eq_div_mul, ← Nat.pow_succ]
      congr 2
      omega
    rw [e1] at ih
    rw [show 32 - (s + 1) = 31 - s by omega, Nat.testBit_eq_decide_div_mod_eq]
    generalize c / 2 ^ (31 - s) = z at *
    have : z % 2 = 0 ∨ z % 2 = 1 := by omega
    rcases this with hz | hz <;> simp [hz] <;> omega

theorem bit_byte (c x : Nat) (D : Nat → Bool) (k : Nat) (h : ∀ q, q < k → D q = (x / 2 ^ q % 2 == 1)) : creg c D k ^^^ (x / 2 ^ k) = adv k (c ^^^ x) := by
  induction k with
  | zero => simp [creg, adv]
  | succ k ih =>
    have ih := ih (fun q hq => h q (by omega))
    rw [adv, ← ih, creg, h k (by omega), Nat.pow_succ, ← Nat.div_div_eq_div_mul]
    generalize creg c D k = B
    generalize x / 2 ^ k = y
    have e : y = (y % 2) ^^^ (2 * (y / 2)) := by
      apply Nat.eq_of_testBit_eq
      intro i
      rw [Nat.testBit_xor]
      cases i with
      | zero => simp [Nat.testBit_zero]
      | succ i => simp [Nat.testBit_add_one]
    have e2 : (y % 2 == 1).toNat = y % 2 := by
      have : y % 2 = 0 ∨ y % 2 = 1 := by omega
      rcases this with h | h <;> rw [h] <;> rfl
    rw [e2]
    have e3 : adv1 (B ^^^ y) = adv1 (B ^^^ (y % 2)) ^^^ (y / 2) := by
      conv => lhs; rw [e]
      rw [← Nat.xor_assoc, adv1_xor (B ^^^ (y % 2)), adv1_even (c := 2 * (y / 2)) (by omega)]
      congr 1
      omega
    exact e3.symm
theorem creg_add (c : Nat) (D : Nat → Bool) (m k : Nat) : creg c D (m + k) = creg (creg c D m) (fun q => D (m + q)) k := by
  induction k with
  | zero => rfl
  | succ k ih => rw [← Nat.add_assoc, creg, creg, ih]
theorem creg_congr (c : Nat) (D E : Nat → Bool) (k : Nat) (h : ∀ q, q < k → D q = E q) : creg c D k = creg c E k := by
  induction k with
  | zero => rfl
  | succ k ih => rw [creg, creg, ih (fun q hq => h q (by omega)), h k (by omega)]
theorem bitsN_getD (n j q : Nat) (h : q < j) : (bitsN n j).getD q false = (n / 2 ^ q % 2 == 1) := by
  simp [bitsN, List.getD_eq_getElem?_getD, h]
theorem creg_bytes (c : Nat) (l : List Int) (hx : BytesOk l) (r : List Bool) : creg c (fun j => (bitsOf l ++ r).getD j false) (8 * l.length) = crc c l := by
  induction l generalizing c with
  | nil => rfl
  | cons x m ih =>
    have hx0 := hx x (by simp)
    have hb : bitsOf (x :: m) = bitsN x.toNat 8 ++ bitsOf m := by simp [bitsOf]
    have h1 : creg c (fun j => (bitsOf (x :: m) ++ r).getD j false) 8 = sumStep c x.toNat := by
      have := bit_byte c x.toNat (fun j => (bitsOf (x :: m) ++ r).getD j false) 8 (fun q hq => by
        rw [hb, List.append_assoc, getD_app_l _ _ _ (by rw [bitsN_length]; exact hq), bitsN_getD _ _ _ hq])
      rw [show x.toNat / 2 ^ 8 = 0 by omega, Nat.xor_zero] at this
      exact this
    rw [show 8 * (x :: m).length = 8 + 8 * m.length by simp; omega, creg_add, h1]
    show _ = crc (sumStep c x.toNat) m
    rw [← ih _ (fun y hy => hx y (by simp [hy]))]
    apply creg_congr
    intro q _
    show (bitsOf (x :: m) ++ r).getD (8 + q) false = _
    rw [hb, List.append_assoc, getD_app_r _ _ _ (by rw [bitsN_length]; omega), bitsN_length]
    congr 1
    omega
theorem refSum_eq (l : List Int) (hx : BytesOk l) : refSum l = sumOf l := by
  have hcr := creg_bytes 4294967295 l hx (List.replicate 32 false)
  have hlen : (bitsOf l ++ List.replicate 32 false).length = 8 * l.length + 32 := by simp [bitsOf_length]
  obtain ⟨h1, _⟩ := divide_win (fun j => (bitsOf l ++ List.replicate 32 false).getD j false) (8 * l.length) (row0 l) (row0_length l) (fun j hj => by
    rw [row0, flipN_getD _ _ _ (by rw [hlen]; exact hj)]) (8 * l.length) (Nat.le_refl _)
  have hlt := crc_lt (show 4294967295 < 4294967296 by decide) hx
  have := readN_eq (rest l) (8 * l.length) (crc 4294967295 l) hlt (rest_length l) (fun t ht => by
    rw [rest, h1 t ht, hcr]
    have : (bitsOf l ++ List.replicate 32 false).getD (8 * l.length + t) false = false := by
      rw [getD_app_r _ _ _ (by rw [bitsOf_length]; omega), bitsOf_length, List.getD_eq_getElem?_getD, List.getElem?_replicate]
      split <;> rfl
    rw [this]
    simp) 32 (Nat.le_refl _)
  rw [refSum, sumOf]
  simp at this
  omega
end Go.Proofs.Ytafkcjegahnolaa
