/- What a CRC-32 does, on numbers alone: steps of the register are linear; a byte is taken in by eight steps. -/
import Derived.Test.YtafkcjegahnolaaFrTab
namespace Go.Proofs.Ytafkcjegahnolaa
open Go.RowKit Go.Proofs.YtafkcjegahnolaaW.PrintWords

theorem div_xor (a b k : Nat) : (a ^^^ b) / 2 ^ k = (a / 2 ^ k) ^^^ (b / 2 ^ k) := by
  apply Nat.eq_of_testBit_eq
  intro i
  simp [Nat.testBit_div_two_pow]
theorem mod_xor (a b k : Nat) : (a ^^^ b) % 2 ^ k = (a % 2 ^ k) ^^^ (b % 2 ^ k) := by
  apply Nat.eq_of_testBit_eq
  intro i
  simp only [Nat.testBit_mod_two_pow, Nat.testBit_xor]
  by_cases h : i < k <;> simp [h]
theorem adv1_xor (a b : Nat) : adv1 (a ^^^ b) = adv1 a ^^^ adv1 b := by
  unfold adv1
  have h1 : (a ^^^ b) / 2 = (a / 2) ^^^ (b / 2) := div_xor a b 1
  have h2 : (a ^^^ b) % 2 = (a % 2) ^^^ (b % 2) := mod_xor a b 1
  rw [h1, h2]
  have ha : a % 2 = 0 ∨ a % 2 = 1 := by omega
  have hb : b % 2 = 0 ∨ b % 2 = 1 := by omega
  rcases ha with ha | ha <;> rcases hb with hb | hb <;> rw [ha, hb] <;> simp
  · rw [Nat.xor_assoc]
  · rw [Nat.xor_assoc, Nat.xor_comm (b / 2), Nat.xor_assoc]
  · rw [Nat.xor_assoc, ← Nat.xor_assoc 3988292384, Nat.xor_comm 3988292384 (b / 2), Nat.xor_assoc (b / 2), Nat.xor_self, Nat.xor_zero]
theorem adv_xor (n a b : Nat) : adv n (a ^^^ b) = adv n a ^^^ adv n b := by
  induction n with
  | zero => rfl
  | succ n ih => simp only [adv, ih, adv1_xor]
theorem adv_add (m n c : Nat) : adv (m + n) c = adv m (adv n c) := by
  induction m with
  | zero => simp [adv]
  | succ m ih => rw [Nat.succ_add]; simp only [adv, ih]
theorem adv1_even {c : Nat} (h : c % 2 = 0) : adv1 c = c / 2 := by simp [adv1, h]
theorem adv_high (n c : Nat) (h : c % 2 ^ n = 0) : adv n c = c / 2 ^ n := by
  induction n with
  | zero => simp [adv]
  | succ n ih =>
    have hn : c % 2 ^ n = 0 := by
      have h2 : 2 ^ n ∣ 2 ^ (n + 1) := Nat.pow_dvd_pow 2 (Nat.le_succ n)
      exact Nat.mod_eq_zero_of_dvd (Nat.dvd_trans h2 (Nat.dvd_of_mod_eq_zero h))
    rw [adv, ih hn]
    have he : c / 2 ^ n % 2 = 0 := by
      obtain ⟨q, hq⟩ := Nat.dvd_of_mod_eq_zero h
      rw [hq, Nat.pow_succ, Nat.mul_assoc, Nat.mul_div_cancel_left _ (Nat.two_pow_pos n)]
      omega
    rw [adv1_even he, Nat.div_div_eq_div_mul, ← Nat.pow_succ]
/-- So many steps: what is above goes down, what is below is turned. -/
theorem adv_split (n c : Nat) : adv n c = (c / 2 ^ n) ^^^ adv n (c % 2 ^ n) := by
  have h : c = (c / 2 ^ n * 2 ^ n) ^^^ (c % 2 ^ n) := by
    apply Nat.eq_of_testBit_eq
    intro i
    simp only [Nat.testBit_xor, Nat.testBit_mod_two_pow, Nat.testBit_mul_two_pow, Nat.testBit_div_two_pow]
    by_cases hi : i < n
    · simp [hi, Nat.not_le.2 hi]
    · have : n ≤ i := by omega
      simp [hi, this, Nat.sub_add_cancel this]
  have h2 : adv n (c / 2 ^ n * 2 ^ n) = c / 2 ^ n := by
    rw [adv_high n _ (Nat.mul_mod_left _ _), Nat.mul_div_cancel _ (Nat.two_pow_pos n)]
  conv => lhs; rw [h]
  rw [adv_xor, h2]

/-- Half a byte is taken in. -/
def half (c x : Nat) : Nat := (c / 16) ^^^ adv 4 ((c ^^^ x) % 16)
theorem half_eq (c x : Nat) : half c x = adv 4 (c ^^^ x) ^^^ (x / 16) := by
  unfold half
  have h1 := adv_split 4 (c ^^^ x)
  rw [h1, div_xor]
  show (c / 16) ^^^ adv 4 ((c ^^^ x) % 16) = (((c / 16) ^^^ (x / 16)) ^^^ adv 4 ((c ^^^ x) % 16)) ^^^ (x / 16)
  generalize adv 4 ((c ^^^ x) % 16) = z
  generalize c / 16 = u
  generalize x / 16 = v
  rw [Nat.xor_assoc u v z, Nat.xor_comm v z, Nat.xor_assoc u (z ^^^ v) v, Nat.xor_assoc z v v, Nat.xor_self, Nat.xor_zero]
/-- A byte is taken in. -/
def sumStep (c x : Nat) : Nat := adv 8 (c ^^^ x)
theorem half_half {c x : Nat} (hx : x < 256) : half (half c x) (x / 16) = sumStep c x := by
  rw [half_eq (half c x), half_eq c x]
  have h0 : x / 16 / 16 = 0 := by omega
  rw [h0, Nat.xor_zero, Nat.xor_assoc, Nat.xor_self, Nat.xor_zero, ← adv_add]
  rfl
theorem half_lt {c x : Nat} (h : c < 4294967296) (hx : x < 256) : half c x < 4294967296 := by
  unfold half
  exact Nat.xor_lt_two_pow (n := 32) (by omega) (adv_lt (by omega))
theorem sumStep_lt {c x : Nat} (h : c < 4294967296) (hx : x < 256) : sumStep c x < 4294967296 :=
  adv_lt (Nat.xor_lt_two_pow (n := 32) h (by omega))

/-- The register behind so many bytes. -/
def crc (c : Nat) (l : List Int) : Nat := l.foldl (fun c x => sumStep c x.toNat) c
/-- Sum's answer. -/
def sumOf (l : List Int) : Nat := 4294967295 - crc 4294967295 l
end Go.Proofs.Ytafkcjegahnolaa
