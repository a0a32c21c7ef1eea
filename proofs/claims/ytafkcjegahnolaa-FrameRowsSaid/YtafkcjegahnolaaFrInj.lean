/- A CRC-32 tells apart what differs in four bytes in a row at most. -/
import Derived.Test.YtafkcjegahnolaaFrSeal
namespace Go.Proofs.Ytafkcjegahnolaa
open Go.RowKit Go.Proofs.YtafkcjegahnolaaW.PrintWords

theorem adv1_zero {d : Nat} (hd : d < 4294967296) (h : adv1 d = 0) : d = 0 := by
  unfold adv1 at h
  by_cases ho : d % 2 = 1
  · rw [if_pos ho] at h
    have : d / 2 = 3988292384 := by
      have h2 : d / 2 ^^^ 3988292384 ^^^ 3988292384 = 0 ^^^ 3988292384 := by rw [h]
      rw [Nat.xor_assoc, Nat.xor_self, Nat.xor_zero, Nat.zero_xor] at h2
      exact h2
    omega
  · rw [if_neg ho, Nat.xor_zero] at h
    omega
theorem xor_zero_eq {a b : Nat} (h : a ^^^ b = 0) : a = b := by
  have h2 : a ^^^ b ^^^ b = 0 ^^^ b := by rw [h]
  rw [Nat.xor_assoc, Nat.xor_self, Nat.xor_zero, Nat.zero_xor] at h2
  exact h2
theorem adv_zero {n d : Nat} (hd : d < 4294967296) (h : adv n d = 0) : d = 0 := by
  induction n with
  | zero => exact h
  | succ n ih => exact ih (adv1_zero (adv_lt hd) h)
theorem adv_inj {n a b : Nat} (ha : a < 4294967296) (hb : b < 4294967296) (h : adv n a = adv n b) : a = b := by
  apply xor_zero_eq
  refine adv_zero (n := n) (Nat.xor_lt_two_pow (n := 32) ha hb) ?_
  rw [adv_xor, h, Nat.xor_self]
def pack : List Int → Nat
  | [] => 0
  | x :: l => x.toNat ^^^ (256 * pack l)
theorem crc_pack (c : Nat) (l : List Int) : crc c l = adv (8 * l.length) (c ^^^ pack l) := by
  induction l generalizing c with
  | nil => simp [crc, adv, pack]
  | cons x l ih =>
    show crc (sumStep c x.toNat) l = _
    have h8 : adv 8 (256 * pack l) = pack l := by
      rw [adv_high 8 _ (by omega)]
      omega
    rw [ih, sumStep, show 8 * (x :: l).length = 8 * l.length + 8 by simp; omega, adv_add, pack, ← Nat.xor_assoc, adv_xor 8 (c ^^^ x.toNat), h8]
theorem pack_split {l : List Int} {x : Int} (hx : 0 ≤ x ∧ x < 256) : pack (x :: l) % 256 = x.toNat ∧ pack (x :: l) / 256 = pack l := by
  rw [pack]
  constructor
  · have := mod_xor x.toNat (256 * pack l) 8
    rw [show (2 : Nat) ^ 8 = 256 by decide] at this
    rw [this, Nat.mul_mod_right, Nat.xor_zero]
    omega
  · have := div_xor x.toNat (256 * pack l) 8
    rw [show (2 : Nat) ^ 8 = 256 by decide] at this
    rw [this, show x.toNat / 256 = 0 by omega, Nat.zero_xor]
    omega
theorem pack_lt {l : List Int} (h : BytesOk l) : pack l < 256 ^ l.length := by
  induction l with
  | nil => simp [pack]
  | cons x l ih =>
    have hx := h x (by simp)
    have := ih (fun y hy => h y (by simp [hy]))
    obtain ⟨h1, h2⟩ := pack_split (l := l) hx
    rw [List.length_cons, Nat.pow_succ]
    omega
theorem pack_inj {l m : List Int} (hl : BytesOk l) (hm : BytesOk m) (hlen : l.length = m.length) (h : pack l = pack m) : l = m := by
  induction l generalizing m with
  | nil => exact (List.eq_nil_of_length_eq_zero hlen.symm).symm
  | cons x l ih =>
    cases m with
    | nil => simp at hlen
    | cons y m =>
      have hx := hl x (by simp)
      have hy := hm y (by simp)
      obtain ⟨h1, h2⟩ := pack_split (l := l) hx
      obtain ⟨h3, h4⟩ := pack_split (l := m) hy
      rw [h] at h1 h2
      have e1 : x = y := by omega
      have e2 : l = m := ih (fun z hz => hl z (by simp [hz])) (fun z hz => hm z (by simp [hz])) (by simpa using hlen) (by omega)
      rw [e1, e2]
theorem crc_inj {c c' : Nat} {l : List Int} (hc : c < 4294967296) (hc' : c' < 4294967296) (hl : BytesOk l) (h : crc c l = crc c' l) : c = c' := by
  induction l generalizing c c' with
  | nil => exact h
  | cons x l ih =>
    have hx := hl x (by simp)
    have h1 := ih (sumStep_lt hc (by omega : x.toNat < 256)) (sumStep_lt hc' (by omega : x.toNat < 256)) (fun y hy => hl y (by simp [hy])) h
    have h2 := adv_inj (n := 8) (Nat.xor_lt_two_pow (n := 32) hc (by omega)) (Nat.xor_lt_two_pow (n := 32) hc' (by omega)) h1
    have h3 : c ^^^ x.toNat ^^^ x.toNat = c' ^^^ x.toNat ^^^ x.toNat := by rw [h2]
    rwa [Nat.xor_assoc, Nat.xor_self, Nat.xor_zero, Nat.xor_assoc, Nat.xor_self, Nat.xor_zero] at h3
theorem crc_apart {c : Nat} {p u v s : List Int} (hc : c < 4294967296) (hp : BytesOk p) (hu : BytesOk u) (hv : BytesOk v) (hs : BytesOk s) (hlen : u.length = v.length) (h4 : u.length ≤ 4)
    (h : crc c (p ++ u ++ s) = crc c (p ++ v ++ s)) : u = v := by
  rw [crc_append, crc_append, crc_append c (p ++ v), crc_append c p v] at h
  have hr := crc_lt hc hp
  have h1 := crc_inj (crc_lt hr hu) (crc_lt hr hv) hs h
  generalize crc c p = r at *
  rw [crc_pack r u, crc_pack r v, hlen] at h1
  have b1 := pack_lt hu
  have b2 := pack_lt hv
  have e4 : 256 ^ v.length ≤ 256 ^ 4 := Nat.pow_le_pow_right (by omega) (by omega)
  rw [hlen] at b1
  have h2 := adv_inj (Nat.xor_lt_two_pow (n := 32) hr (by omega)) (Nat.xor_lt_two_pow (n := 32) hr (by omega)) h1
  have h3 : r ^^^ (r ^^^ pack u) = r ^^^ (r ^^^ pack v) := by rw [h2]
  rw [← Nat.xor_assoc, ← Nat.xor_assoc, Nat.xor_self, Nat.zero_xor, Nat.zero_xor] at h3
  exact pack_inj hu hv hlen h3
theorem sumOf_inj {l m : List Int} (hl : BytesOk l) (hm : BytesOk m) (h : sumOf l = sumOf m) : crc 4294967295 l = crc 4294967295 m := by
  have h1 := crc_lt (show 4294967295 < 4294967296 by decide) hl
  have h2 := crc_lt (show 4294967295 < 4294967296 by decide) hm
  unfold sumOf at h
  generalize crc 4294967295 l = a at *
  generalize crc 4294967295 m = b at *
  omega
theorem sum_apart {p u v s : List Int} (hp : BytesOk p) (hu : BytesOk u) (hv : BytesOk v) (hs : BytesOk s) (hlen : u.length = v.length) (h4 : u.length ≤ 4)
    (h : sumOf (p ++ u ++ s) = sumOf (p ++ v ++ s)) : u = v :=
  crc_apart (by decide) hp hu hv hs hlen h4 (sumOf_inj ((hp.app hu).app hs) ((hp.app hv).app hs) h)
end Go.Proofs.Ytafkcjegahnolaa
