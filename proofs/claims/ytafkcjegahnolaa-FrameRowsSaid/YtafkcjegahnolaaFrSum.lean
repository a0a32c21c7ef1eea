/- frame.Sum by its contract. -/
import Derived.Test.YtafkcjegahnolaaFrLaw
namespace Go.Proofs.Ytafkcjegahnolaa
open Go.RowKit Go.Proofs.YtafkcjegahnolaaW.PrintWords

def BytesOk (xs : List Int) : Prop := ∀ x ∈ xs, 0 ≤ x ∧ x < 256
theorem BytesOk.at {xs : List Int} (h : BytesOk xs) {k : Nat} {x : Int} (hx : xs[k]? = some x) : ∃ n : Nat, n < 256 ∧ x = (n : Int) := by
  have := h x (List.mem_of_getElem? hx)
  exact ⟨x.toNat, by omega, by omega⟩
theorem crc_lt {c : Nat} {l : List Int} (hc : c < 4294967296) (h : BytesOk l) : crc c l < 4294967296 := by
  unfold crc
  induction l generalizing c with
  | nil => exact hc
  | cons x r ih => exact ih (sumStep_lt hc (by have := h x (by simp); omega)) (fun y hy => h y (by simp [hy]))
theorem crc_snoc (c : Nat) (l : List Int) (x : Int) : crc c (l ++ [x]) = sumStep (crc c l) x.toNat := by simp [crc]
theorem crc_append (c : Nat) (l m : List Int) : crc c (l ++ m) = crc (crc c l) m := by simp [crc]
theorem crc_take_succ {c : Nat} {l : List Int} {k n : Nat} (h : l[k]? = some (n : Int)) : crc c (l.take (k + 1)) = half (half (crc c (l.take k)) n) (n / 16) ∨ 256 ≤ n := by
  rcases Nat.lt_or_ge n 256 with hn | hn
  · left
    rw [List.take_add_one, h]
    show crc c (l.take k ++ [(n : Int)]) = _
    rw [crc_snoc, half_half hn]
    rfl
  · exact Or.inr hn

theorem half_bits {c x : Nat} (hc : c < 4294967296) (hx : x < 256) : bits .and .u32 (bits .xor .u32 (c : Int) (x : Int)) 15 = (((c ^^^ x) % 16 : Nat) : Int) ∧ (∀ t : Nat, t < 4294967296 → bits .xor .u32 ((c : Int) / 16) (t : Int) = (((c / 16) ^^^ t : Nat) : Int)) := by
  constructor
  · rw [u32_xor_nat c x hc (by omega)]
    have := u32_and_nat (c ^^^ x) 15 (Nat.xor_lt_two_pow (n := 32) hc (by omega)) (by omega)
    rw [nat_mask4] at this
    exact this
  · intro t ht
    have h3 : ((c : Int) / 16) = ((c / 16 : Nat) : Int) := by omega
    rw [h3]
    exact u32_xor_nat (c / 16) t (by omega) ht

theorem turned {m : Nat} (hm : m < 4294967296) : 4294967295 ^^^ m = 4294967295 - m := by
  apply Nat.eq_of_testBit_eq
  intro i
  have h1 := Nat.testBit_two_pow_sub_succ (n := 32) hm i
  have h2 := Nat.testBit_two_pow_sub_one 32 i
  rw [show 4294967295 - m = 2 ^ 32 - (m + 1) by omega, h1, Nat.testBit_xor, show 4294967295 = 2 ^ 32 - 1 by decide, h2]
  by_cases h : i < 32
  · simp [h]
  · have : m.testBit i = false := Nat.testBit_lt_two_pow (Nat.lt_of_lt_of_le hm (Nat.pow_le_pow_right (by omega : 0 < 2) (by omega : 32 ≤ i)))
    simp [h, this]
theorem turned_bits {m : Nat} (hm : m < 4294967296) : bits .xor .u32 IntKind.u32.max (m : Int) = ((4294967295 - m : Nat) : Int) := by
  have := u32_xor_nat 4294967295 m (by omega) hm
  rw [turned hm] at this
  exact this

theorem loop_dec {k n : Nat} (h : k < n) : n - (intOf (.int .i64 ((k : Int) + 1))).toNat < n - (intOf (.int .i64 (k : Int))).toNat := by
  simp [intOf]
  omega

/-- The table in memory. -/
structure TabIn (b : Nat) (w : World) : Prop where
  cells : ∀ j, j < 16 → w.cell? ⟨b, j, none⟩ = some (.int .u32 ((adv 4 j : Nat) : Int))

set_option maxHeartbeats 800000 in
theorem sum_any (A : Option Addr) (c : Nat) (xs : List Int) (w : World) (hC : (Kd.int .u8).C w A xs.length xs) (hx : BytesOk xs) :
    Calls Try.prog 12 #[.slice A xs.length c] w fun e w' => e = .returned (.int .u32 (sumOf xs : Nat)) ∧ Below w.heap.size w w' := by
  have HC := Lib.hid hC
  clear hC
  go_enter Try.func12, Try.ntmps12
  go_wp2_with fail
  refine Calls.mono (table_any w) ?_
  rintro e w1 ⟨rfl, hb⟩
  have HB := Lib.hid hb
  clear hb
  unfold tabVal
  go_wp2_with fail
  go_loopw [4, 6, 10] (fun cc _ i wr => ∃ k : Nat, k ≤ xs.length ∧ i = .int .i64 k ∧ cc = .int .u32 (crc 4294967295 (xs.take k) : Nat) ∧ TabIn w1.heap.size wr ∧ Below w.heap.size w wr) (fun _ _ i _ => xs.length - (intOf i).toNat)
  case atStart =>
    refine ⟨0, by omega, rfl, ?_, ?_, ?_⟩
    · simp [crc]
    · refine ⟨fun j hj => ?_⟩
      rw [World.cell?_alloc_at _ _ _ _ rfl]
      have : j = 0 ∨ j = 1 ∨ j = 2 ∨ j = 3 ∨ j = 4 ∨ j = 5 ∨ j = 6 ∨ j = 7 ∨ j = 8 ∨ j = 9 ∨ j = 10 ∨ j = 11 ∨ j = 12 ∨ j = 13 ∨ j = 14 ∨ j = 15 := by omega
      rcases this with e | e | e | e | e | e | e | e | e | e | e | e | e | e | e | e <;> subst e <;> rfl
    · exact HB.out.alloc HB.out.size _
  case round =>
    obtain ⟨k, hk, rfl, rfl, hT, hb⟩ := hrel
    have HT := Lib.hid hT
    have HB := Lib.hid hb
    clear hT hb
    obtain ⟨m, hm⟩ : ∃ m, m = crc 4294967295 (xs.take k) := ⟨_, rfl⟩
    have hml : m < 4294967296 := by rw [hm]; exact crc_lt (by omega) (fun y hy => hx y (List.mem_of_mem_take hy))
    rw [← hm]
    have HM := Lib.hid hm
    clear hm
    by_cases hlt : k < xs.length
    · obtain ⟨ad, x, hA, hxk, hc⟩ := C_nth_scalar (Kd.C_below HC.out HB.out) k hlt
      subst hA
      obtain ⟨n, hn, rfl⟩ := BytesOk.at hx hxk
      have HX := Lib.hid hxk
      clear hxk
      have hc : wr.cell? (ad.add k) = some (.int .u8 (n : Int)) := hc
      obtain ⟨hb1, hb2⟩ := half_bits hml (show n < 256 from hn)
      obtain ⟨i, hi⟩ : ∃ i, i = (m ^^^ n) % 16 := ⟨_, rfl⟩
      rw [← hi] at hb1
      have hi16 : i < 16 := by omega
      have hci := HT.out.cells i hi16
      have hb3 := hb2 (adv 4 i) (adv_lt (by omega))
      obtain ⟨m2, hm2⟩ : ∃ m2, m2 = m / 16 ^^^ adv 4 i := ⟨_, rfl⟩
      rw [← hm2] at hb3
      obtain ⟨n2, hn2⟩ : ∃ n2, n2 = n / 16 := ⟨_, rfl⟩
      have hnn : (n : Int) / 16 = (n2 : Int) := by omega
      have hm2l : m2 < 4294967296 := by rw [hm2]; exact Nat.xor_lt_two_pow (n := 32) (by omega) (adv_lt (by omega))
      obtain ⟨hb4, hb5⟩ := half_bits hm2l (show n2 < 256 by omega)
      obtain ⟨i2, hi2⟩ : ∃ i2, i2 = (m2 ^^^ n2) % 16 := ⟨_, rfl⟩
      rw [← hi2] at hb4
      have hi216 : i2 < 16 := by omega
      have hci2 := HT.out.cells i2 hi216
      have hb6 := hb5 (adv 4 i2) (adv_lt (by omega))
      clear hb2 hb5
      have h1 := Lib.hid hi
      have h2 := Lib.hid hm2
      have h3 := Lib.hid hn2
      have h4 := Lib.hid hi2
      clear hi hm2 hn2 hi2
      have hw : wrap64 ((k : Int) + 1) = (k : Int) + 1 := IntWalk.wrap64_in _ (by have := HC.out.2.1; omega)
      go_wp2_with fail
      rw [hw]
      refine ⟨⟨k + 1, Nat.succ_le_of_lt hlt, by simp, ?_, HT.out, HB.out⟩, loop_dec hlt⟩
      rcases crc_take_succ (c := 4294967295) HX.out with h | h
      · rw [h, ← HM.out]
        have h1' := h1.out
        have h2' := h2.out
        have h3' := h3.out
        have h4' := h4.out
        subst h1' h2' h3' h4'
        rfl
      · omega
    · have : k = xs.length := by omega
      subst this
      have hcm := turned_bits hml
      go_wp2_with fail
      go_ret
      refine ⟨?_, HB.out⟩
      rw [HM.out, List.take_length]
      rfl

end Go.Proofs.Ytafkcjegahnolaa
