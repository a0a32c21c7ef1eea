/- What the law of layer 17 calls besides: 'same' tells whether two rows are one, and 'awake' tells true. -/
import Derived.Test.YteeiobjjipcihaaPost1
namespace Go.Proofs.Yteeiobjjipcihaa
open Go.RowKit Go.Proofs.YteeiobjjipcihaaW.PrintWords

set_option maxHeartbeats 400000 in
theorem same_any (A B : Option Addr) (ca cb na nb : Nat) (xs ys : List Int) (w : World) (hA : (Kd.int .i64).C w A na xs) (hB : (Kd.int .i64).C w B nb ys) :
    Calls Try.prog 18 #[.slice A na ca, .slice B nb cb] w fun e w' => e = .returned (.bool (xs == ys)) ∧ Below w.heap.size w w' := by
  have ea := Kd.C_len hA
  have eb := Kd.C_len hB
  subst ea
  subst eb
  have hm := Kd.C_max hA
  by_cases hl : xs.length = ys.length
  · obtain ⟨n, hn⟩ : ∃ n, n = xs.length := ⟨_, rfl⟩
    have HL := Lib.hid hl
    have HN := Lib.hid hn
    have hna : n ≤ 9223372036854775807 := by omega
    rw [← hl, ← hn]
    rw [← hl, ← hn] at hB
    rw [← hn] at hA
    have heq : (((n : Int) != (n : Int)) = false) := by simp
    clear hl hn hm
    go_enter Try.func18, Try.ntmps18
    go_wp2_with fail
    go_loopw [5, 13] (fun _ i wr => ∃ k : Nat, k ≤ n ∧ i = .int .i64 k ∧ xs.take k = ys.take k ∧ Below w.heap.size w wr) (fun _ i _ => n - (intOf i).toNat)
    case atStart => exact ⟨0, Nat.zero_le _, rfl, rfl, Below.refl _ _⟩
    case round =>
      obtain ⟨k, hk, rfl, htk, hBel⟩ := hrel
      have HT := Lib.hid htk
      clear htk
      by_cases hlt : k < n
      · obtain ⟨ad, x, rfl, hx, hc1⟩ := C_nth_scalar (Kd.C_below hA hBel) k hlt
        obtain ⟨bd, y, rfl, hy, hc2⟩ := C_nth_scalar (Kd.C_below hB hBel) k hlt
        have HX := Lib.hid hx
        have HY := Lib.hid hy
        have i0 : (0 : Int) ≤ (k : Int) := by omega
        have i1 : (k : Int) < (n : Int) := by omega
        clear hx hy
        go_wp2_with fail
        go_quiet (fail)
        by_cases hxy : x = y
        · have hxy' : (x != y) = false := by simp [hxy]
          go_wp2
          go_roundw
          case rel => exact ⟨k + 1, by omega, by go_num, by rw [List.take_add_one, List.take_add_one, HT.out, HX.out, HY.out, hxy], pw_below_drewN hBel _⟩
          case measure => simp [intOf]; omega
        · have hxy' : (x != y) = true := by simp [hxy]
          have hne : (xs == ys) = false := by
            refine beq_eq_false_iff_ne.2 (fun e => hxy ?_)
            have h1 := HX.out
            rw [e, HY.out] at h1
            exact (Option.some.inj h1).symm
          have HNE := Lib.hid hne
          clear hne
          go_wp2
          go_ret
          exact ⟨by rw [HNE.out]; rfl, pw_below_drewN hBel _⟩
      · have hk' : k = n := by omega
        subst hk'
        have heq2 : (xs == ys) = true := by
          have h := HT.out
          rw [List.take_of_length_le (by have := HN.out; omega), List.take_of_length_le (by have := HN.out; have := HL.out; omega)] at h
          simp [h]
        have HNE := Lib.hid heq2
        clear heq2
        go_wp2
        go_ret
        exact ⟨by rw [HNE.out]; rfl, hBel⟩
  · have hne : (xs == ys) = false := beq_eq_false_iff_ne.2 (fun e => hl (by rw [e]))
    rw [hne]
    have hd : (((xs.length : Int) != (ys.length : Int)) = true) := by simp; omega
    go_enter Try.func18, Try.ntmps18
    go_wp2
    go_ret
    exact ⟨rfl, Below.refl _ _⟩

theorem same_yes (A B : Option Addr) (ca cb na nb : Nat) (xs ys : List Int) (w : World) (hA : (Kd.int .i64).C w A na xs) (hB : (Kd.int .i64).C w B nb ys) (h : xs = ys) :
    Calls Try.prog 18 #[.slice A na ca, .slice B nb cb] w fun e w' => e = .returned (.bool true) ∧ Below w.heap.size w w' := by
  have := same_any A B ca cb na nb xs ys w hA hB
  rwa [show (xs == ys) = true by simp [h]] at this

set_option maxHeartbeats 800000 in
set_option maxRecDepth 100000 in
theorem awake_any (w : World) : Calls Try.prog 8 #[] w fun e w' => e = .returned (.bool true) ∧ Below w.heap.size w w' := by
  go_enter Try.func8, Try.ntmps8
  go_wp2_with fail
  refine Calls.mono (new1_int 4 w _ (by omega) (Below.refl _ _)) ?_
  rintro e w1 ⟨rfl, hP1⟩
  have b1 := hP1.1.lt
  go_wp2_with fail
  refine Calls.mono (send1_int (hP1.alloc _) (ls := [1, 2, 3]) (by exact C_block (heap_alloc_new _ _) [1, 2, 3] rfl (by decide)) (by decide) (by decide) (r := 3) (by decide)) ?_
  rintro e w2 ⟨rfl, hP2⟩
  go_wp2_with fail
  refine Calls.mono (take1_int hP2 (by decide) (m := 2) (is := true) (ys := [1, 3]) (by decide) (by decide)) ?_
  rintro e w3 ⟨rfl, hP3⟩
  go_wp2_with fail
  refine Calls.mono (send1_int (hP3.alloc _) (ls := [7, 8, 9]) (by exact C_block (heap_alloc_new _ _) [7, 8, 9] rfl (by decide)) (by decide) (by decide) (r := 2) (by decide)) ?_
  rintro e w4 ⟨rfl, hP4⟩
  go_wp2_with fail
  refine Calls.mono (all1_int hP4 (by decide) (n := 4) (by decide)) ?_
  rintro e w5 ⟨A', c', rfl, hC, hc, hP5⟩
  obtain ⟨ad, x, rfl, hx, hc1⟩ := C_nth_scalar hC 1 (by decide)
  obtain ⟨ad2, y, h2, hy, hc3⟩ := C_nth_scalar hC 3 (by decide)
  obtain rfl := Option.some.inj h2
  obtain rfl : 3 = x := by simpa using hx
  obtain rfl : 8 = y := by simpa using hy
  simp [Addr.add] at hc1 hc3
  clear hx hy h2
  go_wp2
  go_ret
  exact ⟨rfl, hP5.2⟩

end Go.Proofs.Yteeiobjjipcihaa
