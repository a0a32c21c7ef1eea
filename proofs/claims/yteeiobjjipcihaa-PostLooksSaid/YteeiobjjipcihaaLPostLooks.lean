/- The statement PostLooks of layer 17: every call of it tells true and leaves what was there as it was. -/
import Derived.Test.YteeiobjjipcihaaPostAwake
namespace Go.Proofs.Yteeiobjjipcihaa
open Go.RowKit Go.Proofs.YteeiobjjipcihaaW.PrintWords

set_option maxHeartbeats 800000 in
set_option maxRecDepth 100000 in
theorem looks_any (A : Option Addr) (n cap : Nat) (xs : List ByteArray) (k : Int) (w : World) (hC : Kd.string.C w A n xs) (hc : n ≤ cap) (_ho : ∀ s ∈ xs, s.size ≤ maxLen) (_hk : (Lit.int .i64 k).wf = true) :
    Calls Try.prog 3 #[.slice A n cap, .int .i64 k] w fun e w' => e = .returned (.bool true) ∧ Below w.heap.size w w' := by
  have hn := Kd.C_len hC
  have HN := Lib.hid hn
  have hm := Kd.C_max hC
  clear hn
  by_cases h100 : 100 < n
  · go_enter Try.func3, Try.ntmps3
    go_wp2_with (go_at_call 8; refine Calls.mono (awake_any _) ?_; rintro e w1 ⟨rfl, hB⟩)
    go_ret
    exact ⟨rfl, hB⟩
  · go_enter Try.func3, Try.ntmps3
    go_wp2_with fail
    refine Calls.mono (new1_str 100 w _ (by omega) (Below.refl _ _)) ?_
    rintro e w1 ⟨rfl, hP1⟩
    have hB1 := hP1.2
    have hC1 := Kd.C_below hC hB1
    go_wp2_with fail
    refine Calls.mono (send1_str hP1 hC1 hc (by simp; omega) (r := n) (by simp [sendN]; omega)) ?_
    rintro e w2 ⟨rfl, hP2⟩
    have hB2 := hP2.2
    have hC2 := Kd.C_below hC hB2
    have e2 : ([] : List ByteArray) ++ xs.take n = xs := by rw [List.nil_append, List.take_of_length_le (by rw [HN.out]; exact Nat.le_refl _)]
    rw [e2] at hP2
    clear e2
    go_wp2_with fail
    by_cases hk : 0 ≤ k ∧ k < n
    · obtain ⟨j, rfl⟩ := Int.eq_ofNat_of_zero_le hk.1
      obtain ⟨ad, x, rfl, hx, hcell⟩ := C_nth_scalar hC2 j (by omega)
      have hl := lookAt_in (z := ByteArray.empty) hx
      have hlook := look_str _ _ _ _ (j : Int) _ hP2.1
      have hlen := len_str _ _ _ _ _ hP2.1
      rw [hl] at hlook
      rw [HN.out] at hlen
      have h1 : (0 : Int) ≤ j := by omega
      have h2 : (j : Int) < n := by omega
      refine Calls.mono hlook ?_
      have HL := Lib.hid hlen
      clear hlook hl hx hlen
      rintro e w3 ⟨rfl, rfl⟩
      go_wp2_with (first | (go_at_call 12; refine Calls.mono HL.out ?_; rintro e w3 ⟨rfl, rfl⟩) | (go_at_call 8; refine Calls.mono (awake_any _) ?_; rintro e w1 ⟨rfl, hB⟩))
      go_ret
      exact ⟨rfl, below_then hB2 hB2.size hB⟩
    · have hl := lookAt_out (z := ByteArray.empty) (xs := xs) (k := k) (by rw [HN.out]; exact hk)
      have hlook := look_str _ _ _ _ k _ hP2.1
      rw [hl] at hlook
      refine Calls.mono hlook ?_
      clear hlook hl
      rintro e w3 ⟨rfl, rfl⟩
      by_cases hk0 : k < 0
      · go_wp2_with (go_at_call 8; refine Calls.mono (awake_any _) ?_; rintro e w1 ⟨rfl, hB⟩)
        go_ret
        exact ⟨rfl, below_then hB2 hB2.size hB⟩
      · have hk1 : (n : Int) ≤ k := by omega
        go_wp2_with (go_at_call 8; refine Calls.mono (awake_any _) ?_; rintro e w1 ⟨rfl, hB⟩)
        go_ret
        exact ⟨rfl, below_then hB2 hB2.size hB⟩

end Go.Proofs.Yteeiobjjipcihaa
