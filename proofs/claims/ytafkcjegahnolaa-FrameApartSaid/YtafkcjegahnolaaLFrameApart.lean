/- The statement FrameApart of layer 2: every call of it tells true and leaves what was there as it was. -/
import Derived.Test.YtafkcjegahnolaaFrAwake
import Derived.Test.YtafkcjegahnolaaFrTorn
namespace Go.Proofs.Ytafkcjegahnolaa
open Go.RowKit Go.Proofs.YtafkcjegahnolaaW.PrintWords

set_option maxHeartbeats 800000 in
set_option maxRecDepth 100000 in
theorem apart_any (A : Option Addr) (n cap : Nat) (xs : List Int) (A2 : Option Addr) (n2 cap2 : Nat) (ys : List Int) (w : World) (hC : (Kd.int .u8).C w A n xs) (hc : n ≤ cap) (ho : ∀ s ∈ xs, (Lit.int .u8 s).wf = true) (hC2 : (Kd.int .u8).C w A2 n2 ys) (hc2 : n2 ≤ cap2) (ho2 : ∀ s ∈ ys, (Lit.int .u8 s).wf = true) :
    Calls Try.prog 7 #[.slice A n cap, .slice A2 n2 cap2] w fun e w' => e = .returned (.bool true) ∧ Below w.heap.size w w' := by
  have HN := Lib.hid (Kd.C_len hC)
  have HC := Lib.hid hC
  have hx := BytesOk.of_wf ho
  have HN2 := Lib.hid (Kd.C_len hC2)
  have HC2 := Lib.hid hC2
  have hx2 := BytesOk.of_wf ho2
  clear hC hC2
  by_cases hbig : 600 < n
  · have hbi : (600 : Int) < n := by omega
    go_enter Try.func7, Try.ntmps7
    go_wp2_with (go_at_call 11; refine Calls.mono (awake_any _) ?_; rintro e w1 ⟨rfl, hB⟩)
    go_ret
    exact ⟨rfl, hB⟩
  · have hbi : ¬ (600 : Int) < n := by omega
    by_cases hbig2 : 600 < n2
    · have hbi2 : (600 : Int) < n2 := by omega
      go_enter Try.func7, Try.ntmps7
      go_wp2_with (go_at_call 11; refine Calls.mono (awake_any _) ?_; rintro e w1 ⟨rfl, hB⟩)
      go_ret
      exact ⟨rfl, hB⟩
    · have hbi2 : ¬ (600 : Int) < n2 := by omega
      have hn6 : ((n + 6 : Nat) : Int) = (n : Int) + 6 := by omega
      go_enter Try.func7, Try.ntmps7
      go_wp2_with fail
      refine Calls.mono (seal_n A n cap xs w HN.out HC.out hc hx (by omega)) ?_
      rintro e w1 ⟨A3, c3, rfl, hR3, hc3, hC3, hB3⟩
      have HC3 := Lib.hid hC3
      have HB3 := Lib.hid hB3
      clear hR3 hC3 hB3
      go_wp2_with fail
      refine Calls.mono (seal_n A2 n2 cap2 ys w1 HN2.out (Kd.C_below HC2.out HB3.out) hc2 hx2 (by omega)) ?_
      rintro e w2 ⟨A4, c4, rfl, hR4, hc4, hC4, hB4⟩
      have HC4 := Lib.hid hC4
      have HC3 := Lib.hid (Kd.C_below HC3.out hB4)
      have HB4 := Lib.hid (HB3.out.trans (hB4.mono HB3.out.size))
      clear hR4 hC4 hB4
      go_wp2_with fail
      refine Calls.mono (bytesEqual_n A3 (n + 6) c3 (sealOf xs) A4 (n2 + 6) c4 (sealOf ys) w2 (by rw [sealOf_length, HN.out]) (by rw [sealOf_length, HN2.out]) HC3.out hc3 HC4.out hc4 (sealOf_ok hx) (sealOf_ok hx2)) ?_
      rintro e w5 ⟨b5, rfl, HS5, hB5⟩
      have HB5 := Lib.hid (HB4.out.trans (hB5.mono HB4.out.size))
      clear hB5
      go_wp2_with fail
      refine Calls.mono (bytesEqual_n A n cap xs A2 n2 cap2 ys w5 HN.out HN2.out (Kd.C_below HC.out HB5.out) hc (Kd.C_below HC2.out HB5.out) hc2 hx hx2) ?_
      rintro e w6 ⟨b6, rfl, HS6, hB6⟩
      have HB6 := Lib.hid (HB5.out.trans (hB6.mono HB5.out.size))
      obtain rfl : b6 = b5 := by rw [HS6.out, HS5.out, Bool.eq_iff_iff]; simp [sealOf_inj]
      clear hB6
      go_wp2_with fail
      refine Calls.mono (awake_any _) ?_
      rintro e w8 ⟨rfl, hB8⟩
      have HB8 := Lib.hid (HB6.out.trans (hB8.mono HB6.out.size))
      clear hB8
      go_wp2_with fail
      go_ret
      exact ⟨rfl, HB8.out⟩
end Go.Proofs.Ytafkcjegahnolaa
