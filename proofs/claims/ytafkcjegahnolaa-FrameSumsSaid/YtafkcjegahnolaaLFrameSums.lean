/- The statement FrameSums of layer 2: every call of it tells true and leaves what was there as it was. -/
import Derived.Test.YtafkcjegahnolaaFrAwake
import Derived.Test.YtafkcjegahnolaaFrRef
namespace Go.Proofs.Ytafkcjegahnolaa
open Go.RowKit Go.Proofs.YtafkcjegahnolaaW.PrintWords

set_option maxHeartbeats 800000 in
set_option maxRecDepth 100000 in
theorem sums_any (A : Option Addr) (n cap : Nat) (xs : List Int) (w : World) (hC : (Kd.int .u8).C w A n xs) (_hc : n ≤ cap) (ho : ∀ s ∈ xs, (Lit.int .u8 s).wf = true) :
    Calls Try.prog 3 #[.slice A n cap] w fun e w' => e = .returned (.bool true) ∧ Below w.heap.size w w' := by
  have HN := Lib.hid (Kd.C_len hC)
  have HC := Lib.hid hC
  have hx := BytesOk.of_wf ho
  clear hC
  by_cases hbig : 600 < n
  · have hbi : (600 : Int) < n := by omega
    go_enter Try.func3, Try.ntmps3
    go_wp2_with (go_at_call 11; refine Calls.mono (awake_any _) ?_; rintro e w1 ⟨rfl, hB⟩)
    go_ret
    exact ⟨rfl, hB⟩
  · have hbi : ¬ (600 : Int) < n := by omega
    go_enter Try.func3, Try.ntmps3
    go_wp2_with fail
    refine Calls.mono (sum_hid A n cap xs w HN.out.symm (by rw [HN.out] at *; exact HC.out) hx) ?_
    rintro e w1 ⟨sm, rfl, hs, HS, hB1⟩
    have HB1 := Lib.hid hB1
    go_wp2_with fail
    refine Calls.mono (refSum_n A n cap xs w1 HN.out (Kd.C_below HC.out hB1) hx (by omega)) ?_
    rintro e w2 ⟨sm2, rfl, HS2, hB2⟩
    obtain rfl : sm = sm2 := HS.out.trans HS2.out.symm
    have HB2 := Lib.hid (HB1.out.trans (hB2.mono HB1.out.size))
    clear hB1 hB2 HS HS2
    go_wp2_with fail
    refine Calls.mono (awake_any _) ?_
    rintro e w3 ⟨rfl, hB3⟩
    have HB3 := Lib.hid (HB2.out.trans (hB3.mono HB2.out.size))
    clear hB3
    go_wp2_with fail
    go_ret
    exact ⟨rfl, HB3.out⟩
end Go.Proofs.Ytafkcjegahnolaa
