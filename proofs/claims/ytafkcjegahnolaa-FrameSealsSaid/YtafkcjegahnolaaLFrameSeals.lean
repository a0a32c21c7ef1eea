/- The statement FrameSeals of layer 2: every call of it tells true and leaves what was there as it was. -/
import Derived.Test.YtafkcjegahnolaaFrAwake
import Derived.Test.YtafkcjegahnolaaFrRefSeal
namespace Go.Proofs.Ytafkcjegahnolaa
open Go.RowKit Go.Proofs.YtafkcjegahnolaaW.PrintWords

/-- Equality of the same bytes. -/
theorem same_n (A0 : Option Addr) (n0 c0 : Nat) (A1 : Option Addr) (n1 c1 : Nat) (l : List Int) (w : World) (hn0 : l.length = n0) (hn1 : l.length = n1) (h0 : (Kd.int .u8).C w A0 n0 l) (hc0 : n0 ≤ c0) (h1 : (Kd.int .u8).C w A1 n1 l) (hc1 : n1 ≤ c1) (hx : BytesOk l) :
    Calls Try.prog 16 #[.slice A0 n0 c0, .slice A1 n1 c1] w fun e w' => e = .returned (.bool true) ∧ Below w.heap.size w w' := by
  refine Calls.mono (bytesEqual_n A0 n0 c0 l A1 n1 c1 l w hn0 hn1 h0 hc0 h1 hc1 hx hx) ?_
  rintro e w' ⟨b, rfl, HB, h⟩
  exact ⟨by rw [HB.out]; simp, h⟩

set_option maxHeartbeats 1600000 in
set_option maxRecDepth 100000 in
theorem seals_any (A : Option Addr) (n cap : Nat) (xs : List Int) (A2 : Option Addr) (n2 cap2 : Nat) (ys : List Int) (w : World) (hC : (Kd.int .u8).C w A n xs) (hc : n ≤ cap) (ho : ∀ s ∈ xs, (Lit.int .u8 s).wf = true) (hC2 : (Kd.int .u8).C w A2 n2 ys) (hc2 : n2 ≤ cap2) (ho2 : ∀ s ∈ ys, (Lit.int .u8 s).wf = true) :
    Calls Try.prog 5 #[.slice A n cap, .slice A2 n2 cap2] w fun e w' => e = .returned (.bool true) ∧ Below w.heap.size w w' := by
  have HN := Lib.hid (Kd.C_len hC)
  have HC := Lib.hid hC
  have hx := BytesOk.of_wf ho
  have HN2 := Lib.hid (Kd.C_len hC2)
  have HC2 := Lib.hid hC2
  have hx2 := BytesOk.of_wf ho2
  clear hC hC2 ho ho2
  by_cases hmid : 600 < n ∧ n ≤ 4096
  · have hbi : (600 : Int) < n := by omega
    have hbj : (n : Int) ≤ 4096 := by omega
    go_enter Try.func5, Try.ntmps5
    go_wp2_with (go_at_call 11; refine Calls.mono (awake_any _) ?_; rintro e w1 ⟨rfl, hB⟩)
    go_ret
    exact ⟨rfl, hB⟩
  · by_cases hbig2 : 600 < n2
    · have hbi2 : (600 : Int) < n2 := by omega
      by_cases hbig : 600 < n
      · have hbi : (600 : Int) < n := by omega
        have hbj : ¬ (n : Int) ≤ 4096 := by omega
        go_enter Try.func5, Try.ntmps5
        go_wp2_with (go_at_call 11; refine Calls.mono (awake_any _) ?_; rintro e w1 ⟨rfl, hB⟩)
        go_ret
        exact ⟨rfl, hB⟩
      · have hbi : ¬ (600 : Int) < n := by omega
        go_enter Try.func5, Try.ntmps5
        go_wp2_with (go_at_call 11; refine Calls.mono (awake_any _) ?_; rintro e w1 ⟨rfl, hB⟩)
        go_ret
        exact ⟨rfl, hB⟩
    · have hbi2 : ¬ (600 : Int) < n2 := by omega
      by_cases hbig : 600 < n
      · have hbi : (600 : Int) < n := by omega
        have hbj : ¬ (n : Int) ≤ 4096 := by omega
        have hbk : (4096 : Int) < n := by omega
        go_enter Try.func5, Try.ntmps5
        go_wp2_with fail
        refine Calls.mono (by have := seal_any A cap xs w (by rw [HN.out]; exact HC.out) (by rw [HN.out]; exact hc) hx; rw [HN.out] at this; exact this) ?_
        rintro e w1 ⟨A1, n1, c1, rfl, hR1, hB1⟩
        have HB1 := Lib.hid hB1
        rw [sealErr, if_pos (by rw [HN.out]; omega)]
        rw [sealBytes, if_pos (by rw [HN.out]; omega)] at hR1
        obtain ⟨h1, _, _⟩ := Kd.R_reads' hR1
        obtain rfl : n1 = 0 := h1
        clear hR1 hB1
        go_wp2_with (go_at_call 11; refine Calls.mono (awake_any _) ?_; rintro e w2 ⟨rfl, hB⟩)
        go_ret
        exact ⟨rfl, HB1.out.trans (hB.mono HB1.out.size)⟩
      · have hbi : ¬ (600 : Int) < n := by omega
        have hbk : ¬ (4096 : Int) < n := by omega
        go_enter Try.func5, Try.ntmps5
        go_wp2_with fail
        refine Calls.mono (seal_n A n cap xs _ HN.out HC.out hc hx (by omega)) ?_
        rintro e w1 ⟨A1, c1, rfl, hR1, hc1, hC1, hB1⟩
        have HC1 := Lib.hid hC1
        have HB1 := Lib.hid hB1
        have hsl := sealOf_length xs
        rw [HN.out] at hsl
        have HSL := Lib.hid hsl
        clear hR1 hC1 hB1 hsl
        go_wp2_with (first
          | (at_builtin; refine Kd.R_append_rows (Kd.int .u8) (w0 := w1) w1.heap.size rfl (.tmp 43) (.tmp 44) 22 5 (.int .u8 0) 1 rfl Try.underlying22 info_byte rfl (by decide) (by omega) (.slice (some ⟨w1.heap.size, 0, none⟩) 0 0) [] (sealOf xs) A1 (n + 6) c1 (fun _ => True) (fun _ => False) rfl rfl (R_empty _ _ _ _ _ (Nat.le_refl _) trivial) (Kd.C_alloc HC1.out _) (fun _ _ h => h) (fun _ h => h.elim) (fun _ _ => trivial) ((Below.refl _ _).alloc (Nat.le_refl _) _) (by simp) (by simp; omega) ?_; intro v3 w3 hR3 hB3 hgr hat2; clear hgr hat2
             rw [List.nil_append] at hR3
             have HR3 := Lib.hid hR3
             have HB3 := Lib.hid hB3
             clear hR3 hB3)
          | (at_builtin; refine Kd.R_append_rows (Kd.int .u8) (w0 := w1) w1.heap.size rfl (.tmp 45) (.tmp 46) 22 5 (.int .u8 0) 1 rfl Try.underlying22 info_byte rfl (by decide) (by omega) v3 (sealOf xs) ys A2 n2 cap2 (fun _ => True) (fun _ => False) rfl rfl HR3.out (Kd.C_below (Kd.C_below HC2.out HB1.out) HB3.out) (fun _ _ h => h) (fun _ h => h.elim) (fun _ _ => trivial) HB3.out HB3.out.size (by rw [HSL.out]; omega) ?_; intro v4 w4 hR4 hB4 hgr hat2; clear hgr hat2
             obtain ⟨A4, c4, hv4, hc4, hC4⟩ := Kd.R_reads hR4
             have HV4 := Lib.hid hv4
             have HC4 := Lib.hid hC4
             have HB4 := Lib.hid hB4
             clear hR4 hB4 hv4 hC4))
        have hlen4 : (sealOf xs ++ ys).length = n + 6 + n2 := by rw [List.length_append, HSL.out, HN2.out]
        have hl2 := seal_law (l := xs) (r := ys) (by rw [HN.out]; omega)
        refine Calls.mono (by have := next_any A4 c4 (sealOf xs ++ ys) w4 HC4.out hc4 ((sealOf_ok hx).app hx2) (by rw [hlen4]; omega); rw [← HV4.out] at this; exact this) ?_
        rintro e w5 ⟨A5, n5, c5, A6, n6, c6, rfl, hR5, hR6, hB5⟩
        rw [hl2.1]
        rw [hl2.2.1] at hR5
        rw [hl2.2.2] at hR6
        obtain ⟨e5, hc5, hC5⟩ := Kd.R_reads' hR5
        obtain ⟨e6, hc6, hC6⟩ := Kd.R_reads' hR6
        rw [← e5] at hC5
        rw [← e6] at hC6
        have HB5 := Lib.hid (HB4.out.trans (hB5.mono HB4.out.size))
        have E5 := Lib.hid e5
        have E6 := Lib.hid e6
        have HC5 := Lib.hid hC5
        have HC6 := Lib.hid hC6
        clear hR5 hR6 hB5 e5 e6 hC5 hC6 hl2 hlen4
        go_wp2_with fail
        refine Calls.mono (refSeal_n A n cap xs w5 HN.out (Kd.C_below (Kd.C_below HC.out HB1.out) HB5.out) hc hx (by omega)) ?_
        rintro e w7 ⟨A7, c7, rfl, hR7, hc7, hC7, hB7⟩
        have HC5 := Lib.hid (Kd.C_below HC5.out hB7)
        have HC6 := Lib.hid (Kd.C_below HC6.out hB7)
        have HB7 := Lib.hid (HB5.out.trans (hB7.mono HB5.out.size))
        have HC7 := Lib.hid hC7
        clear hR7 hB7 hC7
        go_wp2_with fail
        refine Calls.mono (same_n A1 (n + 6) c1 A7 (n + 6) c7 (sealOf xs) w7 HSL.out HSL.out (Kd.C_below HC1.out HB7.out) hc1 HC7.out hc7 (sealOf_ok hx)) ?_
        rintro e w8 ⟨rfl, hB8⟩
        have HC5 := Lib.hid (Kd.C_below HC5.out hB8)
        have HC6 := Lib.hid (Kd.C_below HC6.out hB8)
        have HB8 := Lib.hid (HB7.out.trans (hB8.mono HB7.out.size))
        clear hB8
        go_wp2_with fail
        refine Calls.mono (same_n A5 n5 c5 A n cap xs w8 E5.out.symm HN.out HC5.out hc5 (Kd.C_below (Kd.C_below HC.out HB1.out) HB8.out) hc hx) ?_
        rintro e w9 ⟨rfl, hB9⟩
        have HC6 := Lib.hid (Kd.C_below HC6.out hB9)
        have HB9 := Lib.hid (HB8.out.trans (hB9.mono HB8.out.size))
        clear hB9
        go_wp2_with fail
        refine Calls.mono (same_n A6 n6 c6 A2 n2 cap2 ys w9 E6.out.symm HN2.out HC6.out hc6 (Kd.C_below (Kd.C_below HC2.out HB1.out) HB9.out) hc2 hx2) ?_
        rintro e w10 ⟨rfl, hB10⟩
        have HB10 := Lib.hid (HB9.out.trans (hB10.mono HB9.out.size))
        clear hB10
        go_wp2_with fail
        refine Calls.mono (awake_any _) ?_
        rintro e w11 ⟨rfl, hB11⟩
        have HB11 := Lib.hid (HB10.out.trans (hB11.mono HB10.out.size))
        clear hB11
        go_wp2_with fail
        go_ret
        exact ⟨rfl, HB1.out.trans (HB11.out.mono HB1.out.size)⟩
end Go.Proofs.Ytafkcjegahnolaa
