/- daisychainref02.Next by its contract. -/
import Derived.Test.YtafkcjegahnolaaFrRefSeal
namespace Go.Proofs.Ytafkcjegahnolaa
open Go.RowKit Go.Proofs.YtafkcjegahnolaaW.PrintWords

def refN (b : List Int) : Nat := if nextErr b = 0 then 6 + headN b else 0
theorem strOf_eq {l m : List Int} (hl : BytesOk l) (hm : BytesOk m) : strOfNums l = strOfNums m ↔ l = m := by
  constructor
  · intro h
    have h2 : (strOfNums l).toList = (strOfNums m).toList := by rw [h]
    rw [Lib.strOfNums_toList, Lib.strOfNums_toList] at h2
    exact bytesOf_inj hl hm h2
  · intro h
    rw [h]

set_option maxHeartbeats 800000 in
theorem refNext_any (A : Option Addr) (c : Nat) (xs : List Int) (w : World) (hC : (Kd.int .u8).C w A xs.length xs) (hc : xs.length ≤ c) (hx : BytesOk xs) (hl : xs.length ≤ 100000) :
    Calls Try.prog 19 #[.slice A xs.length c] w fun e w' => e = .returned (.tuple #[.int .i64 (refN xs : Nat), .int .i64 (nextErr xs)]) ∧ Below w.heap.size w w' := by
  have HC := Lib.hid hC
  clear hC
  by_cases h6 : xs.length < 6
  · have he : nextErr xs = 3 := if_pos h6
    have hr : refN xs = 0 := if_neg (by rw [he]; decide)
    have h6i : (xs.length : Int) < 6 := by omega
    rw [he, hr]
    clear he hr
    go_enter Try.func19, Try.ntmps19
    go_wp2_with fail
    go_ret2
    exact ⟨rfl, Below.refl _ _⟩
  · have h6i : ¬ (xs.length : Int) < 6 := by omega
    obtain ⟨ad, x0, hA, hx0, hc0⟩ := C_nth_scalar HC.out 0 (by omega)
    obtain ⟨ad', x1, hA', hx1, hc1⟩ := C_nth_scalar HC.out 1 (by omega)
    subst hA
    obtain rfl := Option.some.inj hA'
    obtain ⟨a0, ha0, rfl⟩ := BytesOk.at hx hx0
    obtain ⟨a1, ha1, rfl⟩ := BytesOk.at hx hx1
    obtain ⟨n, hn⟩ : ∃ n, n = a0 + 256 * a1 := ⟨_, rfl⟩
    have hnn : headN xs = n := by
      rw [hn, headN, List.getD_eq_getElem?_getD, List.getD_eq_getElem?_getD, hx0, hx1]
      simp
    have hc0 : w.cell? (ad.add 0) = some (.int .u8 (a0 : Int)) := hc0
    have hc1 : w.cell? (ad.add 1) = some (.int .u8 (a1 : Int)) := hc1
    have hc1' := hc1
    simp [Addr.add] at hc1'
    have hc0' : w.cell? ad = some (.int .u8 (a0 : Int)) := by simpa [Addr.add] using hc0
    have HN := Lib.hid hn
    have HNN := Lib.hid hnn
    clear hx0 hx1 hn hnn
    go_enter Try.func19, Try.ntmps19
    go_wp2_with fail
    have hb0 : (0 : Int) < xs.length := by omega
    have hb1 : (1 : Int) < xs.length := by omega
    have hnI : (a0 : Int) + 256 * (a1 : Int) = (n : Int) := by have := HN.out; omega
    have hn16 : n < 65536 := by have := HN.out; omega
    go_region
    clear hc0 hc1 hc0' hc1' hb0 hb1 hnI
    have hdl : (xs.take 6).length = 6 := by rw [List.length_take]; omega
    by_cases hbig : n > 4096
    · have he : nextErr xs = 2 := by rw [nextErr, if_neg h6, if_pos (by rw [HNN.out]; exact hbig)]
      have hr : refN xs = 0 := if_neg (by rw [he]; decide)
      have hbi : (4096 : Int) < n := by omega
      have HE := Lib.hid (And.intro hr he)
      clear he hr
      go_wp2_with fail
      go_ret2
      exact ⟨by rw [HE.out.1, HE.out.2]; rfl, below_drew (Below.refl _ _)⟩
    · have hbi : ¬ (4096 : Int) < n := by omega
      by_cases hend : n > xs.length - 6
      · have he : nextErr xs = 3 := by rw [nextErr, if_neg h6, if_neg (by rw [HNN.out]; exact hbig), if_pos (by rw [HNN.out]; exact hend)]
        have hr : refN xs = 0 := if_neg (by rw [he]; decide)
        have hei : (xs.length : Int) < 6 + n := by omega
        have HE := Lib.hid (And.intro hr he)
        clear he hr
        go_wp2_with fail
        go_ret2
        exact ⟨by rw [HE.out.1, HE.out.2]; rfl, below_drew (Below.refl _ _)⟩
      · have hei : ¬ (xs.length : Int) < 6 + n := by omega
        have hsw : 6 + n ≤ xs.length := by omega
        obtain ⟨i0, hi, _, hz1, _⟩ := info_parts info_byte
        obtain ⟨Am, hrm, hCm⟩ := mid_row (P := Try.prog) 22 5 Try.underlying22 hi hz1 (some ad) c 6 (6 + n) xs (by omega) hsw hc HC.out
        obtain ⟨hrt, hCt⟩ := take_row (P := Try.prog) 22 5 Try.underlying22 hi (6 + n) hsw hc HC.out
        simp only [Int.natCast_add, Int.cast_ofNat_Int, Nat.add_sub_cancel_left] at hrm hrt hCm
        obtain ⟨body, hbody⟩ : ∃ body, body = (xs.drop 6).take n := ⟨_, rfl⟩
        rw [← hbody] at hCm
        have hbl : body.length = n := by rw [hbody, List.length_take, List.length_drop]; omega
        have hbx : BytesOk body := fun z hz => hx z (by rw [hbody] at hz; exact List.mem_of_mem_drop (List.mem_of_mem_take hz))
        have hbo : bodyOf xs = body := by rw [bodyOf, HNN.out, hbody]
        have htk : xs.take (6 + n) = xs.take 6 ++ body := by rw [hbody, List.take_add]
        have hiff : sealOf body = xs.take (6 + n) ↔ headOf body = xs.take 6 := by
          rw [htk, sealOf]
          exact ⟨fun h => (List.append_inj h (by rw [headOf_length, hdl])).1, fun h => by rw [h]⟩
        have hxt : BytesOk (xs.take (6 + n)) := fun z hz => hx z (List.mem_of_mem_take hz)
        obtain ⟨wd, hwd⟩ : ∃ wd, wd = w.drew := ⟨_, rfl⟩
        rw [← hwd]
        have hBd : Below w.heap.size w wd := by rw [hwd]; exact below_drew (Below.refl _ _)
        have hszd : wd.heap.size = w.heap.size := by rw [hwd]; rfl
        have hcv := Kd.C_string (P := Try.prog) (dst := 9) (c := c) Try.underlying22 Try.underlying5 Try.underlying9 (Kd.C_below hCt (below_drew hBd))
        have HCt := Lib.hid hCt
        have HCm := Lib.hid hCm
        have HBL := Lib.hid hbl
        have HBD := Lib.hid hBd
        obtain ⟨s2, hs2⟩ : ∃ s2, s2 = strOfNums (xs.take (6 + n)) := ⟨_, rfl⟩
        rw [← hs2] at hcv
        obtain ⟨s1, hs1⟩ : ∃ s1, s1 = strOfNums (sealOf body) := ⟨_, rfl⟩
        have HS := Lib.hid (And.intro hs1 hs2)
        have HSZ := Lib.hid hszd
        have hwr6 : IntKind.i64.wrap (6 + (n : Int)) = 6 + (n : Int) := IntWalk.i64_in _ (by omega)
        have hc6 : n ≤ c - 6 := by omega
        have hn4 : n ≤ 4096 := by omega
        clear hCt hCm hbl hBd hwd hs1 hs2 hi hz1 hszd hdl htk
        by_cases hq : headOf body = xs.take 6
        · have he : nextErr xs = 0 := by rw [nextErr, if_neg h6, if_neg (by rw [HNN.out]; exact hbig), if_neg (by rw [HNN.out]; exact hend), if_pos (by rw [hbo]; exact hq)]
          have hr : refN xs = 6 + n := by rw [refN, if_pos he, HNN.out]
          have HE := Lib.hid (And.intro hr he)
          have hss : s1 = s2 := by rw [HS.out.1, HS.out.2, hiff.2 hq]
          subst hss
          clear he hr hq hiff hbo hbody
          go_wp2_with fail
          go_region_with ((go_at_call 17; refine Calls.mono (refSeal_n Am n (c - 6) body _ HBL.out (Kd.C_below HCm.out (below_drew HBD.out)) hc6 hbx hn4) ?_; rintro e w2 ⟨A2, c2, rfl, hR2, hc2, hC2, hB2⟩; have hB3 : Below w.heap.size w w2 := (below_drew HBD.out).trans (hB2.mono (by show w.heap.size ≤ wd.heap.size; rw [HSZ.out]; exact Nat.le_refl _)); have hcv1 := Kd.C_string (P := Try.prog) (dst := 9) (c := c2) Try.underlying22 Try.underlying5 Try.underlying9 hC2; have hcv2 := Kd.C_string (P := Try.prog) (dst := 9) (c := c) Try.underlying22 Try.underlying5 Try.underlying9 (Kd.C_below HCt.out hB3); rw [← HS.out.1] at hcv1; rw [← HS.out.2] at hcv2; clear hC2 hR2))
          all_goals
            go_wp2
            go_ret2
            exact ⟨by rw [HE.out.1, HE.out.2]; rfl, hB3⟩
        · have he : nextErr xs = 4 := by rw [nextErr, if_neg h6, if_neg (by rw [HNN.out]; exact hbig), if_neg (by rw [HNN.out]; exact hend), if_neg (by rw [hbo]; exact hq)]
          have hr : refN xs = 0 := if_neg (by rw [he]; decide)
          have HE := Lib.hid (And.intro hr he)
          have hbb : (s1.toList == s2.toList) = false := by
            rw [beq_eq_false_iff_ne, HS.out.1, HS.out.2, Lib.strOfNums_toList, Lib.strOfNums_toList]
            exact fun e => hq (hiff.1 (bytesOf_inj (sealOf_ok hbx) hxt e))
          clear he hr hq hiff hbo hbody
          go_wp2_with fail
          go_region_with ((go_at_call 17; refine Calls.mono (refSeal_n Am n (c - 6) body _ HBL.out (Kd.C_below HCm.out (below_drew HBD.out)) hc6 hbx hn4) ?_; rintro e w2 ⟨A2, c2, rfl, hR2, hc2, hC2, hB2⟩; have hB3 : Below w.heap.size w w2 := (below_drew HBD.out).trans (hB2.mono (by show w.heap.size ≤ wd.heap.size; rw [HSZ.out]; exact Nat.le_refl _)); have hcv1 := Kd.C_string (P := Try.prog) (dst := 9) (c := c2) Try.underlying22 Try.underlying5 Try.underlying9 hC2; have hcv2 := Kd.C_string (P := Try.prog) (dst := 9) (c := c) Try.underlying22 Try.underlying5 Try.underlying9 (Kd.C_below HCt.out hB3); rw [← HS.out.1] at hcv1; rw [← HS.out.2] at hcv2; clear hC2 hR2))
          all_goals
            go_wp2
            go_ret2
            exact ⟨by rw [HE.out.1, HE.out.2]; rfl, hB3⟩
end Go.Proofs.Ytafkcjegahnolaa
