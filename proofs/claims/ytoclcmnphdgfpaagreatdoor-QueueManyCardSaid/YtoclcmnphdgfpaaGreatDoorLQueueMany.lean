/- The statement QueueMany of layer 8: every call of it tells true and leaves what was there as it was. -/
import Derived.Test.YtoclcmnphdgfpaaGreatDoorG8
import Derived.Test.YtoclcmnphdgfpaaGreatDoorG6
import Derived.Test.YtoclcmnphdgfpaaGreatDoorQuMany
set_option linter.unusedVariables false
set_option linter.unusedSimpArgs false
namespace Go.Proofs.YtoclcmnphdgfpaaGreatDoor
open Go.RowKit Go.Proofs.YtoclcmnphdgfpaaGreatDoorW.PrintWords
theorem many_right : qRight manyA = true := by decide
theorem many_val : manyA.val = .agg #[.int .i64 9, .int .i64 99, .int .i64 0, .int .i64 0, .int .i64 0, .string ⟨#[]⟩, .bool false] := rfl
set_option maxHeartbeats 6400000 in
set_option maxRecDepth 100000 in
theorem many_law (many n : Int) (w : World) (_ : (Lit.int .i64 many).wf = true) (_ : (Lit.int .i64 n).wf = true) :
    Calls Tryz.prog 4 #[.int .i64 many, .int .i64 n] w fun e w' => e = .returned (.bool true) ∧ Below w.heap.size w w' := by
  have HNW := Lib.hid ((Hp.nil w).quNew manyA)
  rw [many_val] at HNW
  have HR := Lib.hid many_right
  have HN0 := Lib.hid many_new
  by_cases hout : many < 0 ∨ 30 < many
  · have hc : many < 0 ∨ (¬ many < 0 ∧ 30 < many) := by omega
    clear hout
    rcases hc with h1 | ⟨h1, h2⟩
    all_goals
      go_enter Tryz.func4, Tryz.ntmps4
      go_wp2_with fail
      refine Calls.mono HNW.out ?_
      rintro e w1 ⟨_, h2⟩
      obtain ⟨qb, rfl, hP⟩ := h2 HR.out
      have HP := Lib.hid hP.belowW
      clear hP h2
      go_wp2_with (go_at_call 13; refine Calls.mono (awake_any _) ?_; rintro e w2 ⟨rfl, hB⟩)
      go_ret
      exact ⟨rfl, HP.out.trans (hB.mono HP.out.size)⟩
  obtain ⟨m, rfl⟩ : ∃ m : Nat, many = m := ⟨many.toNat, by omega⟩
  have hm30 : m ≤ 30 := by omega
  have g1 : ¬ (m : Int) < 0 := by omega
  have g2 : ¬ (30 : Int) < (m : Int) := by omega
  clear hout
  have hn1 : n < 1 ∨ ¬ n < 1 := by omega
  have hn2 : 10 < n ∨ ¬ 10 < n := by omega
  go_enter Tryz.func4, Tryz.ntmps4
  go_wp2_with fail
  refine Calls.mono HNW.out ?_
  rintro e w1 ⟨_, h2⟩
  obtain ⟨qb, rfl, hP⟩ := h2 HR.out
  rw [HN0.out] at hP
  have HP := Lib.hid hP
  clear hP h2
  go_wp2_with fail
  go_loopw [26] (fun i wr => ∃ j : Nat, i = .int .i64 j ∧ j ≤ m ∧ Hp w wr (AQu qb (manyQ 0 0 j) j :: [])) (fun i _ => m - (intOf i).toNat)
  case atStart => exact ⟨0, rfl, Nat.zero_le _, HP.out⟩
  case round =>
    obtain ⟨j, rfl, hj, hQ⟩ := hrel
    have HQ := Lib.hid hQ
    clear hQ
    by_cases hjn : j < m
    · have i1 : (j : Int) < (m : Int) := by omega
      have HS := Lib.hid (many_send (m := j) (by omega))
      go_wp2_with fail
      refine Calls.mono (HQ.out.quSend (by omega) ⟨#[120]⟩ ⟨#[]⟩ ⟨#[]⟩ (-1) (by decide) (by decide)) ?_
      rw [HS.out]
      rintro e w2 ⟨rfl, hP2⟩
      have HP2 := Lib.hid hP2
      clear hP2
      go_wp2_with fail
      refine ⟨⟨j + 1, by simp, by omega, HP2.out⟩, ?_⟩
      simp [intOf]
      omega
    · obtain rfl : m = j := by omega
      by_cases hn : 1 ≤ n ∧ n ≤ 10
      case neg =>
        have HV := Lib.hid (show qRcv (manyQ 0 0 m) n 0 = (manyQ 0 0 m, ([], 1)) by
          unfold qRcv
          rw [if_neg]
          unfold qMayRecv
          rw [decide_eq_true_iff]
          omega)
        have hc : n < 1 ∨ (¬ n < 1 ∧ 10 < n) := by omega
        clear hn hn1 hn2
        rcases hc with h1 | ⟨h1, h2⟩
        all_goals
          go_wp2_with fail
          refine Calls.mono (HQ.out.quRcv (show RecOk w m by unfold RecOk; omega) n 0) ?_
          rw [HV.out]
          rintro e w2 ⟨A2, k2, c2, hk2, rfl, hP2⟩
          subst hk2
          have HP2 := Lib.hid hP2.belowW
          clear hP2
          go_wp2_with (go_at_call 13; refine Calls.mono (awake_any _) ?_; rintro e w3 ⟨rfl, hB⟩)
          go_ret
          exact ⟨rfl, HP2.out.trans (hB.mono HP2.out.size)⟩
      case pos =>
        obtain ⟨nn, rfl⟩ : ∃ nn : Nat, n = nn := ⟨n.toNat, by omega⟩
        obtain ⟨k, hk⟩ : ∃ k, k = min nn m := ⟨_, rfl⟩
        have hv := many_rcv (n := 0) (m := m) (c := (nn : Int)) (by omega)
        rw [Int.toNat_natCast, Nat.sub_zero, Nat.zero_add, ← hk] at hv
        have HV := Lib.hid hv
        have h1 : ¬ (nn : Int) < 1 := by omega
        have h2 : ¬ (10 : Int) < (nn : Int) := by omega
        have hkm : k ≤ m := by omega
        have hmn : ∀ ts t W, (Builtin.min_ ts t #[.int .i64 (nn : Int), .int .i64 (m : Int)]).run Tryz.prog W = .ok (.int .i64 (k : Int)) W := by
          intro ts t W
          rw [run_min_int2]
          split <;> (congr 2; omega)
        have HK := Lib.hid hk
        clear hk hv hn hn1 hn2
        go_wp2_with fail
        refine Calls.mono (HQ.out.quRcv (show RecOk w m by unfold RecOk; omega) nn 0) ?_
        rw [HV.out]
        rintro e w2 ⟨A2, k2, c2, hk2, rfl, hP2⟩
        obtain rfl : k = k2 := by rw [hk2, List.length_map, List.length_range']
        have HP2 := Lib.hid hP2
        clear hP2 hk2
        go_wp2_with fail
        go_loopw [65] (fun i wr => ∃ i' : Nat, i = .int .i64 i' ∧ i' ≤ k ∧ Hp w wr (ATk (.slice A2 k c2) ((List.range' 0 k).map tkM) :: AQu qb (manyQ i' k m) (m + 1) :: [])) (fun i _ => k - (intOf i).toNat)
        case atStart => exact ⟨0, rfl, Nat.zero_le _, HP2.out⟩
        case round =>
          obtain ⟨i, rfl, hi, hQ2⟩ := hrel
          have HQ2 := Lib.hid hQ2
          clear hQ2
          by_cases hik : i < k
          · obtain ⟨ad, x, rfl, hx, e0, e1, e2, e3, e4⟩ := C_nth_tk (Kd.R_reads' HQ2.out.head).2.2 i (by rw [List.length_map, List.length_range']; exact hik)
            have hx2 := many_get (n := 0) hik
            rw [Nat.zero_add] at hx2
            obtain rfl : tkM i = x := Option.some.inj (hx2.symm.trans hx)
            unfold tkM at e0 e1 e2 e3 e4
            dsimp only at e0 e1 e2 e3 e4
            have HA := Lib.hid (many_ack (n := k) (m := m) hik)
            obtain ⟨rc, hrc⟩ : ∃ rc, rc = receipt ((i : Int) + 1) 1 := ⟨_, rfl⟩
            rw [← hrc] at e2 HA
            clear hx hx2 hrc
            have HB := Lib.hid (HQ2.out.swap.alloc (.cells #[.int .i64 ((i : Int) + 1), .int .i64 1, .string rc, .string ⟨#[120]⟩, .string ⟨#[]⟩] 38))
            have b0 := blk_cell HB.out.blk0 0
            have b1 := blk_cell HB.out.blk0 1
            have b2 := blk_cell HB.out.blk0 2
            have b3 := blk_cell HB.out.blk0 3
            have b4 := blk_cell HB.out.blk0 4
            simp only [List.getElem?_toArray, List.getElem?_cons_zero, List.getElem?_cons_succ] at b0 b1 b2 b3 b4
            have i0 : (0 : Int) ≤ (i : Int) := by omega
            have i1 : (i : Int) < (k : Int) := by omega
            go_wp2_with fail
            refine Calls.mono (HB.out.swap.quAck (show RecOk w (m + 1) by unfold RecOk; omega) rc) ?_
            rw [HA.out]
            rintro e w3 ⟨rfl, hP3⟩
            have HP3 := Lib.hid hP3.drop1.swap
            have b5 := blk_cell hP3.blk1 0
            simp only [List.getElem?_toArray, List.getElem?_cons_zero, List.getElem?_cons_succ] at b5
            clear hP3 b0 b1 b2 b3 b4 e0 e1 e2 e3 e4
            go_wp2_with fail
            refine ⟨⟨i + 1, by simp, by omega, HP3.out⟩, ?_⟩
            simp [intOf]
            omega
          · obtain rfl : k = i := by omega
            obtain ⟨r, hr⟩ : ∃ r, r = min 10 (m - k) := ⟨_, rfl⟩
            have hv := many_rcv (n := k) (m := m) (c := 10) (by omega)
            rw [show (10 : Int).toNat = 10 from rfl, ← hr] at hv
            have HV2 := Lib.hid hv
            have HSB := Lib.hid (show IntKind.i64.wrap ((m : Int) - (k : Int)) = (m : Int) - (k : Int) from IntWalk.i64_in _ (by omega))
            have HSA := Lib.hid (show IntKind.i64.wrap ((k : Int) + 1) = (k : Int) + 1 from IntWalk.i64_in _ (by omega))
            have hmn2 : ∀ ts t W, (Builtin.min_ ts t #[.int .i64 10, .int .i64 ((m : Int) - (k : Int))]).run Tryz.prog W = .ok (.int .i64 (r : Int)) W := by
              intro ts t W
              rw [run_min_int2]
              split <;> (congr 2; omega)
            have hmn3 : ∀ ts t W, (Builtin.min_ ts t #[.int .i64 10, .int .i64 (IntKind.i64.wrap ((m : Int) - (k : Int)))]).run Tryz.prog W = .ok (.int .i64 (r : Int)) W := by
              rw [HSB.out]
              exact hmn2
            have hr0 : r = 0 ∨ ∃ r', r = r' + 1 := by cases r with | zero => exact .inl rfl | succ r' => exact .inr ⟨r', rfl⟩
            clear hv hr
            go_wp2_with fail
            refine Calls.mono (HQ2.out.swap.quRcv (show RecOk w (m + 1) by unfold RecOk; omega) 10 0) ?_
            rw [HV2.out]
            rintro e w4 ⟨A4, k4, c4, hk4, rfl, hP4⟩
            obtain rfl : r = k4 := by rw [hk4, List.length_map, List.length_range']
            have HP4 := Lib.hid hP4
            clear hP4 hk4
            rcases hr0 with h5 | ⟨r', h5⟩
            · subst h5
              have HB4 := Lib.hid HP4.out.belowW
              go_wp2_with (go_at_call 13; refine Calls.mono (awake_any _) ?_; rintro e w5 ⟨rfl, hB⟩)
              go_ret
              exact ⟨rfl, HB4.out.trans (hB.mono HB4.out.size)⟩
            · subst h5
              obtain ⟨ad4, x4, rfl, hx4, f0, f1, f2, f3, f4⟩ := C_nth_tk (Kd.R_reads' HP4.out.head).2.2 0 (by simp)
              rw [many_get (n := k) (by omega)] at hx4
              obtain rfl : _ = x4 := Option.some.inj hx4
              unfold tkM at f0
              simp [Addr.add] at f0
              clear hx4 f1 f2 f3 f4
              have i2 : ¬ ((r' : Int) + 1 = 0) := by omega
              have HB4 := Lib.hid HP4.out.belowW
              go_wp2_with (go_at_call 13; refine Calls.mono (awake_any _) ?_; rintro e w5 ⟨rfl, hB⟩)
              go_ret
              exact ⟨rfl, HB4.out.trans (hB.mono HB4.out.size)⟩
end Go.Proofs.YtoclcmnphdgfpaaGreatDoor
