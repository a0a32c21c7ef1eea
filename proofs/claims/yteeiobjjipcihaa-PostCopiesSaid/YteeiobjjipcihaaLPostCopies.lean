/- The statement PostCopies of layer 17: every call of it tells true and leaves what was there as it was. -/
import Derived.Test.YteeiobjjipcihaaPostAwake
import Derived.Test.YteeiobjjipcihaaOpen
namespace Go.Proofs.Yteeiobjjipcihaa
open Go.RowKit Go.Proofs.YteeiobjjipcihaaW.PrintWords

set_option maxHeartbeats 1600000 in
set_option maxRecDepth 100000 in
theorem copies_law (A : Option Addr) (n cap : Nat) (xs : List Int) (B : Option Addr) (m cam : Nat) (ms : List Int) (k : Int) (w : World) (hC : (Kd.int .i64).C w A n xs) (hc : n ≤ cap) (_ho : ∀ x ∈ xs, (Lit.int .i64 x).wf = true)
    (hD : (Kd.int .i64).C w B m ms) (hd : m ≤ cam) (_ho2 : ∀ x ∈ ms, (Lit.int .i64 x).wf = true) (_hk : (Lit.int .i64 k).wf = true) :
    Calls Try.prog 4 #[.slice A n cap, .slice B m cam, .int .i64 k] w fun e w' => e = .returned (.bool true) ∧ Below w.heap.size w w' := by
  have HN := Lib.hid (Kd.C_len hC)
  have HM := Lib.hid (Kd.C_len hD)
  have hm1 := Kd.C_max hC
  have hm2 := Kd.C_max hD
  by_cases h100 : 100 < n ∨ 100 < m
  · rcases h100 with h100 | h100
    · go_enter Try.func4, Try.ntmps4
      go_wp2_with (go_at_call 8; refine Calls.mono (awake_any _) ?_; rintro e w1 ⟨rfl, hB⟩)
      go_ret
      exact ⟨rfl, hB⟩
    · by_cases h1 : 100 < n
      all_goals
        go_enter Try.func4, Try.ntmps4
        go_wp2_with (go_at_call 8; refine Calls.mono (awake_any _) ?_; rintro e w1 ⟨rfl, hB⟩)
        go_ret
        exact ⟨rfl, hB⟩
  · have hn1 : n ≤ 100 := by omega
    have hn2 : m ≤ 100 := by omega
    clear h100
    go_enter Try.func4, Try.ntmps4
    go_wp2_with fail
    refine Calls.mono (new1_int 200 w _ (by omega) (Below.refl _ _)) ?_
    rintro e w1 ⟨rfl, hP1⟩
    have hC1 := Kd.C_below hC hP1.2
    go_wp2_with fail
    refine Calls.mono (send1_int hP1 hC1 hc (by simp; omega) (r := n) (by simp [sendN]; omega)) ?_
    rintro e w2 ⟨rfl, hP2⟩
    have e2 : ([] : List Int) ++ xs.take n = xs := by rw [List.nil_append, List.take_of_length_le (by rw [HN.out]; exact Nat.le_refl _)]
    rw [e2] at hP2
    clear e2 hP1 hC1
    have hself : ((n : Int) != (n : Int)) = false := by simp
    have hself2 : ((m : Int) != (m : Int)) = false := by simp
    go_wp2_with fail
    refine Calls.mono (copy_int _ _ _ _ _ hP2.1 (by rw [HN.out]; omega)) ?_
    rintro e w3 ⟨c, rfl, hQ3, hB3⟩
    have hP3 := (hP2.1.mono (ok' := fun k => w.heap.size ≤ k ∧ k < w2.heap.size) (fun k hk h => ⟨hk, h⟩)).step (w1 := w3) (fun k hk _ => hB3.block k hk.2)
    have hBw3 := below_then hP2.2 hP2.2.size hB3
    have hD3 := Kd.C_below hD hBw3
    have eM : ms.take m = ms := List.take_of_length_le (by rw [HM.out]; exact Nat.le_refl _)
    have hsN : sendN (max 200 0) xs.length ms.length = m := by rw [HN.out, HM.out]; simp [sendN]; omega
    have hsend := send_int c _ _ xs ms B cam w3 hQ3 (by rw [HM.out]; exact hD3) (by rw [HM.out]; exact hd) (by rw [HN.out, HM.out]; omega)
    rw [hsN, HM.out, eM] at hsend
    have HS := Lib.hid hsend
    clear hsend hsN eM hD3
    go_wp2_with fail
    refine Calls.mono HS.out ?_
    rintro e w4 ⟨rfl, hQ4, hK4⟩
    have hcb := hQ3.ok
    have hP4 := hP3.kept hK4 (fun k hk _ => by omega)
    have hBw4 := hK4.below hBw3 hBw3.size (fun k _ hk => by have := hP2.2.size; omega)
    have HT := Lib.hid (take_int c _ _ _ k w4 hQ4 (by rw [List.length_append, HN.out, HM.out]; omega))
    clear hP3 hQ3 hQ4 HS hK4
    go_wp2_with fail
    refine Calls.mono HT.out ?_
    rintro e w5 ⟨rfl, hQ5, hK5⟩
    have hP5 := hP4.kept hK5 (fun k hk _ => by omega)
    have hBw5 := hK5.below hBw4 hBw4.size (fun k _ hk => by have := hP2.2.size; omega)
    have hA := all_int _ _ _ _ _ hP5 (by rw [HN.out]; omega)
    rw [HN.out] at hA
    have HA := Lib.hid hA
    clear hP4 HT hK5 hA
    go_wp2_with fail
    refine Calls.mono HA.out ?_
    rintro e w6 ⟨A6, c6, rfl, hR6, hB6⟩
    have hI6 := intsBlock_of_R hR6
    go_wp2_with fail
    go_loopw [10, 51] (fun _ i wr => ∃ j : Nat, j ≤ n ∧ i = .int .i64 j ∧ Below w5.heap.size w5 wr ∧ IntsBlock wr w5.heap.size 3 A6 n) (fun _ i _ => n - (intOf i).toNat)
    case atStart => exact ⟨0, Nat.zero_le _, rfl, hB6, hI6⟩
    case round =>
      clear hR6 hI6 HA
      obtain ⟨j, hj, rfl, hBr, hIr⟩ := hrel
      by_cases hlt : j < n
      · obtain ⟨g, cells, rfl, hgb, hg, hz⟩ := hIr (by omega)
        obtain ⟨z, hzj⟩ := hz j hlt
        have hcell := blk_cell hg j
        rw [hzj] at hcell
        have hfr := blk_frozen hg j
        have i0 : (0 : Int) ≤ (j : Int) := by omega
        have i1 : (j : Int) < (n : Int) := by omega
        have HG := Lib.hid hg
        have HZ := Lib.hid hz
        have HB := Lib.hid hBr
        clear hg hz hzj hIr hBr
        go_wp2
        go_roundw
        case rel => exact ⟨j + 1, by omega, by go_num, HB.out.setCell hgb _, IntsBlock.set HG.out hgb HZ.out _⟩
        case measure => simp [intOf]; omega
      · have hPr := hP5.step (w1 := wr) (fun k hk hl => hBr.block k hl)
        have hQr := hQ5.step (w1 := wr) (fun k hk hl => hBr.block k hl)
        have hBwr := below_then hBw5 hBw5.size hBr
        have hA := all_int _ _ _ _ _ hPr (by rw [HN.out]; omega)
        rw [HN.out] at hA
        have HA := Lib.hid hA
        have HL := Lib.hid hQr
        have hj : j = n := by omega
        subst hj
        clear hA hPr hQr hIr
        by_cases hk : 0 ≤ k ∧ k < j + m
        · have hlen : ((takeOut (xs ++ ms) k).length : Int) = (j : Int) + m - 1 := by
            have hl : ((xs ++ ms).length : Int) = j + m := by rw [List.length_append, HN.out, HM.out]; simp
            rw [takeOut_length, hl, if_pos hk]
          have hk0 : 0 ≤ k := hk.1
          have hk1 : k < (j : Int) + m := hk.2
          have HLEN := Lib.hid hlen
          clear hlen hk
          go_wp2_with (first | (go_at_call 17; refine Calls.mono HA.out ?_; rintro e w7 ⟨A7, c7, rfl, hR7, hB7⟩) | (go_at_call 18; refine Calls.mono (same_yes _ _ _ _ _ _ xs xs _ (by have := Kd.R_reads' hR7; rw [HN.out] at this; exact this.2.2) (Kd.C_below hC (below_then hBwr hBwr.size hB7)) rfl) ?_; rintro e w8 ⟨rfl, hB8⟩) | (go_at_call 19; refine Calls.mono (len_int _ _ _ _ _ ((HL.out.step (w1 := w7) (fun k _ hl => hB7.block k hl)).step (w1 := w8) (fun k _ hl => hB8.block k hl))) ?_; rintro e w9 ⟨rfl, rfl⟩; rw [HLEN.out]) | (go_at_call 8; refine Calls.mono (awake_any _) ?_; rintro e w10 ⟨rfl, hB10⟩))
          go_ret
          have h7 := below_then hBwr hBwr.size hB7
          have h8 := below_then h7 h7.size hB8
          exact ⟨rfl, below_then h8 h8.size hB10⟩
        · have hlen : ((takeOut (xs ++ ms) k).length : Int) = (j : Int) + m := by
            have hl : ((xs ++ ms).length : Int) = j + m := by rw [List.length_append, HN.out, HM.out]; simp
            rw [takeOut_length, hl, if_neg hk]
          have hk0 : k < 0 ∨ (j : Int) + m ≤ k := by omega
          have HLEN := Lib.hid hlen
          clear hlen hk
          rcases hk0 with hk0 | hk0
          all_goals
            go_wp2_with (first | (go_at_call 17; refine Calls.mono HA.out ?_; rintro e w7 ⟨A7, c7, rfl, hR7, hB7⟩) | (go_at_call 18; refine Calls.mono (same_yes _ _ _ _ _ _ xs xs _ (by have := Kd.R_reads' hR7; rw [HN.out] at this; exact this.2.2) (Kd.C_below hC (below_then hBwr hBwr.size hB7)) rfl) ?_; rintro e w8 ⟨rfl, hB8⟩) | (go_at_call 19; refine Calls.mono (len_int _ _ _ _ _ ((HL.out.step (w1 := w7) (fun k _ hl => hB7.block k hl)).step (w1 := w8) (fun k _ hl => hB8.block k hl))) ?_; rintro e w9 ⟨rfl, rfl⟩; rw [HLEN.out]) | (go_at_call 8; refine Calls.mono (awake_any _) ?_; rintro e w10 ⟨rfl, hB10⟩))
            go_ret
            have h7 := below_then hBwr hBwr.size hB7
            have h8 := below_then h7 h7.size hB8
            exact ⟨rfl, below_then h8 h8.size hB10⟩

end Go.Proofs.Yteeiobjjipcihaa
