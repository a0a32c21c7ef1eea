/- The statement PostTwice of layer 17: every call of it tells true and leaves what was there as it was. -/
import Derived.Test.YteeiobjjipcihaaPostAwake
import Derived.Test.YteeiobjjipcihaaOpen
import Derived.Deep.RegionHeld3
namespace Go.Proofs.Yteeiobjjipcihaa
open Go.RowKit Go.Proofs.YteeiobjjipcihaaW.PrintWords

set_option maxHeartbeats 1600000 in
set_option maxRecDepth 100000 in
theorem twice_law (A : Option Addr) (n cap : Nat) (xs : List Int) (k lose : Int) (w : World) (hC : (Kd.int .i64).C w A n xs) (hc : n ≤ cap) (_ho : ∀ x ∈ xs, (Lit.int .i64 x).wf = true) (_hk : (Lit.int .i64 k).wf = true) (hw : (Lit.int .i64 lose).wf = true) :
    Calls Try.prog 6 #[.slice A n cap, .int .i64 k, .int .i64 lose] w fun e w' => e = .returned (.bool true) ∧ Below w.heap.size w w' := by
  have hn := Kd.C_len hC
  have HN := Lib.hid hn
  have hm := Kd.C_max hC
  clear hn
  by_cases h100 : 100 < n
  · go_enter Try.func6, Try.ntmps6
    go_wp2_with (go_at_call 8; refine Calls.mono (awake_any _) ?_; rintro e w1 ⟨rfl, hB⟩)
    go_ret
    exact ⟨rfl, hB⟩
  · have htrue : (xs == xs) = true := by simp
    go_enter Try.func6, Try.ntmps6
    go_wp2_with fail
    refine Calls.mono (new1_int 100 w _ (by omega) (Below.refl _ _)) ?_
    rintro e w1 ⟨rfl, hP1⟩
    have hC1 := Kd.C_below hC hP1.2
    go_wp2_with fail
    refine Calls.mono (send1_int hP1 hC1 hc (by simp; omega) (r := n) (by simp [sendN]; omega)) ?_
    rintro e w2 ⟨rfl, hP2⟩
    have e2 : ([] : List Int) ++ xs.take n = xs := by rw [List.nil_append, List.take_of_length_le (by rw [HN.out]; exact Nat.le_refl _)]
    rw [e2] at hP2
    clear e2 hP1 hC1
    have hB2 := hP2.2
    have hC2 := Kd.C_below hC hB2
    have hl8 : xs.length * 8 ≤ 140737488355328 := by rw [HN.out]; omega
    have hlook := twice_int _ _ _ _ k _ hP2.1
    have hlen := HN.out
    go_wp2_with fail
    have HX : ∃ m is, lookAt 0 xs k = (m, is) ∧ ((0 ≤ k ∧ k < n ∧ is = true ∧ ∃ (j : Nat) (ad : Addr), k = j ∧ A = some ad ∧ w2.cell? (ad.add j) = some (.int .i64 m)) ∨ (¬ (0 ≤ k ∧ k < n) ∧ m = 0 ∧ is = false)) := by
      by_cases hk : 0 ≤ k ∧ k < n
      · obtain ⟨j, rfl⟩ := Int.eq_ofNat_of_zero_le hk.1
        obtain ⟨ad, x, rfl, hx, hcell⟩ := C_nth_scalar hC2 j (by omega)
        exact ⟨x, true, lookAt_in hx, .inl ⟨hk.1, hk.2, rfl, j, ad, rfl, rfl, hcell⟩⟩
      · exact ⟨0, false, lookAt_out (by rw [hlen]; exact hk), .inr ⟨hk, rfl, rfl⟩⟩
    obtain ⟨m, is, hmi, hcase⟩ := HX
    rw [hmi] at hlook
    refine Calls.mono hlook ?_
    clear hlook hmi hlen
    rintro e w3 ⟨rfl, rfl⟩
    have HP2 := Lib.hid hP2
    have HA := Lib.hid (all1_int hP2 hl8 HN.out.symm)
    clear hP2 hl8
    have hmm : (m != m) = false := by simp
    have i0 := info_int
    have hout : ∀ (w4 : World), P1 (Kd.int .i64) 3 52 w w4 w.heap.size (max 100 0) xs → ¬ (0 ≤ lose ∧ lose < n) → Calls Try.prog 20 #[.pointer (some ⟨w.heap.size, 0, none⟩), .int .i64 lose] w4 fun e w' => e = .returned (.bool false) ∧ P1 (Kd.int .i64) 3 52 w w' w.heap.size (max 100 0) xs := fun w4 h hn => by
      have h1 : ¬ (0 ≤ lose ∧ lose < (xs.length : Int)) := by rw [HN.out]; exact hn
      exact lose1_int h (by rw [HN.out]; omega) (by rw [lookAt_out h1]) (takeOut_out h1)
    have hin : ∀ (w4 : World) (j : Nat), P1 (Kd.int .i64) 3 52 w w4 w.heap.size (max 100 0) xs → j < n → Calls Try.prog 20 #[.pointer (some ⟨w.heap.size, 0, none⟩), .int .i64 (j : Int)] w4 fun e w' => e = .returned (.bool true) ∧ P1 (Kd.int .i64) 3 52 w w' w.heap.size (max 100 0) (xs.take j ++ xs.drop (j + 1)) := fun w4 j h hn => by
      have h1 : j < xs.length := by rw [HN.out]; exact hn
      have h2 : xs[j]? = some xs[j] := by simp [h1]
      exact lose1_int h (by rw [HN.out]; omega) (by rw [lookAt_in h2]) (takeOut_in h1)
    have HOUT := Lib.hid hout
    have HIN := Lib.hid hin
    clear hout hin i0
    rcases hcase with ⟨hk0, hk1, rfl, j, ad, rfl, rfl, hcell⟩ | ⟨hk, rfl, rfl⟩
    rotate_left
    have hj : k < 0 ∨ (n : Int) ≤ k := by omega
    rotate_left
    have hj : (j : Int) < (n : Int) := hk1
    have hj0 : (0 : Int) ≤ (j : Int) := hk0
    all_goals
      go_upto_if 69 with (first | (go_at_call 17; refine Calls.mono HA.out ?_; rintro e w3 ⟨A', c', rfl, hC3, hc3, hP3⟩) | (go_at_call 18; refine Calls.mono (same_any _ _ _ _ _ _ _ _ _ hC3 (Kd.C_below hC hP3.2)) ?_; rintro e w4 ⟨rfl, hB4⟩))
    all_goals
      have hP4 := Lib.hid (hP3.below hB4)
      clear hP3 hB4
      by_cases hl : 0 ≤ lose ∧ lose < n
      · obtain ⟨j2, rfl⟩ := Int.eq_ofNat_of_zero_le hl.1
        have hl1 : (j2 : Int) < (n : Int) := hl.2
        have hl0 : (0 : Int) ≤ (j2 : Int) := hl.1
        have hj2 : j2 < n := by omega
        clear hl
        first
          | (exfalso; omega)
          | (obtain ⟨ys, hys⟩ : ∃ ys, ys = xs.take j2 ++ xs.drop (j2 + 1) := ⟨_, rfl⟩
             have HL := Lib.hid (HIN.out w4.drew j2 hP4.out.drew hj2)
             rw [← hys] at HL
             have hyl : ys.length * 8 ≤ 140737488355328 := by rw [hys]; simp; have := HN.out; omega
             have HYS := Lib.hid hys
             clear hys
             obtain ⟨i0, hi, hz0, hz1, hz2⟩ := info_parts info_int
             obtain ⟨hcut, hCt⟩ := take_row (P := Try.prog) 31 3 Try.underlying31 hi j2 (by omega) hc hC
             have hC' := hC
             rw [← HN.out] at hC'
             obtain ⟨A2, hcut2, hC2'⟩ := drop_row (d := Kd.int .i64) (P := Try.prog) 31 3 Try.underlying31 hi hz1 _ cap (j2 + 1) xs (by rw [HN.out]; omega) (by rw [HN.out]; exact hc) hC'
             rw [HN.out] at hcut2 hC2'
             simp only [Int.natCast_add, Int.cast_ofNat_Int] at hcut2
             have hwr : IntKind.i64.wrap ((j2 : Int) + 1) = (j2 : Int) + 1 := IntWalk.i64_in _ (by omega)
             go_wp2_with fail
             go_region_held3 (fun _ => True) (exact trivial) (first | (refine Kd.R_append_rows_step (Kd.int .i64) (w0 := _) 0 (by rfl) (.tmp 89) (.tmp 92) 31 3 (.int .i64 0) 8 rfl Try.underlying31 info_int rfl (by decide) (by omega) (.slice (some ⟨_, 0, none⟩) 0 0) [] (xs.take j2) _ j2 cap (fun _ => True) (fun _ => False) rfl rfl (R_empty_at (by first | exact heap_alloc_new _ _ | exact blk_below (heap_alloc_new _ _) hB6)) (by first | exact Kd.C_below hCt (below_alloc hW6 _) | exact Kd.C_below hCt hW6) (fun _ _ h => h) (fun _ h => h.elim) (fun _ _ => trivial) (Below.refl _ _) (Nat.zero_le _) (by simp; omega) ?_; intro v7 w7 hR7 _ hg7 hat7; have hW7 : Below w.heap.size w w7 := (by first | exact (below_alloc hW6 _).grown hg7 (below_alloc hW6 _).size (fun k hk => by simp [Value.ownBlock] at hk; have := hW6.size; omega) | exact hW6.grown hg7 hW6.size (fun k hk => by simp [Value.ownBlock] at hk; have := hP5.2.size; omega))) | (refine Kd.R_append_rows_step (Kd.int .i64) (w0 := _) 0 (by rfl) (.tmp 93) (.tmp 97) 31 3 (.int .i64 0) 8 rfl Try.underlying31 info_int rfl (by decide) (by omega) v7 ([] ++ xs.take j2) (xs.drop (j2 + 1)) _ (n - (j2 + 1)) (cap - (j2 + 1)) (fun _ => True) (fun _ => False) rfl rfl hR7 (Kd.C_below hC2' hW7) (fun _ _ h => h) (fun _ h => h.elim) (fun _ _ => trivial) (Below.refl _ _) (Nat.zero_le _) (by have := HN.out; simp; omega) ?_; intro v8 w8 hR8 _ hg8 hat8; rw [← show ys = [] ++ xs.take j2 ++ xs.drop (j2 + 1) from by rw [HYS.out]; simp] at hR8; obtain ⟨A8, c8, hv8⟩ := Kd.R_slice hR8; subst hv8) | (go_at_call 18; have hk8 := (by first | exact two_appends_keep (w6 := w6) (lo := w5.heap.size) (hi := w6.heap.size) (fun k _ h2 => Below.heap_alloc w6 _ k h2) (by simp) hg7 (.inr (Nat.le_refl _)) hat7 hg8 | exact two_appends_keep (w6 := w6) (lo := w5.heap.size + 1) (hi := w6.heap.size) (fun k _ _ => rfl) (Nat.le_refl _) hg7 (.inl (Nat.lt_succ_self _)) hat7 hg8); have hW8 : Below w.heap.size w w8 := (by first | exact two_appends_below (below_alloc hW6 _) hg7 hW6.size hat7 hg8 | exact two_appends_below hW6 hg7 hP5.2.size hat7 hg8); have hR9 := Kd.R_reads' (Kd.R_step (w1 := w8) (R_fresh hR6) (fun k hk _ => hk8 k (by have := hk.1; first | omega | (simp at this; omega)) hk.2)); refine Calls.mono (same_yes _ _ _ _ _ _ ys _ _ hR9.2.2 (Kd.R_reads' hR8).2.2 rfl) ?_; rintro e w9 ⟨rfl, hB9⟩) | (go_at_call 8; refine Calls.mono (awake_any _) ?_; rintro e w10 ⟨rfl, hB10⟩) | (go_at_call 20; refine Calls.mono HL.out ?_; rintro e w5 ⟨rfl, hP5⟩) | (go_at_call 17; refine Calls.mono (all_int _ _ _ _ _ (by first | exact hP5.1 | exact (hP5.alloc _).1) hyl) ?_; rintro e w6 ⟨A6, c6, rfl, hR6, hB6⟩; have hW6 := below_then (by first | exact hP5.2 | exact (hP5.alloc _).2) (by first | exact hP5.2.size | exact (hP5.alloc _).2.size) hB6))
             all_goals
               go_wp2
               go_ret
               exact ⟨rfl, below_then (below_then hW8 hW8.size hB9) (below_then hW8 hW8.size hB9).size hB10⟩)
      · have hl' : lose < 0 ∨ (n : Int) ≤ lose := by omega
        have HL := Lib.hid (HOUT.out _ hP4.out hl)
        clear hl
        go_wp2_with (first | (go_at_call 20; refine Calls.mono HL.out ?_; rintro e w5 ⟨rfl, hP5⟩) | (go_at_call 17; refine Calls.mono (all1_int hP5 (by rw [HN.out]; omega) HN.out.symm) ?_; rintro e w6 ⟨A', c', rfl, hC6, hc6, hP6⟩) | (go_at_call 18; refine Calls.mono (same_any _ _ _ _ _ _ _ _ _ hC6 (Kd.C_below hC hP6.2)) ?_; rintro e w7 ⟨rfl, hB7⟩) | (go_at_call 8; refine Calls.mono (awake_any _) ?_; rintro e w8 ⟨rfl, hB8⟩))
        go_ret
        exact ⟨rfl, below_then (hP6.below hB7).2 (hP6.below hB7).2.size hB8⟩

end Go.Proofs.Yteeiobjjipcihaa
