/- The statement TimerDue of layer 5: every call of it tells true and leaves what was there as it was. -/
import Derived.Test.YtihmblkfbcnllaaTmT2
import Derived.Test.YtihmblkfbcnllaaOpen
import Derived.Deep.QuietTactic
import Derived.BigQuiet
namespace Go.Proofs.Ytihmblkfbcnllaa
open Go.RowKit Go.Proofs.YtihmblkfbcnllaaW.PrintWords

set_option maxHeartbeats 1600000 in
set_option maxRecDepth 100000 in
theorem due_law (A : Option Addr) (n cap : Nat) (xs : List It) (now later : Int) (w : World) (hC : KIt.C w A n xs) (hc : n ≤ cap) (ho : ∀ x ∈ xs, (Lit.int .i64 x.1).wf = true ∧ (Lit.int .i64 x.2).wf = true) (_hnow : (Lit.int .i64 now).wf = true) (_hlater : (Lit.int .i64 later).wf = true) :
    Calls Try.prog 4 #[.slice A n cap, .int .i64 now, .int .i64 later] w fun e w' => e = .returned (.bool true) ∧ Below w.heap.size w w' := by
  have HN := Lib.hid (Kd.C_len hC)
  have HC := Lib.hid hC
  have HO := Lib.hid ho
  have hm1 := Kd.C_max hC
  clear hC ho
  by_cases h80 : 80 < n ∨ later < now
  · rcases h80 with h80 | h80
    · have h80i : (80 : Int) < n := by omega
      go_enter Try.func4, Try.ntmps4
      go_wp2_with (go_at_call 9; refine Calls.mono (awake_any _) ?_; rintro e w1 ⟨rfl, hB⟩)
      go_ret
      exact ⟨rfl, hB⟩
    · by_cases h81 : (80 : Int) < n
      · go_enter Try.func4, Try.ntmps4
        go_wp2_with (go_at_call 9; refine Calls.mono (awake_any _) ?_; rintro e w1 ⟨rfl, hB⟩)
        go_ret
        exact ⟨rfl, hB⟩
      · go_enter Try.func4, Try.ntmps4
        go_wp2_with (go_at_call 9; refine Calls.mono (awake_any _) ?_; rintro e w1 ⟨rfl, hB⟩)
        go_ret
        exact ⟨rfl, hB⟩
  · have h80i : ¬ (80 : Int) < n := by omega
    have hln : ¬ later < now := by omega
    have hn80 : n ≤ 80 := by omega
    have HL := Lib.hid (show now ≤ later by omega)
    clear h80
    go_enter Try.func4, Try.ntmps4
    go_wp2_with fail
    refine Calls.mono (T1_new w) ?_
    rintro e w1 ⟨rfl, hP1⟩
    generalize w.heap.size + 1 = tb at *
    have HP1 := Lib.hid hP1
    clear hP1
    go_wp2_with fail
    go_loopw [28] (fun i wr => ∃ (k : Nat) (s : List It), i = .int .i64 k ∧ k ≤ n ∧ T1 w wr tb s ∧ s.length ≤ k) (fun i _ => n - (intOf i).toNat)
    case atStart => exact ⟨0, [], rfl, Nat.zero_le _, HP1.out, Nat.le_refl _⟩
    case round =>
      obtain ⟨k, s, rfl, hk, hTR, hsl⟩ := hrel
      have HTR := Lib.hid hTR
      clear hTR
      by_cases hlt : k < n
      · obtain ⟨ad, x, rfl, hx, hf0, hf1⟩ := C_nth_it (Kd.C_below HC.out HTR.out.belowW) k hlt
        have hwo := (HO.out _ (List.mem_of_getElem? hx)).1
        have i0 : (0 : Int) ≤ (k : Int) := by omega
        have i1 : (k : Int) < (n : Int) := by omega
        clear hx
        go_wp2_with fail
        refine Calls.mono ((HTR.out.below (below_alloc (Below.refl _ _) _)).set x.1 x.2 hwo (by omega)) ?_
        rintro e w2 ⟨rfl, hT2⟩
        have HT2 := Lib.hid hT2
        have hsl2 := tSet_len s x.1 x.2
        clear hT2
        go_wp2_with fail
        refine ⟨⟨k + 1, tSet s x.1 x.2, by simp, by omega, HT2.out, by omega⟩, ?_⟩
        simp [intOf]
        omega
      · have hkn : k = n := by omega
        subst hkn
        go_wp2_with fail
        refine Calls.mono (HTR.out.copy (by omega)) ?_
        rintro e w2 ⟨cb, b1, b2, rfl, hT2⟩
        have HT2 := Lib.hid hT2
        clear hT2
        go_wp2_with fail
        refine Calls.mono (HT2.out.dueT now (by omega)) ?_
        rintro e w3 ⟨v1, rfl, hR1, hT3, hK3⟩
        have hd1 : (s.drop (tDue s now)).length ≤ s.length := by simp
        have HR1 := Lib.hid hR1
        have HT3 := Lib.hid hT3
        have hz3 := Lib.hid (Nat.le_trans HT2.out.le3 hK3.size)
        clear hR1 hT3
        go_wp2_with fail
        refine Calls.mono (HT3.out.dueT later (by omega)) ?_
        rintro e w4 ⟨v2, rfl, hR2, hT4, hK4⟩
        rw [due_drop HL.out] at hT4
        have hj := due_take HL.out s
        have hR1 := R_past HR1.out hK4 (fun k hk => Nat.lt_of_lt_of_le hk HT2.out.le3)
        have hz4 := Lib.hid (show w2.heap.size ≤ w4.heap.size from Nat.le_trans hK3.size hK4.size)
        have hrl : (s.take (tDue s now)).length ≤ 80 := by simp; omega
        have hrl2 : ((s.drop (tDue s now)).take (tDue (s.drop (tDue s now)) later)).length ≤ 80 := by simp; omega
        have hrl3 : (s.take (tDue s later)).length ≤ 80 := by simp; omega
        have hrl4 : (s.drop (tDue s later)).length ≤ 80 := by simp; omega
        generalize s.take (tDue s now) = r1 at *
        generalize (s.drop (tDue s now)).take (tDue (s.drop (tDue s now)) later) = r2 at *
        obtain ⟨A2, c2, hv2⟩ := Kd.R_slice hR2
        subst hv2
        have hC2 := (Kd.R_reads' hR2).2.2
        obtain ⟨n2, hn2⟩ : ∃ n2, n2 = r2.length := ⟨_, rfl⟩
        obtain ⟨n1, hn1⟩ : ∃ n1, n1 = r1.length := ⟨_, rfl⟩
        rw [← hn2] at hC2 hrl2 ⊢
        rw [← hn1] at hrl
        have HN1 := Lib.hid hn1
        have HC2 := Lib.hid hC2
        have HR1 := Lib.hid hR1
        have HJ := Lib.hid hj
        have HT4 := Lib.hid hT4
        clear hn1 hn2 hC2 hR1 hR2 hj hT4 hK3 hK4 hd1
        go_wp2_with (at_builtin; refine Kd.R_append_rows KIt (w0 := w4) w2.heap.size rfl (.tmp 45) (.tmp 48) 41 34 (.agg #[.int .i64 0, .int .i64 0]) 16 rfl Try.underlying41 info_item rfl (by decide) (by omega) v1 r1 r2 A2 n2 c2 (fun _ => True) (fun _ => False) rfl rfl HR1.out HC2.out (fun _ _ h => h) (fun _ h => h.elim) (fun _ _ => trivial) (Below.refl _ _) hz4.out (by rw [← HN1.out]; omega) ?_; intro v5 w5 hR5 hB5 hg5 hat5; rw [HJ.out] at hR5; clear hg5 hat5)
        have HT5 := Lib.hid (HT4.out.past HT2.out.le3 hB5)
        refine Calls.mono (HT5.out.dueC later (by omega)) ?_
        rintro e w6 ⟨v6, rfl, hR6, hT6, hK6⟩
        have hR5 := R_past hR5 hK6 (fun k hk => Nat.lt_of_lt_of_le hk HT2.out.le3)
        generalize s.take (tDue s later) = r at *
        generalize s.drop (tDue s later) = s3 at *
        obtain ⟨A5, c5, hv5⟩ := Kd.R_slice hR5
        obtain ⟨A6, c6, hv6⟩ := Kd.R_slice hR6
        subst hv5 hv6
        have hC5 := (Kd.R_reads' hR5).2.2
        have hC6 := (Kd.R_reads' hR6).2.2
        obtain ⟨nr, hnr⟩ : ∃ nr, nr = r.length := ⟨_, rfl⟩
        rw [← hnr] at hC5 hC6 ⊢
        have hnn : ((nr : Int) != (nr : Int)) = false := by simp
        have hss : ((s3.length : Int) != (s3.length : Int)) = false := by simp
        have HC5 := Lib.hid hC5
        have HC6 := Lib.hid hC6
        have HT6 := Lib.hid hT6
        have hnr80 : nr ≤ 80 := by omega
        clear hnr hC5 hC6 hR5 hR6 hT6 hK6 hB5 hrl3
        go_wp2_with (first | (go_at_call 19; refine Calls.mono HT6.out.lenT ?_; rintro e w7 ⟨rfl, rfl⟩) | (go_at_call 19; refine Calls.mono HT6.out.lenC ?_; rintro e w8 ⟨rfl, rfl⟩))
        go_loopw [67] (fun i wq => ∃ j : Nat, i = .int .i64 j ∧ j ≤ nr ∧ Below w6.heap.size w6 wq) (fun i _ => nr - (intOf i).toNat)
        case atStart => exact ⟨0, rfl, Nat.zero_le _, Below.refl _ _⟩
        case round =>
          obtain ⟨j, rfl, hj, hB⟩ := hrel
          have HB := Lib.hid hB
          clear hB
          by_cases hjl : j < nr
          · obtain ⟨ad, x, rfl, hx, d0, d1⟩ := C_nth_it (Kd.C_below HC5.out HB.out) j hjl
            obtain ⟨ad2, y, rfl, hy, f0, f1⟩ := C_nth_it (Kd.C_below HC6.out HB.out) j hjl
            obtain rfl : y = x := Option.some.inj (hy.symm.trans hx)
            have i0 : (0 : Int) ≤ (j : Int) := by omega
            have i1 : (j : Int) < (nr : Int) := by omega
            have hxa : (y.1 == y.1) = true := by simp
            have hxb : (y.2 == y.2) = true := by simp
            clear hx hy
            go_wp2_with fail
            go_quiet (fail)
            go_wp2_with fail
            refine ⟨⟨j + 1, by simp, by omega, HB.out.trans ((pw_below_drewN (Below.refl _ _) _).mono HB.out.size)⟩, ?_⟩
            simp [intOf]
            omega
          · have hjn : j = nr := by omega
            subst hjn
            go_wp2_with (go_at_call 9; refine Calls.mono (awake_any _) ?_; rintro e w5 ⟨rfl, hB5⟩)
            go_ret
            exact ⟨rfl, (HT6.out.belowW.trans (HB.out.mono HT6.out.belowW.size)).trans (hB5.mono (HT6.out.below HB.out).belowW.size)⟩
end Go.Proofs.Ytihmblkfbcnllaa
