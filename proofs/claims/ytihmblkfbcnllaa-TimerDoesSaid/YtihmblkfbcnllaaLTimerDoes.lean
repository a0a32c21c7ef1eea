/- The statement TimerDoes of layer 5: every call of it tells true and leaves what was there as it was. -/
import Derived.Test.YtihmblkfbcnllaaTmTS
import Derived.Test.YtihmblkfbcnllaaLTimerNext
import Derived.Test.YtihmblkfbcnllaaOpen
import Derived.Deep.QuietTactic
import Derived.Deep.RegionHeld3
import Derived.BigQuiet
namespace Go.Proofs.Ytihmblkfbcnllaa
open Go.RowKit Go.Proofs.YtihmblkfbcnllaaW.PrintWords

theorem hasId_len (s : List It) (id : Int) : hasId s id = decide (((tDrop s id).length : Int) < (s.length : Int)) := by
  have h : (tDrop s id).length < s.length ↔ ∃ p ∈ s, p.1 = id := by
    unfold tDrop
    rw [List.length_filter_lt_length_iff_exists]
    simp
  unfold hasId
  by_cases hx : ∃ p ∈ s, p.1 = id
  · rw [decide_eq_true (by have := h.2 hx; omega), List.any_eq_true]
    obtain ⟨p, hp, e⟩ := hx
    exact ⟨p, hp, by simp [e]⟩
  · rw [decide_eq_false (fun hh => hx (h.1 (by omega))), List.any_eq_false]
    intro p hp e
    exact hx ⟨p, hp, by simpa using e⟩

set_option maxHeartbeats 3200000 in
set_option maxRecDepth 100000 in
theorem does_law (A : Option Addr) (n cap : Nat) (ops : List (Int × (Int × Int))) (w : World) (hC : KOp.C w A n ops) (hc : n ≤ cap) (ho : ∀ x ∈ ops, (Lit.int .i64 x.1).wf = true ∧ (Lit.int .i64 x.2.1).wf = true ∧ (Lit.int .i64 x.2.2).wf = true) :
    Calls Try.prog 7 #[.slice A n cap] w fun e w' => e = .returned (.bool true) ∧ Below w.heap.size w w' := by
  have HN := Lib.hid (Kd.C_len hC)
  have HC := Lib.hid hC
  have HO := Lib.hid ho
  have hm1 := Kd.C_max hC
  clear hC ho
  by_cases h80 : 80 < n
  · have h80i : (80 : Int) < n := by omega
    go_enter Try.func7, Try.ntmps7
    go_wp2_with (go_at_call 9; refine Calls.mono (awake_any _) ?_; rintro e w1 ⟨rfl, hB⟩)
    go_ret
    exact ⟨rfl, hB⟩
  · have h80i : ¬ (80 : Int) < n := by omega
    have hn80 : n ≤ 80 := by omega
    have HW1 := Lib.hid (show (Lit.int .i64 1).wf = true from rfl)
    go_enter Try.func7, Try.ntmps7
    go_wp2_with fail
    refine Calls.mono (TS_new w _ (Below.refl _ _)) ?_
    rintro e w1 ⟨rfl, hP1⟩
    generalize w.heap.size + 1 = tb0 at *
    have HP1 := Lib.hid hP1
    clear hP1
    go_wp2_with fail
    go_loopw [3, 4, 19] (fun t v i wr => ∃ (k tb : Nat) (s : List It), i = .int .i64 k ∧ t = .pointer (some ⟨tb, 0, none⟩) ∧ k ≤ n ∧ TS w wr tb v s s [] ∧ s.length ≤ k) (fun _ _ i _ => n - (intOf i).toNat)
    case atStart => exact ⟨0, tb0, [], rfl, rfl, Nat.zero_le _, HP1.out, Nat.le_refl _⟩
    case round =>
      obtain ⟨k, tb, s, rfl, rfl, hk, hTR, hsl⟩ := hrel
      have HTR := Lib.hid hTR
      clear hTR
      by_cases hlt : k < n
      · obtain ⟨ad, kind, oid, ot, rfl, hx, hf0, hf1, hf2⟩ := C_nth_op (Kd.C_below HC.out HTR.out.belowW) k hlt
        have hwo := (HO.out _ (List.mem_of_getElem? hx)).2.1
        have i0 : (0 : Int) ≤ (k : Int) := by omega
        have i1 : (k : Int) < (n : Int) := by omega
        clear hx
        obtain ⟨Ar, cr, rfl, hcr, hCr⟩ := HTR.out.row
        clear hCr
        have hbl : wr.heap.size < (wr.alloc (.cells #[.int .i64 kind, .int .i64 oid, .int .i64 ot] 28)).heap.size := by simp
        have hcase : (kind = 0 ∨ kind = 1) ∨ (kind = 2 ∨ (kind ≠ 0 ∧ kind ≠ 1 ∧ kind ≠ 2)) := by omega
        rcases hcase with (hkd | hkd) | (hkd | hkd)
        case' inl.inl =>
          have hk0 : (kind == 0) = true := by simp [hkd]
          clear hkd
          go_wp2_with fail
          refine Calls.mono ((HTR.out.alloc _).set oid ot hwo (by omega)) ?_
          rintro e w2 ⟨rfl, hT2⟩
          have hb := hT2.get (List.mem_cons_self ..)
          have b1 := blk_cell hb 1
          have b2 := blk_cell hb 2
          simp only [List.getElem?_toArray, List.getElem?_cons_succ, List.getElem?_cons_zero] at b1 b2
          have HT2 := Lib.hid hT2
          clear hT2 hb
          go_wp2_with fail
          refine Calls.mono (HT2.out.refSet rfl oid ot (by omega)) ?_
          rintro e w3 ⟨A3, c3, rfl, hT3⟩
          have HT3 := Lib.hid hT3.forget
          have hsl2 := tSet_len s oid ot
          clear hT3 b1 b2
          generalize tSet s oid ot = s3 at *
        case' inl.inr =>
          have hk0 : (kind == 0) = false := by simp [hkd]
          have hk1 : (kind == 1) = true := by simp [hkd]
          clear hkd
          go_wp2_with fail
          refine Calls.mono ((HTR.out.alloc _).refDrop rfl oid (by omega)) ?_
          rintro e w2 ⟨A3, c3, rfl, hT2⟩
          have hb := hT2.get (List.mem_cons_self ..)
          have b1 := blk_cell hb 1
          simp only [List.getElem?_toArray, List.getElem?_cons_succ, List.getElem?_cons_zero] at b1
          have HT2 := Lib.hid hT2
          clear hT2 hb
          go_wp2_with fail
          refine Calls.mono (HT2.out.drop oid hwo (by omega)) ?_
          rintro e w3 ⟨rfl, hT3⟩
          rw [hasId_len s oid]
          have HT3 := Lib.hid hT3.forget
          have hsl2 := tDrop_len s oid
          clear hT3 b1
          generalize tDrop s oid = s3 at *
          have hq : (decide ((s3.length : Int) < (s.length : Int)) != decide ((s3.length : Int) < (s.length : Int))) = false := by simp
        case' inr.inl =>
          have hk0 : (kind == 0) = false := by simp [hkd]
          have hk1 : (kind == 1) = false := by simp [hkd]
          have hk2 : (kind == 2) = true := by simp [hkd]
          clear hkd
          have hT1 := HTR.out.alloc (.cells #[.int .i64 kind, .int .i64 oid, .int .i64 ot] 28)
          have HT1 := Lib.hid hT1
          clear hT1
          go_wp2_with fail
          refine Calls.mono (refDue_any Ar s.length cr s ot _ HT1.out.rowC.2.2) ?_
          rintro e w2 ⟨rfl, hB2⟩
          have hT2 := HT1.out.below hB2
          have hb := hT2.get (List.mem_cons_self ..)
          have b2 := blk_cell hb 2
          simp only [List.getElem?_toArray, List.getElem?_cons_succ, List.getElem?_cons_zero] at b2
          have hml := tDue_le s ot
          have hdue := hT2.due ot (by omega)
          have hdd : ∀ w', TS w w' tb (.slice Ar s.length cr) s s [(wr.heap.size, .cells #[.int .i64 kind, .int .i64 oid, .int .i64 ot] 28)] → Calls Try.prog 18 #[.pointer (some ⟨tb, 0, none⟩), .int .i64 ot] w' fun e w3 => ∃ A6 c6, e = .returned (.slice A6 (tDue s ot) c6) ∧ KIt.C w3 A6 (tDue s ot) (s.take (tDue s ot)) ∧ TS w w3 tb (.slice Ar s.length cr) (s.drop (tDue s ot)) s [(wr.heap.size, .cells #[.int .i64 kind, .int .i64 oid, .int .i64 ot] 28)] := fun w' h' => by
            refine Calls.mono (h'.due ot (by omega)) ?_
            rintro e w3 ⟨A6, n6, c6, rfl, hn6, hC6, hT6⟩
            obtain rfl : n6 = tDue s ot := by rw [hn6, List.length_take]; omega
            exact ⟨A6, c6, rfl, hC6, hT6⟩
          obtain ⟨i0', hi, hz0, hz1, hz2⟩ := info_parts info_ref
          obtain ⟨hcut, _⟩ := take_row (P := Try.prog) 26 37 Try.underlying26 hi (tDue s ot) hml hT2.rowC.2.1 hT2.rowC.2.2
          obtain ⟨A3, c3, hcut2, hrest⟩ := hT2.rest rfl (tDue s ot) hml
          have HDD := Lib.hid hdd
          have HRE := Lib.hid hrest
          have HT2 := Lib.hid hT2
          clear hdd hdue hrest hT2 hb
          generalize tDue s ot = m at *
          have hmn : (m : Int) ≤ (s.length : Int) := by omega
          have hm0 : (0 : Int) ≤ (m : Int) := by omega
          go_wp2_with fail
          go_region_held3 (fun w' => w'.cell? ⟨wr.heap.size, 2, none⟩ = some (.int .i64 ot)) (first | exact b2 | go_keep | exact b6) (first | (go_at_call 18; refine Calls.mono (HDD.out _ (by first | exact HT2.out.below (Drawn0.below ⟨⟨1, rfl⟩⟩) | exact HT2.out)) ?_; rintro e w3 ⟨A6, c6, rfl, hC6, hT6⟩; have b6 := blk_cell (hT6.get (List.mem_cons_self ..)) 2; simp only [List.getElem?_toArray, List.getElem?_cons_succ, List.getElem?_cons_zero] at b6) | (go_at_call 22; refine Calls.mono (same_yes A6 m c6 (s.take m) Ar cr w3 hC6 (by have := Kd.C_take (m := m) hT6.rowC.2.2 hml; rw [List.length_take, Nat.min_eq_left hml] at this; exact this)) ?_; rintro e w4 ⟨rfl, hB4⟩; have b6 := cell_later hB4 b6))
          have HT3 := Lib.hid (HRE.out _ _ (hT6.below hB4)).forget
          have hsl2 : (s.drop m).length ≤ s.length := by simp
          clear hT6 hB4 b6 hC6
          generalize s.drop m = s3 at *
        case' inr.inr =>
          have hk0 : (kind == 0) = false := by simp [hkd.1]
          have hk1 : (kind == 1) = false := by simp [hkd.2.1]
          have hk2 : (kind == 2) = false := by simp [hkd.2.2]
          clear hkd
          go_wp2_with fail
          refine Calls.mono ((HTR.out.alloc _).copy (by omega)) ?_
          rintro e w2 ⟨cb, rfl, hT2⟩
          have HT2 := Lib.hid hT2
          clear hT2
          go_wp2_with fail
          refine Calls.mono (HT2.out.set 1 1 HW1.out (by omega)) ?_
          rintro e w4 ⟨rfl, hT4⟩
          have HT4 := Lib.hid hT4
          have hsl4 := tSet_len s 1 1
          clear hT4
          go_wp2_with fail
          refine Calls.mono (HT4.out.due 1 (by omega)) ?_
          rintro e w3 ⟨u, rfl, hT3⟩
          have HT3 := Lib.hid hT3
          clear hT3 hsl4
          generalize s = s3 at *
          have hsl2 : s3.length ≤ k := hsl
        all_goals
          have hss : ((s3.length : Int) != (s3.length : Int)) = false := by simp
          go_wp2_with (first | (go_at_call 19; refine Calls.mono HT3.out.len ?_; rintro e w7 ⟨rfl, rfl⟩) | (go_at_call 20; refine Calls.mono (HT3.out.all (by omega)) ?_; rintro e w8 ⟨A8, c8, rfl, hC8, hT8⟩) | (go_at_call 22; refine Calls.mono (same_yes A8 s3.length c8 s3 _ _ w8 hC8 hT8.rowC.2.2) ?_; rintro e w9 ⟨rfl, hB9⟩))
          refine ⟨⟨k + 1, _, s3, by simp, rfl, by omega, hT8.below hB9, by omega⟩, ?_⟩
          simp [intOf]
          omega
      · have hkn : k = n := by omega
        subst hkn
        go_wp2_with (go_at_call 9; refine Calls.mono (awake_any _) ?_; rintro e w1 ⟨rfl, hB⟩)
        go_ret
        exact ⟨rfl, HTR.out.belowW.trans (hB.mono HTR.out.belowW.size)⟩
end Go.Proofs.Ytihmblkfbcnllaa
