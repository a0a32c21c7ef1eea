/- The statement TimerCopies of layer 5: every call of it tells true and leaves what was there as it was. -/
import Derived.Test.YtihmblkfbcnllaaTmSort
import Derived.Test.YtihmblkfbcnllaaTmSame
import Derived.Test.YtihmblkfbcnllaaOpen
namespace Go.Proofs.Ytihmblkfbcnllaa
open Go.RowKit Go.Proofs.YtihmblkfbcnllaaW.PrintWords

theorem T1.due {w0 w : World} {tb : Nat} {s : List It} (h : T1 w0 w tb s) (now : Int) (hs : s.length ≤ 1000000) :
    Calls Try.prog 18 #[.pointer (some ⟨tb, 0, none⟩), .int .i64 now] w fun e w' => ∃ v, e = .returned v ∧ T1 w0 w' tb (s.drop (tDue s now)) := by
  refine Calls.mono (timerDue_any w _ tb s now h.at_ hs) ?_
  rintro e w' ⟨v, rfl, _, hT, hK⟩
  exact ⟨v, rfl, hT.mono (fun k hk _ => hk.1), hK.below h.belowW h.belowW.size (fun k _ hk => hk)⟩
theorem T1.of_copy {w : World} {tb : Nat} {s : List It} {ok : Nat → Prop} (h : TmAt w ok tb s) (hs : s.length ≤ 1000000) :
    Calls Try.prog 17 #[.pointer (some ⟨tb, 0, none⟩)] w fun e w' => ∃ cb, e = .returned (.pointer (some ⟨cb, 0, none⟩)) ∧ T1 w w' cb s := by
  refine Calls.mono (timerCopy_any w _ tb s h hs) ?_
  rintro e w' ⟨cb, rfl, hc, hB⟩
  exact ⟨cb, rfl, hc, hB⟩
/-- What loop 3 needs of the row that it writes: its block's cells, each second one an integer. -/
def Steps (w : World) (g n e : Nat) : Prop := ∃ cur, w.heap[g]? = some (.cells cur e (0, 0)) ∧ ∀ j, j < n → ∃ t, cur[j * 2 + 1]? = some (.int .i64 t)
theorem Steps.of_R {w : World} {b g n c e : Nat} {s : List It} (h : KIt.R e w b (fun _ => True) (.slice (some ⟨g, 0, none⟩) n c) s) (hg : ∃ cells, w.heap[g]? = some (.cells cells e (0, 0))) : Steps w g n e := by
  obtain ⟨cells, hg⟩ := hg
  refine ⟨cells, hg, fun j hj => ?_⟩
  have hn := (Kd.R_reads' h).1
  obtain ⟨cc, _, hM, hcc, _⟩ := Kd.R_elem h (0, 0) ((j : Nat) : Int) (by omega) (by omega)
  have hc := KIt_cells hM
  subst hc
  have := hcc 1 _ rfl
  have hsz : KIt.sz = 2 := rfl
  rw [hsz] at this
  simp only [Int.toNat_natCast] at this
  refine ⟨(s.getD j (0, 0)).2, ?_⟩
  simpa [World.cell?, hg] using this
theorem Steps.cell {w : World} {g n e : Nat} (h : Steps w g n e) {j : Nat} (hj : j < n) : ∃ t, w.cell? ⟨g, j * 2 + 1, none⟩ = some (.int .i64 t) ∧ w.frozen? ⟨g, j * 2 + 1, none⟩ = false := by
  obtain ⟨cur, hg, h⟩ := h
  obtain ⟨t, ht⟩ := h j hj
  exact ⟨t, by simp [World.cell?, hg, ht], by simp [World.frozen?, hg]⟩
theorem Steps.put {w : World} {g n e : Nat} (h : Steps w g n e) (j : Nat) (t : Int) : Steps (w.setCell ⟨g, j * 2 + 1, none⟩ (.int .i64 t)) g n e := by
  obtain ⟨cur, hg, h⟩ := h
  refine ⟨cur.setIfInBounds (j * 2 + 1) (.int .i64 t), by simp [World.setCell, hg, Array.getElem?_modify], fun i hi => ?_⟩
  obtain ⟨t', ht⟩ := h i hi
  by_cases hij : i = j
  · subst hij
    have hlt := (Array.getElem?_eq_some_iff.1 ht).1
    exact ⟨t, by simp [hlt]⟩
  · exact ⟨t', by rw [Array.getElem?_setIfInBounds_ne (by omega)]; exact ht⟩

set_option maxHeartbeats 1600000 in
set_option maxRecDepth 100000 in
theorem copies_law (A : Option Addr) (n cap : Nat) (xs : List It) (B : Option Addr) (m cap2 : Nat) (ys : List It) (now : Int) (w : World) (hC : KIt.C w A n xs) (hc : n ≤ cap) (ho : ∀ x ∈ xs, (Lit.int .i64 x.1).wf = true ∧ (Lit.int .i64 x.2).wf = true) (hC2 : KIt.C w B m ys) (hc2 : m ≤ cap2) (ho2 : ∀ x ∈ ys, (Lit.int .i64 x.1).wf = true ∧ (Lit.int .i64 x.2).wf = true) (_hnow : (Lit.int .i64 now).wf = true) :
    Calls Try.prog 8 #[.slice A n cap, .slice B m cap2, .int .i64 now] w fun e w' => e = .returned (.bool true) ∧ Below w.heap.size w w' := by
  have HN := Lib.hid (Kd.C_len hC)
  have HC := Lib.hid hC
  have HO := Lib.hid ho
  have hm1 := Kd.C_max hC
  have HM := Lib.hid (Kd.C_len hC2)
  have HC2 := Lib.hid hC2
  have HO2 := Lib.hid ho2
  have hm2 := Kd.C_max hC2
  clear hC ho hC2 ho2
  by_cases h80 : 80 < n
  · have h80i : (80 : Int) < n := by omega
    go_enter Try.func8, Try.ntmps8
    go_wp2_with (go_at_call 9; refine Calls.mono (awake_any _) ?_; rintro e w1 ⟨rfl, hB⟩)
    go_ret
    exact ⟨rfl, hB⟩
  · have h80i : ¬ (80 : Int) < n := by omega
    by_cases h81 : 80 < m
    · have h81i : (80 : Int) < m := by omega
      go_enter Try.func8, Try.ntmps8
      go_wp2_with (go_at_call 9; refine Calls.mono (awake_any _) ?_; rintro e w1 ⟨rfl, hB⟩)
      go_ret
      exact ⟨rfl, hB⟩
    · have h81i : ¬ (80 : Int) < m := by omega
      have hn80 : n ≤ 80 := by omega
      have hm80 : m ≤ 80 := by omega
      go_enter Try.func8, Try.ntmps8
      go_wp2_with fail
      refine Calls.mono (TR_new w _ (Below.refl _ _)) ?_
      rintro e w1 ⟨rfl, hP1⟩
      generalize w.heap.size + 1 = tb at *
      have HP1 := Lib.hid hP1
      clear hP1
      go_wp2_with fail
      go_loopw [8, 30] (fun v i wr => ∃ (k : Nat) (s : List It), i = .int .i64 k ∧ k ≤ n ∧ TR w wr tb v s s [] ∧ s.length ≤ k) (fun _ i _ => n - (intOf i).toNat)
      case atStart => exact ⟨0, [], rfl, Nat.zero_le _, HP1.out, Nat.le_refl _⟩
      case round =>
        obtain ⟨k, s, rfl, hk, hTR, hsl⟩ := hrel
        have HTR := Lib.hid hTR
        clear hTR
        by_cases hlt : k < n
        · obtain ⟨ad, x, rfl, hx, hf0, hf1⟩ := C_nth_it (Kd.C_below HC.out HTR.out.belowW) k hlt
          have hwo := (HO.out _ (List.mem_of_getElem? hx)).1
          have i0 : (0 : Int) ≤ (k : Int) := by omega
          have i1 : (k : Int) < (n : Int) := by omega
          clear hx
          obtain ⟨Ar, cr, rfl, hcr, hCr⟩ := HTR.out.row
          clear hCr
          have hbl : wr.heap.size < (wr.alloc (.cells #[.int .i64 x.1, .int .i64 x.2] 37)).heap.size := by simp
          go_wp2_with fail
          refine Calls.mono ((HTR.out.alloc _).set x.1 x.2 hwo (by omega)) ?_
          rintro e w2 ⟨rfl, hT2⟩
          have hb := hT2.get (List.mem_cons_self ..)
          have b1 := blk_cell hb 0
          have b2 := blk_cell hb 1
          simp only [List.getElem?_toArray, List.getElem?_cons_succ, List.getElem?_cons_zero] at b1 b2
          have HT2 := Lib.hid hT2
          clear hT2 hb
          go_wp2_with fail
          refine Calls.mono (HT2.out.refSet rfl x.1 x.2 (by omega)) ?_
          rintro e w3 ⟨A3, c3, rfl, hT3⟩
          have HT3 := Lib.hid hT3.forget
          have hsl2 := tSet_len s x.1 x.2
          clear hT3 b1 b2
          go_wp2_with fail
          refine ⟨⟨k + 1, tSet s x.1 x.2, by simp, by omega, HT3.out, by omega⟩, ?_⟩
          simp [intOf]
          omega
        · have hkn : k = n := by omega
          subst hkn
          obtain ⟨Ar, cr, rfl, hcr, hCr⟩ := HTR.out.row
          obtain ⟨ok, hTm, _, _, hBw, _⟩ := HTR.out
          have HTm := Lib.hid hTm
          have HCr := Lib.hid hCr
          have HBw := Lib.hid hBw
          clear hTm hCr hBw
          go_wp2_with fail
          refine Calls.mono (T1.of_copy HTm.out (by omega)) ?_
          rintro e w2 ⟨cb, rfl, hT2⟩
          have HT2 := Lib.hid hT2
          clear hT2
          go_wp2_with fail
          go_loopw [53] (fun i wq => ∃ (k2 : Nat) (sc : List It), i = .int .i64 k2 ∧ k2 ≤ m ∧ T1 wr wq cb sc ∧ sc.length ≤ s.length + k2) (fun i _ => m - (intOf i).toNat)
          case atStart => exact ⟨0, s, rfl, Nat.zero_le _, HT2.out, Nat.le_refl _⟩
          case round =>
            obtain ⟨k2, sc, rfl, hk2, hT3, hscl⟩ := hrel
            have HT3 := Lib.hid hT3
            clear hT3
            by_cases hlt2 : k2 < m
            · obtain ⟨ad, x, rfl, hx, hf0, hf1⟩ := C_nth_it (Kd.C_below HC2.out (HBw.out.trans (HT3.out.belowW.mono HBw.out.size))) k2 hlt2
              have hwo := (HO2.out _ (List.mem_of_getElem? hx)).1
              have i0 : (0 : Int) ≤ (k2 : Int) := by omega
              have i1 : (k2 : Int) < (m : Int) := by omega
              clear hx
              go_wp2_with fail
              refine Calls.mono ((HT3.out.below (below_alloc (Below.refl _ _) _)).set x.1 x.2 hwo (by omega)) ?_
              rintro e w4 ⟨rfl, hT4⟩
              have HT4 := Lib.hid hT4
              have hsl2 := tSet_len sc x.1 x.2
              clear hT4
              go_wp2_with fail
              refine ⟨⟨k2 + 1, tSet sc x.1 x.2, by simp, by omega, HT4.out, by omega⟩, ?_⟩
              simp [intOf]
              omega
            · have hkm : k2 = m := by omega
              subst hkm
              go_wp2_with fail
              refine Calls.mono (HT3.out.due now (by omega)) ?_
              rintro e w4 ⟨v4, rfl, hT4⟩
              have HB4 := Lib.hid hT4.belowW
              have HTm4 := Lib.hid (HTm.out.below hT4.belowW)
              clear hT4
              go_wp2_with fail
              refine Calls.mono (timerAll_any w4 ok tb s HTm4.out (by omega)) ?_
              rintro e w5 ⟨A5, c5, rfl, hR5, hB5⟩
              have HR5 := Lib.hid hR5
              have HB5 := Lib.hid hB5
              have hs2 : s.length ≤ 80 := by omega
              have HGR := Lib.hid (show 0 < s.length → ∃ g, A5 = some ⟨g, 0, none⟩ ∧ w4.heap.size ≤ g ∧ g < w5.heap.size ∧ Steps w5 g s.length 34 from fun hp => by
                obtain ⟨g, cap', hv, hbg, hgl, hg⟩ := Kd.R_form hR5 hp
                injection hv with hv hv2 hv3
                subst hv hv3
                exact ⟨g, rfl, hbg, hgl, Steps.of_R hR5 hg⟩)
              clear hR5 hB5
              have HCr4 := Lib.hid (Kd.C_below HCr.out HB4.out)
              have HBw4 := Lib.hid (HBw.out.trans (HB4.out.mono HBw.out.size))
              clear HB4
              go_wp2_with fail
              go_loopw [71] (fun i wq => ∃ j : Nat, i = .int .i64 j ∧ j ≤ s.length ∧ Below w4.heap.size w4 wq ∧ Hid (0 < s.length → ∃ g, A5 = some ⟨g, 0, none⟩ ∧ w4.heap.size ≤ g ∧ g < wq.heap.size ∧ Steps wq g s.length 34)) (fun i _ => s.length - (intOf i).toNat)
              case atStart => exact ⟨0, rfl, Nat.zero_le _, HB5.out, HGR⟩
              case round =>
                obtain ⟨j, rfl, hj, hB6, hgr⟩ := hrel
                have HB6 := Lib.hid hB6
                clear hB6
                by_cases hjl : j < s.length
                · obtain ⟨g, rfl, hg4, hgl, hst⟩ := hgr.out (by omega)
                  obtain ⟨t, d0, f0⟩ := hst.cell hjl
                  have HST := Lib.hid hst
                  have i0 : (0 : Int) ≤ (j : Int) := by omega
                  have i1 : (j : Int) < (s.length : Int) := by omega
                  clear hst
                  go_wp2_with fail
                  refine ⟨⟨j + 1, by simp, by omega, HB6.out.setCell hg4 _, Lib.hid (fun _ => ⟨g, rfl, hg4, by simpa [World.setCell] using hgl, HST.out.put _ _⟩)⟩, ?_⟩
                  simp [intOf]
                  omega
                · have hjn : j = s.length := by omega
                  go_wp2_with fail
                  refine Calls.mono (timerAll_any _ ok tb s (HTm4.out.below HB6.out) (by omega)) ?_
                  rintro e w7 ⟨A7, c7, rfl, hR7, hB7⟩
                  have HC7 := Lib.hid (Kd.R_reads' hR7).2.2
                  have HB7 := Lib.hid (HB6.out.trans (hB7.mono HB6.out.size))
                  clear hR7 hB7
                  go_wp2_with fail
                  refine Calls.mono (same_yes A7 s.length c7 s Ar cr w7 HC7.out (Kd.C_below HCr4.out HB7.out)) ?_
                  rintro e w8 ⟨rfl, hB8⟩
                  have HB8 := Lib.hid (HB7.out.trans (hB8.mono HB7.out.size))
                  have hss : ((s.length : Int) == (s.length : Int)) = true := by simp
                  clear hB8
                  go_wp2_with (first | (go_at_call 19; refine Calls.mono (timerLen_any _ ok tb s (HTm4.out.below HB8.out)) ?_; rintro e w9 ⟨rfl, rfl⟩) | (go_at_call 9; refine Calls.mono (awake_any _) ?_; rintro e w10 ⟨rfl, hB10⟩))
                  go_ret
                  exact ⟨rfl, HBw4.out.trans ((HB8.out.trans (hB10.mono HB8.out.size)).mono HBw4.out.size)⟩
end Go.Proofs.Ytihmblkfbcnllaa
