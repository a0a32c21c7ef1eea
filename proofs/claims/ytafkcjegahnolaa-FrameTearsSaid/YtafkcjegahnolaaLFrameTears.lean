/- The statement FrameTears of layer 2: every call of it tells true and leaves what was there as it was. -/
import Derived.Test.YtafkcjegahnolaaFrAwake
import Derived.Test.YtafkcjegahnolaaFrTorn
import Derived.Test.YtafkcjegahnolaaFrRefDef
import Derived.Test.YtafkcjegahnolaaWGuard
import Derived.Laws.IdiomArrays
import Derived.StillTailTactics
namespace Go.Proofs.Ytafkcjegahnolaa
open Go.RowKit Go.Proofs.YtafkcjegahnolaaW.PrintWords

theorem list4 (l : List Value) (h : l.length = 4) : ∃ c0 c1 c2 c3, l = [c0, c1, c2, c3] := by
  match l, h with
  | [a, b, c, d], _ => exact ⟨a, b, c, d, rfl⟩
/-- An element of a row of the call's own is set. -/
theorem put_at {e base g cap n : Nat} {ok : Nat → Prop} {L : List Int} {w : World} (h : (Kd.int .u8).R e w base ok (.slice (some ⟨g, 0, none⟩) n cap) L) (hn : L.length = n) (j : Nat) (hj : j < n) (y : Int) :
    w.cell? ⟨g, j, none⟩ = some (.int .u8 (L.getD j 0)) ∧ w.frozen? ⟨g, j, none⟩ = false ∧ (Kd.int .u8).R e (w.setCell ⟨g, j, none⟩ (.int .u8 y)) base ok (.slice (some ⟨g, 0, none⟩) n cap) (L.set j y) := by
  subst hn
  obtain ⟨h1, h2⟩ := Kd.R_cell 0 h (j : Int) (by omega) (by omega)
  have h3 : (Kd.int .u8).R e (w.setCell ⟨g, (j : Int).toNat, none⟩ (.int .u8 y)) base ok (.slice (some ⟨g, 0, none⟩) L.length cap) (L.set (j : Int).toNat y) := (Kd.R_put h (j : Int) y).1
  rw [Int.toNat_natCast] at h3
  exact ⟨by simpa [rdOf] using h1, by simpa using h2, h3⟩
def four (x0 x1 x2 x3 : Int) (k : Nat) : Nat := if k = 0 then x0.toNat else if k = 1 then x1.toNat else if k = 2 then x2.toNat else x3.toNat

set_option maxHeartbeats 1600000 in
set_option maxRecDepth 100000 in
theorem tears_any (A : Option Addr) (n cap : Nat) (xs : List Int) (at_ cut : Int) (x0 x1 x2 x3 : Int) (w : World) (hC : (Kd.int .u8).C w A n xs) (hc : n ≤ cap) (ho : ∀ s ∈ xs, (Lit.int .u8 s).wf = true) (ha : (Lit.int .i64 at_).wf = true) (hcut : (Lit.int .i64 cut).wf = true) (h0 : (Lit.int .u8 x0).wf = true) (h1 : (Lit.int .u8 x1).wf = true) (h2 : (Lit.int .u8 x2).wf = true) (h3 : (Lit.int .u8 x3).wf = true) :
    Calls Try.prog 6 #[.slice A n cap, .int .i64 at_, .int .i64 cut, .agg #[.int .u8 x0, .int .u8 x1, .int .u8 x2, .int .u8 x3]] w fun e w' => e = .returned (.bool true) ∧ Below w.heap.size w w' := by
  have HN := Lib.hid (Kd.C_len hC)
  have HC := Lib.hid hC
  have hx := BytesOk.of_wf ho
  clear hC
  by_cases hg : 600 < n ∨ at_ < 2 ∨ cut < 0
  · by_cases hbig : 600 < n
    · have hbi : (600 : Int) < n := by omega
      go_enter Try.func6, Try.ntmps6
      go_wp2_with (go_at_call 11; refine Calls.mono (awake_any _) ?_; rintro e w1 ⟨rfl, hB⟩)
      go_ret
      exact ⟨rfl, ((Below.refl w.heap.size w).alloc (Nat.le_refl _) _).trans (hB.mono (by simp))⟩
    · have hbi : ¬ (600 : Int) < n := by omega
      by_cases ha2 : at_ < 2
      · go_enter Try.func6, Try.ntmps6
        go_wp2_with (go_at_call 11; refine Calls.mono (awake_any _) ?_; rintro e w1 ⟨rfl, hB⟩)
        go_ret
        exact ⟨rfl, ((Below.refl w.heap.size w).alloc (Nat.le_refl _) _).trans (hB.mono (by simp))⟩
      · have hc0 : cut < 0 := by omega
        go_enter Try.func6, Try.ntmps6
        go_wp2_with (go_at_call 11; refine Calls.mono (awake_any _) ?_; rintro e w1 ⟨rfl, hB⟩)
        go_ret
        exact ⟨rfl, ((Below.refl w.heap.size w).alloc (Nat.le_refl _) _).trans (hB.mono (by simp))⟩
  · have hb := bounds_u8 h0
    have hb1 := bounds_u8 h1
    have hb2 := bounds_u8 h2
    have hb3 := bounds_u8 h3
    have hba := bounds_i64 ha
    have hbc := bounds_i64 hcut
    clear h0 h1 h2 h3 ha hcut
    obtain ⟨a, rfl⟩ := Int.eq_ofNat_of_zero_le (show 0 ≤ at_ by omega)
    obtain ⟨c, rfl⟩ := Int.eq_ofNat_of_zero_le (show 0 ≤ cut by omega)
    have hbi : ¬ (600 : Int) < n := by omega
    have hai : ¬ (a : Int) < 2 := by omega
    have hci : ¬ (c : Int) < 0 := by omega
    have hn6 : ((n + 6 : Nat) : Int) = (n : Int) + 6 := by omega
    have hf : ∀ k, four x0 x1 x2 x3 k < 256 := by intro k; unfold four; split <;> (try split) <;> (try split) <;> omega
    clear hg
    have hx4 : ∀ j, j < 4 → (w.alloc (.cells #[.int .u8 x0, .int .u8 x1, .int .u8 x2, .int .u8 x3] 35)).cell? ⟨w.heap.size, j, none⟩ = some (.int .u8 (four x0 x1 x2 x3 j : Nat)) := by
      intro j hj
      rw [World.cell?_alloc_at _ _ _ _ rfl]
      have : j = 0 ∨ j = 1 ∨ j = 2 ∨ j = 3 := by omega
      rcases this with e | e | e | e <;> subst e <;> simp [four] <;> omega
    have HX4 := Lib.hid hx4
    have HF := Lib.hid hf
    clear hx4 hf
    go_enter Try.func6, Try.ntmps6
    go_wp2_with fail
    refine Calls.mono (seal_n A n cap xs _ HN.out (Kd.C_alloc HC.out _) hc hx (by omega)) ?_
    rintro e w2 ⟨A1, c1, rfl, hR1, hc1, hC1, hB1⟩
    have HC1 := Lib.hid hC1
    have HX := Lib.hid (fun j hj => (hB1.cell (p := ⟨w.heap.size, j, none⟩) (by simp)).trans (HX4.out j hj))
    have HB1 := Lib.hid (((Below.refl w.heap.size w).alloc (Nat.le_refl _) (.cells #[.int .u8 x0, .int .u8 x1, .int .u8 x2, .int .u8 x3] 35)).trans (hB1.mono (by simp)))
    have hws : w.heap.size < w2.heap.size := by have := hB1.size; simp at this; omega
    clear hR1 hC1 hB1
    have hsl := sealOf_length xs
    rw [HN.out] at hsl
    have HSL := Lib.hid hsl
    clear hsl
    go_wp2_with (first
      | (at_builtin; refine Kd.R_append_rows (Kd.int .u8) (w0 := w2) w2.heap.size rfl (.tmp 38) (.tmp 39) 22 5 (.int .u8 0) 1 rfl Try.underlying22 info_byte rfl (by decide) (by omega) (.slice (some ⟨w2.heap.size, 0, none⟩) 0 0) [] (sealOf xs) A1 (n + 6) c1 (fun _ => True) (fun _ => False) rfl rfl (R_empty _ _ _ _ _ (Nat.le_refl _) trivial) (Kd.C_alloc HC1.out _) (fun _ _ h => h) (fun _ h => h.elim) (fun _ _ => trivial) ((Below.refl _ w2).alloc (Nat.le_refl _) _) (by simp) (by simp; omega) ?_; intro v3 w3 hR3 hB3 hgr hat2; clear hgr hat2
         rw [List.nil_append] at hR3
         obtain ⟨g, c3, rfl, _, hg1, hg2⟩ := R_at0 hR3 (by rw [HSL.out]; omega) (by decide)
         rw [HSL.out] at hR3 ⊢
         have H3 := Lib.hid hR3
         have HB3 := Lib.hid hB3
         clear hR3 hB3))
    go_loopw [12, 41] (fun _ i wq => ∃ k : Nat, k ≤ 4 ∧ i = .int .i64 k ∧ (Kd.int .u8).R 5 wq w2.heap.size (fun _ => True) (.slice (some ⟨g, 0, none⟩) (n + 6) c3) (tornN (sealOf xs) a (four x0 x1 x2 x3) k) ∧ Below w2.heap.size w2 wq) (fun _ i _ => 4 - (intOf i).toNat)
    case atStart => exact ⟨0, by omega, rfl, H3.out, HB3.out⟩
    case round =>
      obtain ⟨k, hk, rfl, hR, hb⟩ := hrel
      have HR := Lib.hid hR
      have HB := Lib.hid hb
      clear hR hb
      by_cases hlk : k < 4
      · have hki : (k : Int) < 4 := by omega
        by_cases hcond : a ≤ (sealOf xs).length ∧ a + k < (sealOf xs).length ∧ (6 ≤ a ∨ a + k < 6)
        · have hsucc : tornN (sealOf xs) a (four x0 x1 x2 x3) (k + 1) = (tornN (sealOf xs) a (four x0 x1 x2 x3) k).set (a + k) ((((tornN (sealOf xs) a (four x0 x1 x2 x3) k).getD (a + k) 0).toNat ^^^ four x0 x1 x2 x3 k : Nat) : Int) := by
            rw [tornN, if_pos hcond]
          rw [HSL.out] at hcond
          obtain ⟨hc1', hc2', hc3'⟩ := hcond
          obtain ⟨t, ht⟩ : ∃ t, t = a + k := ⟨_, rfl⟩
          have hw1 : IntKind.i64.wrap ((a : Int) + (k : Int)) = (t : Int) := by rw [IntWalk.i64_in _ (by omega)]; omega
          have hw2 : (a : Int) + (k : Int) = (t : Int) := by omega
          have ht1 : (t : Int) < (n : Int) + 6 := by omega
          have ht2 : (a : Int) ≤ (n : Int) + 6 := by omega
          have htn : t < n + 6 := by omega
          rw [← ht] at hsucc hc2' hc3'
          have hTl : (tornN (sealOf xs) a (four x0 x1 x2 x3) k).length = n + 6 := by rw [tornN_length, HSL.out]
          have hTok := tornN_ok (a := a) (sealOf_ok hx) HF.out k
          obtain ⟨m, hm, hml⟩ : ∃ m : Nat, (tornN (sealOf xs) a (four x0 x1 x2 x3) k).getD t 0 = (m : Int) ∧ m < 256 := by
            have hl : t < (tornN (sealOf xs) a (four x0 x1 x2 x3) k).length := by omega
            have h2 : (tornN (sealOf xs) a (four x0 x1 x2 x3) k).getD t 0 = (tornN (sealOf xs) a (four x0 x1 x2 x3) k)[t] := by simp [List.getD_eq_getElem?_getD, hl]
            have := hTok _ (List.getElem_mem hl)
            exact ⟨((tornN (sealOf xs) a (four x0 x1 x2 x3) k)[t]).toNat, by rw [h2]; omega, by omega⟩
          rw [hm] at hsucc
          obtain ⟨f, hfd⟩ : ∃ f, f = four x0 x1 x2 x3 k := ⟨_, rfl⟩
          have hfl : f < 256 := by rw [hfd]; exact HF.out k
          have hxc : wr.cell? ⟨w.heap.size, k, none⟩ = some (.int .u8 (f : Int)) := by rw [HB.out.cell hws, HX.out k hlk, hfd]
          have hxd : wr.drew.cell? ⟨w.heap.size, k, none⟩ = some (.int .u8 (f : Int)) := hxc
          have hxor := u8_xor_nat m f hml hfl
          obtain ⟨y, hy⟩ : ∃ y, y = m ^^^ f := ⟨_, rfl⟩
          rw [← hy] at hxor
          rw [← hfd, Int.toNat_natCast, ← hy] at hsucc
          obtain ⟨hd1, hd2, hd3⟩ := put_at (Kd.R_drew HR.out) hTl t htn (y : Int)
          rw [hm] at hd1
          have hp1 : wr.cell? ⟨g, t, none⟩ = some (.int .u8 (m : Int)) := hd1
          rw [← hsucc] at hd3
          have H4 := Lib.hid hd3
          have HBd := Lib.hid HB.out.drew
          have HYY := Lib.hid hy
          clear hsucc hd3 hTl hTok hm hfd hy ht
          by_cases h6 : (6 : Int) ≤ a
          · go_wp2_with fail
            go_region
            go_wp2_with fail
            first
              | (refine ⟨⟨k + 1, by omega, by simp, H4.out, HBd.out.setCell hg1 _⟩, loop_dec hlk⟩)
              | (go_roundw
                 case measure => exact loop_dec hlk
                 case rel => exact ⟨k + 1, by omega, by simp, H4.out, HBd.out.setCell hg1 _⟩)
          · have ht6 : (t : Int) < 6 := by omega
            go_wp2_with fail
            go_region
            go_wp2_with fail
            first
              | (refine ⟨⟨k + 1, by omega, by simp, H4.out, HBd.out.setCell hg1 _⟩, loop_dec hlk⟩)
              | (go_roundw
                 case measure => exact loop_dec hlk
                 case rel => exact ⟨k + 1, by omega, by simp, H4.out, HBd.out.setCell hg1 _⟩)
        · have hsucc : tornN (sealOf xs) a (four x0 x1 x2 x3) (k + 1) = tornN (sealOf xs) a (four x0 x1 x2 x3) k := by
            rw [tornN, if_neg hcond]
          have H4 := HR.out
          rw [← hsucc] at H4
          rw [HSL.out] at hcond
          have H4 := Lib.hid H4
          clear hsucc
          by_cases d1 : a ≤ n + 6
          · have d1i : (a : Int) ≤ (n : Int) + 6 := by omega
            obtain ⟨t, ht⟩ : ∃ t, t = a + k := ⟨_, rfl⟩
            have hw1 : IntKind.i64.wrap ((a : Int) + (k : Int)) = (t : Int) := by rw [IntWalk.i64_in _ (by omega)]; omega
            have hw2 : (a : Int) + (k : Int) = (t : Int) := by omega
            by_cases d2 : t < n + 6
            · have d2i : (t : Int) < (n : Int) + 6 := by omega
              have d3 : ¬ (6 : Int) ≤ a := by omega
              have d4 : ¬ (t : Int) < 6 := by omega
              clear ht hcond d1 d2
              go_wp2_with fail
              refine ⟨⟨k + 1, by omega, by simp, H4.out, HB.out⟩, loop_dec hlk⟩
            · have d2i : ¬ (t : Int) < (n : Int) + 6 := by omega
              clear ht hcond d1 d2
              go_wp2_with fail
              refine ⟨⟨k + 1, by omega, by simp, H4.out, HB.out⟩, loop_dec hlk⟩
          · have d1i : ¬ (a : Int) ≤ (n : Int) + 6 := by omega
            clear hcond d1
            go_wp2_with fail
            refine ⟨⟨k + 1, by omega, by simp, H4.out, HB.out⟩, loop_dec hlk⟩
      · have : k = 4 := by omega
        subst this
        have hTl : (tornN (sealOf xs) a (four x0 x1 x2 x3) 4).length = n + 6 := by rw [tornN_length, HSL.out]
        have hTok := tornN_ok (a := a) (sealOf_ok hx) HF.out 4
        have hlaw := torn_law (a := a) (x := four x0 x1 x2 x3) hx (by rw [HN.out]; omega) (by omega) HF.out
        obtain ⟨T, hT⟩ : ∃ T, T = tornN (sealOf xs) a (four x0 x1 x2 x3) 4 := ⟨_, rfl⟩
        rw [← hT] at hTl hTok hlaw
        have HRT := HR.out
        rw [← hT] at HRT
        have HRT := Lib.hid HRT
        have HLAW := Lib.hid hlaw
        have HTL := Lib.hid hTl
        clear hlaw hTl hT
        go_wp2_with fail
        refine Calls.mono (by have := next_any (some ⟨g, 0, none⟩) c3 T wr (Kd.R_reads' HRT.out).2.2 (by have := (Kd.R_reads' HRT.out).2.1; rw [HTL.out]; exact this) hTok (by rw [HTL.out]; omega); rw [HTL.out] at this; exact this) ?_
        rintro e w4 ⟨A4, n4, c4, A5, n5, c5, rfl, hR4, hR5, hB4⟩
        have HB4 := Lib.hid (HB.out.trans (hB4.mono HB.out.size))
        have HT4 := Lib.hid (Kd.C_below (Kd.R_reads' HRT.out).2.2 hB4)
        have hcg : n + 6 ≤ c3 := (Kd.R_reads' HRT.out).2.1
        clear hR4 hR5 hB4
        obtain ⟨ne, hne⟩ : ∃ ne, nextErr T = ne := ⟨_, rfl⟩
        rw [hne]
        have HNE := Lib.hid hne
        clear hne
        go_wp2_with fail
        refine Calls.mono (bytesEqual_n (some ⟨g, 0, none⟩) (n + 6) c3 T A1 (n + 6) c1 (sealOf xs) w4 HTL.out HSL.out (by have := HT4.out; rw [HTL.out] at this; exact this) hcg (Kd.C_below HC1.out HB4.out) hc1 hTok (sealOf_ok hx)) ?_
        rintro e w5 ⟨b5, rfl, HS5, hB5⟩
        have HB5 := Lib.hid (HB4.out.trans (hB5.mono HB4.out.size))
        have hb5 : b5 = decide (ne = 0) := by
          rw [HS5.out, Bool.eq_iff_iff]
          simp only [decide_eq_true_eq]
          rw [← HNE.out]
          exact HLAW.out.symm
        have HBW := Lib.hid (HB1.out.trans (HB5.out.mono (Nat.le_of_lt hws)))
        have hcase : (ne = 0 ∧ b5 = true) ∨ (¬ ne = 0 ∧ b5 = false) := by
          by_cases hz : ne = 0
          · exact Or.inl ⟨hz, by rw [hb5]; simpa using hz⟩
          · exact Or.inr ⟨hz, by rw [hb5]; simpa using hz⟩
        clear hB5 hb5
        obtain ⟨i0, hi, _, hz1, _⟩ := info_parts info_byte
        rcases hcase with ⟨hz, rfl⟩ | ⟨hz, rfl⟩
        all_goals try subst hz
        all_goals
          by_cases hcl : c < n + 6
          · have hcl2 : (c : Int) < (n : Int) + 6 := by omega
            obtain ⟨hrun, hCt⟩ := take_row (P := Try.prog) 22 5 Try.underlying22 hi c (by omega : c ≤ n + 6) hc1 (Kd.C_below HC1.out HB5.out)
            have hct : ((sealOf xs).take c).length = c := by rw [List.length_take, HSL.out]; omega
            have hcl3 := cut_law (l := xs) (c := c) (by rw [HN.out]; omega) (by rw [HN.out]; omega)
            have HCt := Lib.hid hCt
            have HCL := Lib.hid hct
            have HC3 := Lib.hid hcl3
            clear hCt hz1 hct hcl3
            go_wp2_with fail
            refine Calls.mono (by have := next_any A1 c1 ((sealOf xs).take c) w5 (by rw [HCL.out]; exact HCt.out) (by rw [HCL.out]; omega) (fun z hz => sealOf_ok hx z (List.mem_of_mem_take hz)) (by rw [HCL.out]; omega); rw [HCL.out] at this; exact this) ?_
            rintro e w6 ⟨A6, n6, c6, A7, n7, c7, rfl, hR6, hR7, hB6⟩
            rw [HC3.out]
            have HB6 := Lib.hid (HBW.out.trans (hB6.mono HBW.out.size))
            clear hR6 hR7 hB6
            go_wp2_with fail
            refine Calls.mono (awake_any _) ?_
            rintro e w8 ⟨rfl, hB8⟩
            have HB8 := Lib.hid (HB6.out.trans (hB8.mono HB6.out.size))
            clear hB8
            go_wp2_with fail
            go_ret
            exact ⟨rfl, HB8.out⟩
          · have hcl2 : ¬ (c : Int) < (n : Int) + 6 := by omega
            go_wp2_with fail
            refine Calls.mono (awake_any _) ?_
            rintro e w8 ⟨rfl, hB8⟩
            have HB8 := Lib.hid (HBW.out.trans (hB8.mono HBW.out.size))
            clear hB8
            go_wp2_with fail
            go_ret
            exact ⟨rfl, HB8.out⟩
end Go.Proofs.Ytafkcjegahnolaa
