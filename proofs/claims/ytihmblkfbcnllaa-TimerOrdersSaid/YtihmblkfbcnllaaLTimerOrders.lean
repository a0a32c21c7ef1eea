/- The statement TimerOrders of layer 5: every call of it tells true and leaves what was there as it was. -/
import Derived.Test.YtihmblkfbcnllaaTmT3
import Derived.Test.YtihmblkfbcnllaaOpen
import Derived.Deep.QuietTactic
import Derived.BigQuiet
namespace Go.Proofs.Ytihmblkfbcnllaa
open Go.RowKit Go.Proofs.YtihmblkfbcnllaaW.PrintWords

theorem T3_new (w0 w : World) (ta tb mb : Nat) (okA okB : Nat → Prop) (h1 : TmAt w okA ta []) (h2 : TmAt w okB tb []) (h3 : ∀ k, okA k → w0.heap.size ≤ k ∧ ¬ okB k ∧ k ≠ mb) (h4 : ∀ k, okB k → w0.heap.size ≤ k ∧ k ≠ mb) (h5 : MapAt KI Value.bool w mb []) (h6 : w0.heap.size ≤ mb) (h7 : Below w0.heap.size w0 w) : T3 w0 w ta tb mb [] [] [] := ⟨⟨okA, okB, h1, h2, h3, h4⟩, h5, h6, h7⟩
theorem rev_take {n k : Nat} {xs : List It} (hn : xs.length = n) (hk : k < n) {x : It} (hx : xs[n - 1 - k]? = some x) : xs.reverse.take (k + 1) = xs.reverse.take k ++ [x] := by
  rw [List.take_add_one, List.getElem?_reverse (by omega), hn, hx]
  rfl

set_option maxHeartbeats 1600000 in
set_option maxRecDepth 100000 in
theorem orders_law (A : Option Addr) (n cap : Nat) (xs : List It) (w : World) (hC : KIt.C w A n xs) (hc : n ≤ cap) (ho : ∀ x ∈ xs, (Lit.int .i64 x.1).wf = true ∧ (Lit.int .i64 x.2).wf = true) :
    Calls Try.prog 6 #[.slice A n cap] w fun e w' => e = .returned (.bool true) ∧ Below w.heap.size w w' := by
  have HN := Lib.hid (Kd.C_len hC)
  have HC := Lib.hid hC
  have HO := Lib.hid ho
  have hm1 := Kd.C_max hC
  clear hC ho
  by_cases h80 : 80 < n
  · have h80i : (80 : Int) < n := by omega
    go_enter Try.func6, Try.ntmps6
    go_wp2_with (go_at_call 9; refine Calls.mono (awake_any _) ?_; rintro e w1 ⟨rfl, hB⟩)
    go_ret
    exact ⟨rfl, hB⟩
  · have h80i : ¬ (80 : Int) < n := by omega
    have hn80 : n ≤ 80 := by omega
    have hmm := @run_makeMap Try.prog
    go_enter Try.func6, Try.ntmps6
    go_wp2_with fail
    refine Calls.mono (timerNew_any w) ?_
    rintro e w1 ⟨rfl, hA1, hB1⟩
    generalize w.heap.size + 1 = ta at *
    have HA1 := Lib.hid hA1
    have HB1 := Lib.hid hB1
    clear hA1 hB1
    go_wp2_with fail
    refine Calls.mono (timerNew_any w1) ?_
    rintro e w2 ⟨rfl, hA2, hB2⟩
    generalize w1.heap.size + 1 = tb at *
    have h21 := hB2.size
    have h10 := HB1.out.size
    have hBm : Below w2.heap.size w2 (w2.alloc (.map #[] 0)) := below_alloc (Below.refl _ _) _
    have HT := Lib.hid (T3_new w (w2.alloc (.map #[] 0)) ta tb w2.heap.size (fun k => w.heap.size ≤ k ∧ k < w1.heap.size) (fun k => w1.heap.size ≤ k ∧ k < w2.heap.size)
      (((HA1.out.mono (fun k hk hl => ⟨hk, hl⟩)).below hB2).below hBm) ((hA2.mono (fun k hk hl => ⟨hk, hl⟩)).below hBm) (fun k hk => ⟨hk.1, by omega, by omega⟩) (fun k hk => ⟨by omega, by omega⟩)
      (MapAt.made KI Value.bool w2) (by omega) ((HB1.out.trans (hB2.mono h10)).trans (hBm.mono (by omega))))
    clear hA2 hB2 hBm h21 h10
    go_wp2_with fail
    generalize w2.alloc (.map #[] 0) = w3 at *
    generalize w2.heap.size = mb at *
    go_loopw [27] (fun i wr => ∃ (k : Nat) (ps : List (Int × Bool)), i = .int .i64 k ∧ k ≤ n ∧ Hid (((xs.take k).map (·.1)).Nodup) ∧ T3 w wr ta tb mb (tAll (xs.take k)) (tAll (xs.reverse.take k)) ps ∧ Hid (SeenIs ps (xs.take k)) ∧ ps.length ≤ k) (fun i _ => n - (intOf i).toNat)
    case atStart => exact ⟨0, [], rfl, Nat.zero_le _, Lib.hid (by simp), HT.out, Lib.hid (fun id => rfl), Nat.le_refl _⟩
    case round =>
      obtain ⟨k, ps, rfl, hk, hnd, hT, hse, hpl⟩ := hrel
      have HT3 := Lib.hid hT
      have hla := tAll_len (xs.take k)
      have hlb := tAll_len (xs.reverse.take k)
      rw [List.length_take] at hla hlb
      have hla2 : (tAll (xs.take k)).length ≤ 80 := by omega
      have hlb2 : (tAll (xs.reverse.take k)).length ≤ 80 := by omega
      clear hT hla hlb
      by_cases hlt : k < n
      · obtain ⟨ad, x, rfl, hx, hf0, hf1⟩ := C_nth_it (Kd.C_below HC.out HT3.out.belowW) k hlt
        have hwo := (HO.out _ (List.mem_of_getElem? hx)).1
        have HTK := Lib.hid (show xs.take (k + 1) = xs.take k ++ [x] by rw [List.take_add_one, hx]; rfl)
        have i0 : (0 : Int) ≤ (k : Int) := by omega
        have i1 : (k : Int) < (n : Int) := by omega
        have hT1 := HT3.out.below (below_alloc (Below.refl _ _) (.cells #[.int .i64 x.1, .int .i64 x.2] 37))
        have hb := heap_alloc_new wr (.cells #[.int .i64 x.1, .int .i64 x.2] 37)
        have hlk : (Instr.lookup 46 (.map (some mb)) (.int .i64 x.1) false).run Try.prog (wr.alloc (.cells #[.int .i64 x.1, .int .i64 x.2] 37)) = .ok (((mget ps x.1).map Value.bool).getD (.bool false)) (wr.alloc (.cells #[.int .i64 x.1, .int .i64 x.2] 37)) := hT1.map.look1 under_seen (zero_bool _) (a := x.1) hwo
        rw [hse.out x.1] at hlk
        have hbl : wr.heap.size < (wr.alloc (.cells #[.int .i64 x.1, .int .i64 x.2] 37)).heap.size := by simp
        have HT1 := Lib.hid hT1
        have HB := Lib.hid hb
        clear hT1 hb hx
        by_cases hin : x.1 ∈ (xs.take k).map (·.1)
        · rw [if_pos hin] at hlk
          simp only [Option.map_some, Option.getD_some] at hlk
          clear hin
          go_wp2_with (go_at_call 9; refine Calls.mono (awake_any _) ?_; rintro e w1 ⟨rfl, hB⟩)
          go_ret
          exact ⟨rfl, HT1.out.belowW.trans (hB.mono HT1.out.belowW.size)⟩
        · rw [if_neg hin] at hlk
          simp only [Option.map_none, Option.getD_none] at hlk
          have HIN := Lib.hid hin
          clear hin
          obtain ⟨j, hj⟩ : ∃ j : Nat, n - 1 - k = j := ⟨_, rfl⟩
          go_wp2_with (at_mapUpdate; refine wpList_put_at (K := KI) (enc := Value.bool) HT1.out.map rfl (.tmp 37) (.tmp 39) (.const (.bool true)) 46 4 rfl under_seen (by simp [maxLen]; omega) rfl x.1 true rfl rfl hwo ?_; intro w4 hM4 hB4; have hb4 := hB4.blk HB.out (Ne.symm (HT1.out.map.ne_cells HB.out)); have b1 := blk_cell hb4 0; have b2 := blk_cell hb4 1; simp only [List.getElem?_toArray, List.getElem?_cons_succ, List.getElem?_cons_zero] at b1 b2)
          have hpl2 : (mput ps x.1 true).length ≤ k + 1 := by
            rw [mput_length HT1.out.map.nodup, hse.out x.1, if_neg HIN.out]
            simp
            omega
          have HT4 := Lib.hid (HT1.out.put hM4 hB4)
          clear hM4 hB4 hb4
          refine Calls.mono (HT4.out.setA x.1 x.2 hwo (by omega)) ?_
          rintro e w5 ⟨rfl, hT5⟩
          obtain ⟨ad2, y, had, hy, d0, d1⟩ := C_nth_it (Kd.C_below HC.out hT5.belowW) j (by omega)
          injection had with had
          subst had
          have hwy := (HO.out _ (List.mem_of_getElem? hy)).1
          have hji : (n : Int) - 1 - (k : Int) = (j : Int) := by omega
          have hj0 : (0 : Int) ≤ (j : Int) := by omega
          have hj1 : (j : Int) < (n : Int) := by omega
          have HRT := Lib.hid (rev_take HN.out hlt (x := y) (by rw [hj]; exact hy))
          have HT5 := Lib.hid hT5
          clear hT5 hy hj b1 b2
          go_wp2_with fail
          refine Calls.mono ((HT5.out.below (below_alloc (Below.refl _ _) _)).setB y.1 y.2 hwy (by omega)) ?_
          rintro e w6 ⟨rfl, hT6⟩
          have HT6 := Lib.hid hT6
          clear hT6
          go_wp2_with fail
          refine ⟨⟨k + 1, mput ps x.1 true, by simp, by omega, Lib.hid ?_, by rw [HTK.out, HRT.out, tAll_snoc, tAll_snoc]; exact HT6.out, Lib.hid (by rw [HTK.out]; exact hse.out.snoc x), hpl2⟩, ?_⟩
          · rw [HTK.out, List.map_append, List.nodup_append]
            refine ⟨hnd.out, by simp, fun a ha b hb e => ?_⟩
            have hb' : b = x.1 := by simpa using hb
            exact HIN.out (by rw [← hb', ← e]; exact ha)
          · simp [intOf]
            omega
      · have hkn : k = n := by omega
        subst hkn
        have htk : xs.take k = xs := List.take_of_length_le (by rw [HN.out]; exact Nat.le_refl _)
        have hrt : xs.reverse.take k = xs.reverse := List.take_of_length_le (by rw [List.length_reverse, HN.out]; exact Nat.le_refl _)
        rw [htk] at hnd
        have hT3 := HT3.out
        rw [htk, hrt, tAll_rev hnd.out] at hT3
        have hperm := tAll_perm xs hnd.out
        have hmax := tDue_every (s := tAll xs) (now := 9223372036854775807) (fun p hp => (bounds_i64 (HO.out p (hperm.mem_iff.1 hp)).2).2)
        have hlen := hperm.length_eq
        rw [HN.out] at hlen
        generalize tAll xs = s at *
        have HT7 := Lib.hid hT3
        have HLEN := Lib.hid hlen
        have HMAX := Lib.hid hmax
        clear hT3 hperm hlen hmax htk hrt
        go_wp2_with fail
        refine Calls.mono (HT7.out.all (by rw [HLEN.out]; omega)) ?_
        rintro e w7 ⟨A7, c7, rfl, hR7, hB7⟩
        have HR7 := Lib.hid hR7
        have HB7 := Lib.hid hB7
        clear hR7 hB7
        go_wp2_with fail
        refine Calls.mono (T3.due 9223372036854775807 (by rw [HLEN.out]; omega) HR7.out ⟨wr, HT7.out, HB7.out, Nat.le_refl _⟩) ?_
        rintro e w8 ⟨v8, rfl, hR8, hC7, hB8, okB, hTb⟩
        rw [HMAX.out, List.take_length] at hR8
        rw [HMAX.out, List.drop_length] at hTb
        obtain ⟨A8, c8, hv8⟩ := Kd.R_slice hR8
        subst hv8
        have hC8 := (Kd.R_reads' hR8).2.2
        rw [HLEN.out] at hC7 hC8 ⊢
        have HC7 := Lib.hid hC7
        have HC8 := Lib.hid hC8
        have HB8 := Lib.hid hB8
        have HTB := Lib.hid hTb
        have hnn : ((k : Int) != (k : Int)) = false := by simp
        clear hC7 hC8 hR8 hB8 hTb
        go_wp2_with fail
        go_loopw [79] (fun i wq => ∃ j : Nat, i = .int .i64 j ∧ j ≤ k ∧ Below w8.heap.size w8 wq) (fun i _ => k - (intOf i).toNat)
        case atStart => exact ⟨0, rfl, Nat.zero_le _, Below.refl _ _⟩
        case round =>
          obtain ⟨j, rfl, hj, hB⟩ := hrel
          have HB := Lib.hid hB
          clear hB
          by_cases hjl : j < k
          · obtain ⟨ad, x, rfl, hx, d0, d1⟩ := C_nth_it (Kd.C_below HC7.out HB.out) j hjl
            obtain ⟨ad2, y, rfl, hy, f0, f1⟩ := C_nth_it (Kd.C_below HC8.out HB.out) j hjl
            obtain rfl : y = x := Option.some.inj (hy.symm.trans hx)
            have i0 : (0 : Int) ≤ (j : Int) := by omega
            have i1 : (j : Int) < (k : Int) := by omega
            have hxa : (y.1 == y.1) = true := by simp
            have hxb : (y.2 == y.2) = true := by simp
            clear hx hy
            go_wp2_with fail
            go_quiet (fail)
            go_wp2_with fail
            refine ⟨⟨j + 1, by simp, by omega, HB.out.trans ((pw_below_drewN (Below.refl _ _) _).mono HB.out.size)⟩, ?_⟩
            simp [intOf]
            omega
          · have hjn : j = k := by omega
            subst hjn
            have h00 : ((([] : List It).length : Nat) : Int) = 0 := rfl
            go_wp2_with (first | (go_at_call 19; refine Calls.mono (timerLen_any _ okB tb [] (HTB.out.below HB.out)) ?_; rintro e w9 ⟨rfl, rfl⟩; rw [h00]) | (go_at_call 9; refine Calls.mono (awake_any _) ?_; rintro e w10 ⟨rfl, hB10⟩))
            go_ret
            exact ⟨rfl, (HB8.out.trans (HB.out.mono HB8.out.size)).trans (hB10.mono (HB8.out.trans (HB.out.mono HB8.out.size)).size)⟩
end Go.Proofs.Ytihmblkfbcnllaa
