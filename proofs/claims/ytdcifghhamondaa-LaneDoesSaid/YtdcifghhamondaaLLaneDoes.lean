/- The statement LaneDoes of layer 6: every call of it tells true and leaves what was there as it was. -/
import Derived.Test.YtdcifghhamondaaLnOps
import Derived.Deep.RegionHeld3
import Derived.Deep.DeepCutAuto
namespace Go.Proofs.Ytdcifghhamondaa
open Go.RowKit Go.Proofs.YtdcifghhamondaaW.PrintWords

theorem th_ids (s : List En) : (th s).map (·.2) = s.map (·.1) := by unfold th; rw [List.map_map]; rfl
theorem hasEn_len (s : List En) (id : Int) : hasEn s id = decide ((thDrop (th s) id).length < (th s).length) := by
  have h : (thDrop (th s) id).length < (th s).length ↔ ∃ p ∈ th s, p.2 = id := by
    unfold thDrop
    rw [List.length_filter_lt_length_iff_exists]
    simp
  rw [← th_has]
  unfold thHas
  by_cases hx : ∃ p ∈ th s, p.2 = id
  · rw [decide_eq_true (h.2 hx), List.any_eq_true]
    obtain ⟨p, hp, e⟩ := hx
    exact ⟨p, hp, by simp [e]⟩
  · rw [decide_eq_false (fun hh => hx (h.1 hh)), List.any_eq_false]
    intro p hp e
    exact hx ⟨p, hp, by simpa using e⟩

set_option maxHeartbeats 3200000 in
set_option maxRecDepth 100000 in
theorem does_law (A : Option Addr) (n cap : Nat) (ops : List Op) (w : World) (hC : KOp.C w A n ops) (hc : n ≤ cap) (ho : ∀ x ∈ ops, (Lit.int .i64 x.1).wf = true ∧ (Lit.int .i64 x.2.1).wf = true ∧ x.2.2.size ≤ maxLen) :
    Calls Try.prog 6 #[.slice A n cap] w fun e w' => e = .returned (.bool true) ∧ Below w.heap.size w w' := by
  have HC := Lib.hid hC
  have HO := Lib.hid ho
  have hm1 := Kd.C_max hC
  clear hC ho
  by_cases h60 : 60 < n
  · have h60i : (60 : Int) < n := by omega
    go_enter Try.func6, Try.ntmps6
    go_wp2_with (go_at_call 8; refine Calls.mono (awake_any _) ?_; rintro e w1 ⟨rfl, hB⟩)
    go_ret
    exact ⟨rfl, hB⟩
  · have h60i : ¬ (60 : Int) < n := by omega
    have HW1 := Lib.hid (show (Lit.int .i64 1000).wf = true from by decide)
    go_enter Try.func6, Try.ntmps6
    go_wp2_with fail
    refine Calls.mono (Hp.lnNew (Hp.nil w)) ?_
    rintro e w1 ⟨rfl, hP1⟩
    generalize w.heap.size + 2 = lb0 at *
    have HP1 := Lib.hid hP1.thNil
    clear hP1
    go_wp2_with fail
    go_loopw [3, 4, 24] (fun p v i wr => ∃ (k lb T : Nat) (s : List En), i = .int .i64 k ∧ p = .pointer (some ⟨lb, 0, none⟩) ∧ k ≤ n ∧ Hp w wr [ATh v (th s), ALn lb s T] ∧ s.length ≤ k ∧ T ≤ k) (fun _ _ i _ => n - (intOf i).toNat)
    case atStart => exact ⟨0, lb0, 0, [], rfl, rfl, Nat.zero_le _, HP1.out, Nat.le_refl _, Nat.le_refl _⟩
    case round =>
      obtain ⟨k, lb, T, s, rfl, rfl, hk, hP, hsl, hTk⟩ := hrel
      have HP := Lib.hid hP
      clear hP
      have hthl : (th s).length ≤ k := by rw [th_len s]; exact hsl
      by_cases hlt : k < n
      · obtain ⟨ad, kind, oid, og, rfl, hx, hf0, hf1, hf2⟩ := C_nth_op (Kd.C_below HC.out HP.out.belowW) k hlt
        obtain ⟨_, hwo, hgo⟩ := HO.out _ (List.mem_of_getElem? hx)
        have i0 : (0 : Int) ≤ (k : Int) := by omega
        have i1 : (k : Int) < (n : Int) := by omega
        clear hx
        obtain ⟨Ar, cr, rfl, hcr, hCr⟩ := HP.out.thRow
        clear hCr
        have hbl : wr.heap.size < (wr.alloc (.cells #[.int .i64 kind, .int .i64 oid, .string og] 28)).heap.size := by simp
        by_cases hog : 20 < og.size
        · have hog' : (20 : Int) < og.size := by omega
          have HBW := Lib.hid (HP.out.alloc (.cells #[.int .i64 kind, .int .i64 oid, .string og] 28)).belowW
          go_wp2_with (go_at_call 8; refine Calls.mono (awake_any _) ?_; rintro e w1 ⟨rfl, hB⟩)
          go_ret
          exact ⟨rfl, HBW.out.trans (hB.mono HBW.out.size)⟩
        have hog' : ¬ (20 : Int) < og.size := by omega
        have hcase : kind = 0 ∨ (kind = 1 ∨ (kind ≠ 0 ∧ kind ≠ 1)) := by omega
        rcases hcase with hkd | (hkd | hkd)
        case' inl =>
          have hk0 : (kind == 0) = true := by simp [hkd]
          clear hkd
          go_wp2_with fail
          refine Calls.mono ((HP.out.alloc _).swap.refAdd og oid (by omega)) ?_
          rintro e w2 ⟨A3, c3, rfl, hT2⟩
          rw [th_has]
          obtain ⟨bb, hbb⟩ : ∃ bb, bb = !hasEn s oid := ⟨_, rfl⟩
          rw [← hbb]
          have hqq : (bb != bb) = false := by simp
          have HBB := Lib.hid hbb
          have b1 := blk_cell hT2.blk1 1
          have b2 := blk_cell hT2.blk1 2
          simp only [List.getElem?_toArray, List.getElem?_cons_succ, List.getElem?_cons_zero] at b1 b2
          have HT2 := Lib.hid hT2.up2
          have hl3 : (thAdd (th s) og oid).length ≤ k + 1 := by
            rw [← th_add s og oid 0, th_len]
            have := lAdd_len s og oid 0
            omega
          have HTA := Lib.hid (fun t => th_add s og oid t)
          clear hT2 hbb
          generalize thAdd (th s) og oid = r3 at *
          go_wp2_with fail
          refine Calls.mono (HT2.out.lnAdd og oid hwo hgo (by omega)) ?_
          rintro e w3 ⟨rfl, t, hT3⟩
          rw [← HBB.out]
          have hr3 := HTA.out t
          have hs3 := lAdd_len s og oid t
          generalize lAdd s og oid t = s3 at *
          subst hr3
          have HT3 := Lib.hid hT3.swap
          obtain ⟨T3, hT3'⟩ : ∃ T3, T3 = T + 1 := ⟨_, rfl⟩
          rw [← hT3'] at HT3
          have hT3k : T3 ≤ k + 1 := by omega
          have hs3k : s3.length ≤ k + 1 := by omega
          clear hT3 hT3' hs3 b1 b2
          obtain ⟨lb3, hlb3⟩ : ∃ lb3, lb3 = lb := ⟨_, rfl⟩
          subst hlb3
        case' inr.inl =>
          have hk0 : (kind == 0) = false := by simp [hkd]
          have hk1 : (kind == 1) = true := by simp [hkd]
          clear hkd
          go_wp2_with fail
          refine Calls.mono ((HP.out.alloc _).swap.refDrop oid (by omega)) ?_
          rintro e w2 ⟨A3, c3, rfl, hT2⟩
          rw [← hasEn_len s oid]
          obtain ⟨bb, hbb⟩ : ∃ bb, bb = hasEn s oid := ⟨_, rfl⟩
          rw [← hbb]
          have hqq : (bb != bb) = false := by simp
          have HBB := Lib.hid hbb
          have b1 := blk_cell hT2.blk1 1
          simp only [List.getElem?_toArray, List.getElem?_cons_succ, List.getElem?_cons_zero] at b1
          rw [← th_drop] at hT2 ⊢
          have hs3 := lDrop_len s oid
          have HT2 := Lib.hid hT2.up2
          clear hT2 hbb
          go_wp2_with fail
          refine Calls.mono (HT2.out.lnDrop oid hwo (by omega)) ?_
          rintro e w3 ⟨rfl, hT3⟩
          rw [← HBB.out]
          generalize lDrop s oid = s3 at *
          have HT3 := Lib.hid hT3.swap
          obtain ⟨T3, hT3'⟩ : ∃ T3, T3 = T := ⟨_, rfl⟩
          rw [← hT3'] at HT3
          have hT3k : T3 ≤ k + 1 := by omega
          have hs3k : s3.length ≤ k + 1 := by omega
          clear hT3 hT3' hs3 b1
          obtain ⟨lb3, hlb3⟩ : ∃ lb3, lb3 = lb := ⟨_, rfl⟩
          subst hlb3
        case' inr.inr =>
          have hk0 : (kind == 0) = false := by simp [hkd.1]
          have hk1 : (kind == 1) = false := by simp [hkd.2]
          clear hkd
          go_wp2_with fail
          refine Calls.mono ((HP.out.alloc _).up2.lnCopy (by omega)) ?_
          rintro e w2 ⟨lb3, rfl, hT2⟩
          have b2 := blk_cell hT2.blk2 2
          simp only [List.getElem?_toArray, List.getElem?_cons_succ, List.getElem?_cons_zero] at b2
          have HT2 := Lib.hid hT2.swap
          clear hT2
          go_wp2_with fail
          refine Calls.mono (HT2.out.lnAdd og 1000 HW1.out hgo (by omega)) ?_
          rintro e w4 ⟨rfl, t, hT4⟩
          have b1 := blk_cell hT4.blk2 1
          simp only [List.getElem?_toArray, List.getElem?_cons_succ, List.getElem?_cons_zero] at b1
          have HT4 := Lib.hid hT4
          clear hT4 b2
          go_wp2_with fail
          refine Calls.mono (HT4.out.lnDrop oid hwo (by omega)) ?_
          rintro e w3 ⟨rfl, hT3⟩
          have HT3 := Lib.hid hT3.tail.up2
          obtain ⟨s3, hs3⟩ : ∃ s3, s3 = s := ⟨_, rfl⟩
          subst hs3
          obtain ⟨T3, hT3'⟩ : ∃ T3, T3 = T := ⟨_, rfl⟩
          rw [← hT3'] at HT3
          have hT3k : T3 ≤ k + 1 := by omega
          have hs3k : s3.length ≤ k + 1 := by omega
          obtain ⟨A3, hA3⟩ : ∃ A3, A3 = Ar := ⟨_, rfl⟩
          obtain ⟨c3, hc3⟩ : ∃ c3, c3 = cr := ⟨_, rfl⟩
          subst hA3 hc3
          clear hT3 hT3' b1
        all_goals
          have hth3 : (th s3).length ≤ k + 1 := by rw [th_len]; exact hs3k
          have hth3s : s3.length = (th s3).length := (th_len s3).symm
          have HTHS := Lib.hid hth3s
          clear hth3s hbl
          generalize wr.heap.size = ob at HT3 ⊢
          go_wp2_with fail
          go_loopw [12, 86] (fun v i wq => ∃ j : Nat, i = .int .i64 j ∧ j ≤ (th s3).length ∧ Hp w wq [ARow (Kd.int .i64) 3 v (((th s3).take j).map (·.2)), ATh (.slice A3 (th s3).length c3) (th s3), ALn lb3 s3 T3, ABlk ob (.cells #[.int .i64 kind, .int .i64 oid, .string og] 28)]) (fun _ i _ => (th s3).length - (intOf i).toNat)
          case atStart => exact ⟨0, rfl, Nat.zero_le _, HT3.out.fresh (Below.refl _ _) (Kd.R_nil _ _ _ _ _)⟩
          case round =>
            obtain ⟨j, rfl, hj, hQ⟩ := hrel
            have HQ := Lib.hid hQ
            clear hQ
            by_cases hlt2 : j < (th s3).length
            · obtain ⟨Az, cz, hvz, _, hCz⟩ := HQ.out.tail.thRow
              injection hvz with hz1 hz2 hz3
              subst hz1 hz3
              obtain ⟨ad2, x, rfl, hx, d0, d1⟩ := C_nth_th hCz j hlt2
              have j0 : (0 : Int) ≤ (j : Int) := by omega
              have j1 : (j : Int) < ((th s3).length : Int) := by omega
              have HTK := Lib.hid (show ((th s3).take (j + 1)).map (·.2) = ((th s3).take j).map (·.2) ++ [x.2] by rw [List.take_add_one, hx, List.map_append]; rfl)
              have htkl : (((th s3).take j).map (·.2)).length ≤ 1000 := by rw [List.length_map, List.length_take]; omega
              have hQ1 := (HQ.out.alloc (.cells #[.string x.1, .int .i64 x.2] 38)).tail
              obtain ⟨okr, hR1, hR2, hR3⟩ := hQ1.appended
              have HR1 := Lib.hid hR1
              have HR2 := Lib.hid hR2
              have HR3 := Lib.hid hR3
              have hbl : wr.heap.size < (wr.alloc (.cells #[.string x.1, .int .i64 x.2] 38)).heap.size := by simp
              have HSZ := Lib.hid (show wr.heap.size + 1 = (wr.alloc (.cells #[.string x.1, .int .i64 x.2] 38)).heap.size by simp)
              clear hCz hx hz2 hQ1 hR1 hR2 hR3
              go_wp2_with (at_builtin; refine Kd.R_append (Kd.int .i64) (w0 := wr.alloc (.cells #[.string x.1, .int .i64 x.2] 38)) 0 rfl (.tmp 90) (.tmp 93) 41 3 (.int .i64 0) 8 rfl Try.underlying41 info_int rfl (by decide) (by omega) u12 (((th s3).take j).map (·.2)) x.2 [.int .i64 x.2] okr (fun _ => False) rfl (congrArg (fun z => Value.slice (some ⟨z, 0, none⟩) 1 1) HSZ.out) rfl (fun _ hk => hk.elim) HR2.out HR1.out (Below.refl _ _) (Nat.zero_le _) (by omega) ?_; intro v5 w5 hR5 hB5 hg5 _)
              have HP5 := Lib.hid (HR3.out _ _ _ hR5 hg5)
              clear hR5 hB5 hg5
              go_roundw
              case measure =>
                simp [intOf]
                omega
              case rel =>
                refine ⟨j + 1, by simp, by omega, ?_⟩
                rw [HTK.out]
                exact HP5.out
            · have hjm : j = (th s3).length := by omega
              have htk : ((th s3).take j).map (·.2) = s3.map (·.1) := by rw [List.take_of_length_le (by omega), th_ids]
              rw [htk] at HQ
              have HJ := Lib.hid hjm
              have hjd : decide ((j : Int) < ((th s3).length : Int)) = false := by simp; omega
              have hjn : ¬ (j : Int) < ((th s3).length : Int) := by omega
              clear hjm htk
              obtain ⟨Av, cv, rfl⟩ := Kd.R_slice HQ.out.head
              rw [List.length_map] at HQ
              have hd1 := (HQ.out.below (below_drew (Below.refl _ _))).up2
              have HD1 := Lib.hid hd1
              have x0 := blk_cell HQ.out.tail.tail.tail.blk0 2
              simp only [List.getElem?_toArray, List.getElem?_cons_succ, List.getElem?_cons_zero] at x0
              have hlq : ((s3.length : Int) != ((th s3).length : Int)) = false := by rw [th_len]; simp
              have HTH := Lib.hid (th_heads HD1.out.lnIds)
              have HOF := Lib.hid (th_of s3 og)
              have hT1k : T3 ≤ 1000000 := by omega
              have hr1k : (th s3).length ≤ 100000 := by omega
              clear hd1
              go_wp2_with fail
              go_region_held3 (fun w' => w'.cell? ⟨ob, 2, none⟩ = some (.string og)) (first | exact x0 | exact x5 | exact x6 | exact x7 | exact x8 | exact x9 | exact x10 | exact x11 | exact x12)
                (first
                  | (go_at_call 18; refine Calls.mono HD1.out.lnLenC ?_; rintro e w4 ⟨rfl, rfl⟩)
                  | (go_at_call 19; refine Calls.mono (HD1.out.lnAll hT1k) ?_; rintro e w5 ⟨A5, c5, rfl, hT5⟩; have x5 := blk_cell hT5.tail.tail.tail.tail.blk0 2; simp only [List.getElem?_toArray, List.getElem?_cons_succ, List.getElem?_cons_zero] at x5)
                  | (go_at_call 21; refine Calls.mono (hT6.tail.lnHeads hT1k) ?_; rintro e w7 ⟨A7, c7, rfl, hT7⟩; have x7 := blk_cell hT7.tail.tail.tail.tail.blk0 2; simp only [List.getElem?_toArray, List.getElem?_cons_succ, List.getElem?_cons_zero] at x7)
                  | (go_at_call 24; refine Calls.mono (hT7.up3.refHeads hr1k) ?_; rintro e w8 ⟨A8, c8, rfl, hT8⟩; rw [HTH.out, List.length_map] at hT8 ⊢; have x8 := blk_cell hT8.tail.tail.tail.tail.tail.blk0 2; simp only [List.getElem?_toArray, List.getElem?_cons_succ, List.getElem?_cons_zero] at x8)
                  | (go_at_call 20; refine Calls.mono (hT9.tail.up2.lnOf og hgo hT1k) ?_; rintro e w10 ⟨A10, c10, rfl, hT10⟩; have x10 := blk_cell hT10.tail.tail.tail.tail.tail.blk0 2; simp only [List.getElem?_toArray, List.getElem?_cons_succ, List.getElem?_cons_zero] at x10)
                  | (go_at_call 17; refine Calls.mono (hT10.up2.refOf og hr1k) ?_; rintro e w11 ⟨A11, c11, rfl, hT11⟩; rw [HOF.out] at hT11 ⊢; have x11 := blk_cell hT11.tail.tail.tail.tail.tail.tail.blk0 2; simp only [List.getElem?_toArray, List.getElem?_cons_succ, List.getElem?_cons_zero] at x11)
                  | (go_at_call 23; refine Calls.mono (hT11.sameI (List.mem_cons_of_mem _ (List.mem_cons_of_mem _ (List.mem_cons_self ..))) (List.mem_cons_self ..)) ?_; rintro e w12 ⟨rfl, hT12⟩; have x12 := blk_cell hT12.tail.tail.tail.tail.tail.tail.blk0 2; simp only [List.getElem?_toArray, List.getElem?_cons_succ, List.getElem?_cons_zero] at x12)
                  | (go_at_call 23; refine Calls.mono (hT8.sameI (List.mem_cons_of_mem _ (List.mem_cons_of_mem _ (List.mem_cons_self ..))) (List.mem_cons_self ..)) ?_; rintro e w9 ⟨rfl, hT9⟩; have x9 := blk_cell hT9.tail.tail.tail.tail.tail.blk0 2; simp only [List.getElem?_toArray, List.getElem?_cons_succ, List.getElem?_cons_zero] at x9)
                  | (go_at_call 23; refine Calls.mono (hT5.sameI (List.mem_cons_self ..) (List.mem_cons_of_mem _ (List.mem_cons_of_mem _ (List.mem_cons_self ..)))) ?_; rintro e w6 ⟨rfl, hT6⟩; have x6 := blk_cell hT6.tail.tail.tail.tail.blk0 2; simp only [List.getElem?_toArray, List.getElem?_cons_succ, List.getElem?_cons_zero] at x6))
              all_goals
                have HT12 := Lib.hid (hT12.tail.drop1.only2)
                clear hT5 hT6 hT7 hT8 hT9 hT10 hT11 hT12
                go_wp2_with fail
                refine ⟨⟨k + 1, lb3, T3, s3, by simp, rfl, by omega, HT12.out, hs3k, hT3k⟩, ?_⟩
                simp [intOf]
                omega
      · have hkn : k = n := by omega
        subst hkn
        go_wp2_with (go_at_call 8; refine Calls.mono (awake_any _) ?_; rintro e w1 ⟨rfl, hB⟩)
        go_ret
        exact ⟨rfl, HP.out.belowW.trans (hB.mono HP.out.belowW.size)⟩
end Go.Proofs.Ytdcifghhamondaa
