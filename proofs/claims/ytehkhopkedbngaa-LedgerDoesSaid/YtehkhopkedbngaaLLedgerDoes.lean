/- The statement LedgerDoes of layer 7: every call of it tells true and leaves what was there as it was. -/
import Derived.Test.YtehkhopkedbngaaLdOps
import Derived.Test.YtehkhopkedbngaaLdRefPut
import Derived.Test.YtehkhopkedbngaaLdRefSweep
namespace Go.Proofs.Ytehkhopkedbngaa
open Go.RowKit Go.Proofs.YtehkhopkedbngaaW.PrintWords

theorem get_of {r : List (Ent Int)} (h : Rising r) {p : Ent Int} (hp : p ∈ r) : ldIGet r p.1 = (p.2, true) := by
  unfold ldIGet
  rw [mget_mem h.keys hp]

set_option maxHeartbeats 1600000 in
set_option maxRecDepth 100000 in
theorem Hp.sameL {w0 w : World} {lb : Nat} {rm : Int} {r : List (Ent Int)} {A : Option Addr} {cap : Nat} {Ps : List Asn} (h : Hp w0 w (ALdI lb rm r :: AEn (.slice A r.length cap) r :: Ps)) (hl : r.length ≤ 10000) :
    Calls Try.prog 28 #[.pointer (some ⟨lb, 0, none⟩), .slice A r.length cap] w fun e w' => e = .returned (.bool true) ∧ Hp w0 w' (ALdI lb rm r :: AEn (.slice A r.length cap) r :: Ps) := by
  have HH := Lib.hid h
  have HR := Lib.hid h.ldIRow
  have HOK := Lib.hid h.ldIOk
  obtain ⟨m, hm⟩ : ∃ m, m = r.length := ⟨_, rfl⟩
  rw [← hm] at HH hl ⊢
  have HM := Lib.hid hm
  clear h hm
  have hmm : ((m : Int) != (m : Int)) = false := by simp
  go_enter Try.func28, Try.ntmps28
  go_wp2_with fail
  refine Calls.mono (HH.out.ldIKeys (by have := HM.out; omega)) ?_
  rintro e w1 ⟨A1, c1, rfl, hT1⟩
  rw [← HM.out] at hT1 ⊢
  have HT1 := Lib.hid hT1
  clear hT1
  go_wp2_with fail
  refine Calls.mono HT1.out.tail.ldILen ?_
  rintro e w2 ⟨rfl, rfl⟩
  rw [← HM.out]
  go_wp2_with fail
  go_loopw [28] (fun i wr => ∃ j : Nat, i = .int .i64 j ∧ j ≤ m ∧ Hp w0 wr (AStr (.slice A1 m c1) (r.map (·.1)) :: ALdI lb rm r :: AEn (.slice A m cap) r :: Ps)) (fun i _ => m - (intOf i).toNat)
  case atStart => exact ⟨0, rfl, Nat.zero_le _, HT1.out⟩
  case round =>
    obtain ⟨j, rfl, hj, hP⟩ := hrel
    have HP := Lib.hid hP
    clear hP
    by_cases hjm : j < m
    · obtain ⟨ad, pk, pv, pu, rfl, hx, d0, d1, d2⟩ := C_nth_ent (Kd.R_reads' HP.out.tail.tail.head).2.2 j (by have := HM.out; omega)
      have i0 : (0 : Int) ≤ (j : Int) := by omega
      have i1 : (j : Int) < (m : Int) := by omega
      have HG := Lib.hid (show ldIGet r pk = ((pv, pu), true) from get_of HR.out (List.mem_of_getElem? hx))
      have hpk : pk.size ≤ maxLen := HOK.out _ (List.mem_of_getElem? hx)
      have HX := Lib.hid hx
      have hbl : wr.heap.size < (wr.alloc (.cells #[.string pk, .int .i64 pv, .int .i64 pu] 51)).heap.size := by simp
      clear hx
      go_wp2_with fail
      refine Calls.mono ((HP.out.alloc _).up2.ldIGetC pk hpk) ?_
      rintro e w3 ⟨rfl, hT3⟩
      rw [HG.out]
      have b0 := blk_cell hT3.blk1 0
      simp only [List.getElem?_toArray, List.getElem?_cons_succ, List.getElem?_cons_zero] at b0
      have HT3 := Lib.hid hT3
      clear hT3
      go_wp2_with fail
      refine Calls.mono (HT3.out.ldIUntilC pk hpk) ?_
      rintro e w4 ⟨rfl, hT4⟩
      rw [HG.out]
      have b0 := blk_cell hT4.blk1 0
      have b1 := blk_cell hT4.blk1 1
      have b2 := blk_cell hT4.blk1 2
      simp only [List.getElem?_toArray, List.getElem?_cons_succ, List.getElem?_cons_zero] at b0 b1 b2
      obtain ⟨ad1, x1, rfl, hy, f0⟩ := C_nth_scalar (Kd.R_reads' hT4.tail.tail.head).2.2 j (by rw [List.length_map]; have := HM.out; omega)
      have hpx : pk = x1 := by
        rw [List.getElem?_map, HX.out] at hy
        exact Option.some.inj hy
      subst hpx
      have HT4 := Lib.hid hT4.drop1.swap
      have hsk : (pk.toList == pk.toList) = true := by simp
      clear hT4 hy
      go_wp2_with fail
      go_quiet (fail)
      go_wp2_with fail
      refine ⟨⟨j + 1, by simp, by omega, HT4.out.below (pw_below_drewN (Below.refl _ _) _)⟩, ?_⟩
      simp [intOf]
      omega
    · have hjm' : j = m := by omega
      subst hjm'
      go_wp2_with fail
      go_ret
      exact ⟨rfl, HP.out.tail⟩

set_option maxHeartbeats 3200000 in
set_option maxRecDepth 100000 in
theorem does_law (room : Int) (A : Option Addr) (n cap : Nat) (ops : List Op) (w : World) (_ : (Lit.int .i64 room).wf = true) (hC : KOp.C w A n ops) (hc : n ≤ cap) (ho : ∀ x ∈ ops, (Lit.int .i64 x.1).wf = true ∧ (Lit.int .i64 x.2.1).wf = true ∧ (Lit.int .i64 x.2.2.1).wf = true ∧ x.2.2.2.size ≤ maxLen) :
    Calls Try.prog 7 #[.int .i64 room, .slice A n cap] w fun e w' => e = .returned (.bool true) ∧ Below w.heap.size w w' := by
  have HN := Lib.hid (Kd.C_len hC)
  have HC := Lib.hid hC
  have HO := Lib.hid ho
  have hm1 := Kd.C_max hC
  clear hC ho
  by_cases h60 : 60 < n
  · have h60i : (60 : Int) < n := by omega
    go_enter Try.func7, Try.ntmps7
    go_wp2_with (go_at_call 8; refine Calls.mono (awake_any _) ?_; rintro e w1 ⟨rfl, hB⟩)
    go_ret
    exact ⟨rfl, hB⟩
  · have h60i : ¬ (60 : Int) < n := by omega
    obtain ⟨rm, hrm⟩ : ∃ rm, rm = max room 0 := ⟨_, rfl⟩
    go_enter Try.func7, Try.ntmps7
    go_wp2_with fail
    refine Calls.mono (Hp.ldINew (Hp.nil w) room) ?_
    rintro e w1 ⟨lb, rfl, hP1⟩
    rw [← hrm] at hP1
    have HP1 := Lib.hid hP1
    have hrmm : room ≤ rm ∧ 0 ≤ rm ∧ (rm ≤ room ∨ rm ≤ 0) := by omega
    have HRM := Lib.hid hrmm
    clear hP1 hrm hrmm
    go_wp2_with fail
    go_loopw [5, 6, 25] (fun v5 v6 i wr => ∃ (k lb : Nat) (A3 : Option Addr) (c3 : Nat) (r : List (Ent Int)), i = .int .i64 k ∧ v5 = .pointer (some ⟨lb, 0, none⟩) ∧ v6 = .slice A3 r.length c3 ∧ k ≤ n ∧ Hp w wr [ALdI lb rm r, AEn (.slice A3 r.length c3) r] ∧ r.length ≤ k) (fun _ _ i _ => n - (intOf i).toNat)
    case atStart => exact ⟨0, lb, none, 0, [], rfl, rfl, rfl, Nat.zero_le _, (HP1.out.fresh (Below.refl _ _) (Kd.R_nil _ _ _ _ _)).swap, Nat.le_refl _⟩
    case round =>
      obtain ⟨k, lb, A3, c3, r, rfl, rfl, rfl, hk, hP, hrl⟩ := hrel
      have HP := Lib.hid hP
      clear hP
      by_cases hlt : k < n
      · obtain ⟨ad, kind, ov, ou, og, rfl, hx, hf0, hf1, hf2, hf3⟩ := C_nth_op (Kd.C_below HC.out HP.out.belowW) k hlt
        obtain ⟨_, _, _, hgo⟩ := HO.out _ (List.mem_of_getElem? hx)
        have i0 : (0 : Int) ≤ (k : Int) := by omega
        have i1 : (k : Int) < (n : Int) := by omega
        clear hx
        have hbl : wr.heap.size < (wr.alloc (.cells #[.int .i64 kind, .int .i64 ov, .int .i64 ou, .string og] 27)).heap.size := by simp
        by_cases hog : 20 < og.size
        · have hog' : (20 : Int) < og.size := by omega
          have HBW := Lib.hid (HP.out.alloc (.cells #[.int .i64 kind, .int .i64 ov, .int .i64 ou, .string og] 27)).belowW
          go_wp2_with (go_at_call 8; refine Calls.mono (awake_any _) ?_; rintro e w1 ⟨rfl, hB⟩)
          go_ret
          exact ⟨rfl, HBW.out.trans (hB.mono HBW.out.size)⟩
        have hog' : ¬ (20 : Int) < og.size := by omega
        have HRI := Lib.hid HP.out.ldIRow
        have hrl6 : r.length ≤ 60 := by omega
        have hmr : mayPut rm r og = mayPut room r og := by
          unfold mayPut
          have := HRM.out
          congr 1
          rw [decide_eq_decide]
          omega
        have hcase : kind = 0 ∨ (kind = 1 ∨ (kind = 2 ∨ (kind ≠ 0 ∧ kind ≠ 1 ∧ kind ≠ 2))) := by omega
        rcases hcase with hkd | (hkd | (hkd | hkd))
        case' inl =>
          have hk0 : (kind == 0) = true := by simp [hkd]
          clear hkd
          have HA := Lib.hid (HP.out.alloc (.cells #[.int .i64 kind, .int .i64 ov, .int .i64 ou, .string og] 27))
          go_wp2_with fail
          refine Calls.mono (refPut_any A3 r.length c3 r room og ov ou _ (Kd.R_reads' HA.out.tail.tail.head).2.2 (by omega)) ?_
          rintro e w2 ⟨h1, h2⟩
          have H1 := Lib.hid h1
          have H2 := Lib.hid h2
          have hlp := ldPut_len HRI.out og (ov, ou)
          have hlp2 : (ldPut r og (ov, ou)).length ≤ r.length + 1 := by rw [hlp]; split <;> omega
          clear h1 h2 hlp
          cases hmp : mayPut room r og
          case' true =>
            obtain ⟨A4, c4, rfl, hR4, hB4⟩ := H1.out hmp
            have hF := HA.out.fresh (Q := AEn (.slice A4 (ldPut r og (ov, ou)).length c4) (ldPut r og (ov, ou))) hB4 hR4
            have b1 := blk_cell hF.blk1 1
            have b2 := blk_cell hF.blk1 2
            have b3 := blk_cell hF.blk1 3
            simp only [List.getElem?_toArray, List.getElem?_cons_succ, List.getElem?_cons_zero] at b1 b2 b3
            have HF := Lib.hid hF.up2
            have HMP := Lib.hid (hmr.trans hmp)
            clear hmr hmp hR4 hB4 hF
            go_wp2_with fail
            refine Calls.mono (HF.out.ldIPut og ov ou hgo (by omega)) ?_
            rintro e w3 ⟨rfl, hT3⟩
            rw [HMP.out, if_pos rfl] at hT3
            rw [HMP.out, if_pos rfl]
            obtain ⟨r3, hr3⟩ : ∃ r3, r3 = ldPut r og (ov, ou) := ⟨_, rfl⟩
            rw [← hr3] at hT3 hlp2 ⊢
            have HT3 := Lib.hid hT3.only2
            have hr3k : r3.length ≤ k + 1 := by omega
            obtain ⟨lb3, hlb3⟩ : ∃ lb3, lb3 = lb := ⟨_, rfl⟩
            subst hlb3
            clear hT3 hr3 b1 b2 b3
          case' false =>
            obtain ⟨rfl, hB4⟩ := H2.out hmp
            have hF := HA.out.below hB4
            have b1 := blk_cell hF.blk0 1
            have b2 := blk_cell hF.blk0 2
            have b3 := blk_cell hF.blk0 3
            simp only [List.getElem?_toArray, List.getElem?_cons_succ, List.getElem?_cons_zero] at b1 b2 b3
            have HF := Lib.hid hF.swap
            have HMP := Lib.hid (hmr.trans hmp)
            clear hmr hmp hB4 hF
            go_wp2_with fail
            refine Calls.mono (HF.out.ldIPut og ov ou hgo (by omega)) ?_
            rintro e w3 ⟨rfl, hT3⟩
            rw [HMP.out, if_neg (by decide)] at hT3
            rw [HMP.out, if_neg (by decide)]
            obtain ⟨r3, hr3⟩ : ∃ r3, r3 = r := ⟨_, rfl⟩
            subst hr3
            obtain ⟨A4, hA4⟩ : ∃ A4, A4 = A3 := ⟨_, rfl⟩
            obtain ⟨c4, hc4⟩ : ∃ c4, c4 = c3 := ⟨_, rfl⟩
            subst hA4 hc4
            have HT3 := Lib.hid hT3.drop1
            have hr3k : r3.length ≤ k + 1 := by omega
            obtain ⟨lb3, hlb3⟩ : ∃ lb3, lb3 = lb := ⟨_, rfl⟩
            subst hlb3
            clear hT3 b1 b2 b3
        case' inr.inl =>
          have hk0 : (kind == 0) = false := by simp [hkd]
          have hk1 : (kind == 1) = true := by simp [hkd]
          clear hkd
          have HA := Lib.hid (HP.out.alloc (.cells #[.int .i64 kind, .int .i64 ov, .int .i64 ou, .string og] 27))
          go_wp2_with fail
          refine Calls.mono (refAt_any A3 r.length c3 r og _ (Kd.R_reads' HA.out.tail.tail.head).2.2) ?_
          rintro e w2 ⟨rfl, hB2⟩
          have hF := HA.out.below hB2
          have b3 := blk_cell hF.blk0 3
          simp only [List.getElem?_toArray, List.getElem?_cons_succ, List.getElem?_cons_zero] at b3
          have HF := Lib.hid hF.swap
          have hge : decide (0 ≤ enAt r og) = hasKey r og := by
            have := enAt_has r og
            cases h : hasKey r og
            · have := this.2 h; rw [decide_eq_false]; omega
            · have : ¬ enAt r og < 0 := fun h2 => by rw [this.1 h2] at h; cases h
              rw [decide_eq_true]; omega
          have HGE := Lib.hid hge
          generalize enAt r og = ea at *
          have hbb : (decide (0 ≤ ea) != decide (0 ≤ ea)) = false := by simp
          clear hB2 hF hge
          go_wp2_with fail
          refine Calls.mono (HF.out.ldIDrop og hgo) ?_
          rintro e w3 ⟨rfl, hT3⟩
          rw [← HGE.out]
          have b3 := blk_cell hT3.blk1 3
          simp only [List.getElem?_toArray, List.getElem?_cons_succ, List.getElem?_cons_zero] at b3
          have HT3 := Lib.hid hT3
          clear hT3
          go_wp2_with fail
          refine Calls.mono (refDrop_any A3 r.length c3 r og _ (Kd.R_reads' HT3.out.tail.tail.head).2.2 (by omega)) ?_
          rintro e w4 ⟨A4, c4, rfl, hR4, hB4⟩
          have hF4 := HT3.out.fresh (Q := AEn (.slice A4 (mdel r og).length c4) (mdel r og)) hB4 hR4
          have hdl : (mdel r og).length ≤ r.length := List.length_filter_le _ _
          obtain ⟨r3, hr3⟩ : ∃ r3, r3 = mdel r og := ⟨_, rfl⟩
          rw [← hr3] at hF4 hdl ⊢
          have HT3 := Lib.hid hF4.swap.only2
          have hr3k : r3.length ≤ k + 1 := by omega
          obtain ⟨lb3, hlb3⟩ : ∃ lb3, lb3 = lb := ⟨_, rfl⟩
          subst hlb3
          clear hF4 hr3 b3 hR4 hB4
        case' inr.inr.inl =>
          have hk0 : (kind == 0) = false := by simp [hkd]
          have hk1 : (kind == 1) = false := by simp [hkd]
          have hk2 : (kind == 2) = true := by simp [hkd]
          clear hkd
          have HA := Lib.hid (HP.out.alloc (.cells #[.int .i64 kind, .int .i64 ov, .int .i64 ou, .string og] 27))
          go_wp2_with fail
          refine Calls.mono (HA.out.up2.refSweep HRI.out (by omega) ou) ?_
          rintro e w2 ⟨A4, c4, A5, c5, rfl, hT2⟩
          have b2 := blk_cell hT2.blk2 2
          simp only [List.getElem?_toArray, List.getElem?_cons_succ, List.getElem?_cons_zero] at b2
          have HT2 := Lib.hid hT2.up3
          have hll := left_len r ou
          have HPK := Lib.hid (show ((past r ou).map (·.1)).length = (past r ou).length from List.length_map ..)
          clear hT2
          go_wp2_with fail
          refine Calls.mono (HT2.out.ldISweep ou (by omega)) ?_
          rintro e w3 ⟨A6, c6, rfl, hT3⟩
          have HT3 := Lib.hid hT3
          clear hT3
          have hc1 := (Kd.R_reads' HT3.out.head).2.2
          have hc2 := (Kd.R_reads' HT3.out.tail.tail.head).2.2
          rw [HPK.out] at hc1 hc2
          have HC1 := Lib.hid hc1
          have HC2 := Lib.hid hc2
          clear hc1 hc2 b2
          go_wp2_with fail
          refine Calls.mono (texts_yes _ _ _ _ _ _ _ HC1.out HC2.out) ?_
          rintro e w4 ⟨rfl, hB4⟩
          have hF4 := HT3.out.below hB4
          obtain ⟨r3, hr3⟩ : ∃ r3, r3 = left r ou := ⟨_, rfl⟩
          rw [← hr3] at hF4 hll ⊢
          have HT3 := Lib.hid hF4.tail.drop1.only2
          have hr3k : r3.length ≤ k + 1 := by omega
          obtain ⟨lb3, hlb3⟩ : ∃ lb3, lb3 = lb := ⟨_, rfl⟩
          subst hlb3
          clear hF4 hr3 hB4
        case' inr.inr.inr =>
          have hk0 : (kind == 0) = false := by simp [hkd.1]
          have hk1 : (kind == 1) = false := by simp [hkd.2.1]
          have hk2 : (kind == 2) = false := by simp [hkd.2.2]
          clear hkd
          have HA := Lib.hid (HP.out.alloc (.cells #[.int .i64 kind, .int .i64 ov, .int .i64 ou, .string og] 27))
          go_wp2_with fail
          refine Calls.mono HA.out.swap.ldICopy ?_
          rintro e w2 ⟨lb3, rfl, hT2⟩
          have b1 := blk_cell hT2.blk2 1
          have b2 := blk_cell hT2.blk2 2
          have b3 := blk_cell hT2.blk2 3
          simp only [List.getElem?_toArray, List.getElem?_cons_succ, List.getElem?_cons_zero] at b1 b2 b3
          have HT2 := Lib.hid hT2.swap
          clear hT2
          go_wp2_with fail
          refine Calls.mono (HT2.out.ldIPut og _ ou hgo (by omega)) ?_
          rintro e w3 ⟨rfl, hT3⟩
          have hlp : (if mayPut rm r og = true then ldPut r og (wrap64 (ov + 1), ou) else r).length ≤ 100 := by
            have := ldPut_len HRI.out og (wrap64 (ov + 1), ou)
            split
            · rw [this]; split <;> omega
            · omega
          generalize (if mayPut rm r og = true then ldPut r og (wrap64 (ov + 1), ou) else r) = r2 at *
          generalize (if mayPut rm r og = true then (0 : Int) else 5) = ee at *
          have HT3 := Lib.hid hT3
          clear hT3 b1 b2 b3
          go_wp2_with fail
          refine Calls.mono (HT3.out.ldISweep 1099511627776 (by omega)) ?_
          rintro e w4 ⟨A5, c5, rfl, hT5⟩
          obtain ⟨r3, hr3⟩ : ∃ r3, r3 = r := ⟨_, rfl⟩
          subst hr3
          obtain ⟨A4, hA4⟩ : ∃ A4, A4 = A3 := ⟨_, rfl⟩
          obtain ⟨c4, hc4⟩ : ∃ c4, c4 = c3 := ⟨_, rfl⟩
          subst hA4 hc4
          have HT3 := Lib.hid hT5.tail.tail.drop1
          have hr3k : r3.length ≤ k + 1 := by omega
          clear hT5
        all_goals
          go_wp2_with fail
          refine Calls.mono (HT3.out.sameL (by omega)) ?_
          rintro e w5 ⟨rfl, hT9⟩
          have HT9 := Lib.hid hT9
          clear hT9
          go_wp2_with fail
          refine ⟨⟨k + 1, lb3, A4, c4, r3, by simp, rfl, rfl, by omega, HT9.out, hr3k⟩, ?_⟩
          simp [intOf]
          omega
      · have hkn : k = n := by omega
        subst hkn
        go_wp2_with (go_at_call 8; refine Calls.mono (awake_any _) ?_; rintro e w1 ⟨rfl, hB⟩)
        go_ret
        exact ⟨rfl, HP.out.belowW.trans (hB.mono HP.out.belowW.size)⟩
end Go.Proofs.Ytehkhopkedbngaa
