/- Put together: The document's ReadAnswer. -/
import Derived.Test.YtidjapjidihbpaaDoorK14
import Derived.Test.YtidjapjidihbpaaDoorK9
set_option linter.unusedVariables false
set_option linter.unusedSimpArgs false
set_option linter.unusedVariables false
set_option linter.unusedSimpArgs false
namespace Go.Proofs.YtidjapjidihbpaaDoor
open Go.RowKit Go.Proofs.YtidjapjidihbpaaDoorW.PrintWords
theorem rsNumLe {bs : List Int} (hb : ByOk bs) {s : Rs} (hs : s.at_ ≤ bs.length) : (rsNum bs s).1.at_ ≤ bs.length ∧ 0 ≤ (rsNum bs s).2 ∧ (rsNum bs s).2 ≤ 9223372036854775807 := by
  have h := rsNum_in hb hs
  exact ⟨h.2.2.1, h.1, h.2.1⟩
theorem rsTextLe {bs : List Int} (hb : ByOk bs) {s : Rs} (hs : s.at_ ≤ bs.length) : (rsText bs 256 s).1.at_ ≤ bs.length := by
  by_cases h0 : (rsNum bs s).1.no = 0
  · obtain ⟨_, g1, g2, g3⟩ := rsText_go (most := 256) hb h0
    have h1 := (rsNumLe hb hs).1
    by_cases a : (256 : Int) < (rsNum bs s).2
    · rw [g1 a]; exact hs
    · by_cases b : (bs.length : Int) - ((rsNum bs s).1.at_ : Int) < (rsNum bs s).2
      · rw [g2 a b]; exact hs
      · rw [g3 a b]
        dsimp only
        omega
  · rw [rsText_stay h0]
    exact (rsNumLe hb hs).1
theorem rsManyLe {bs : List Int} (hb : ByOk bs) : ∀ (k : Nat) {s : Rs}, s.at_ ≤ bs.length → (rsMany (rsNum bs) k s).1.at_ ≤ bs.length
  | 0, _, h => h
  | k + 1, s, h => rsManyLe hb k (rsNumLe hb h).1
theorem rsNumsLe {bs : List Int} (hb : ByOk bs) {s : Rs} (hs : s.at_ ≤ bs.length) : (rsNums bs 10 s).1.at_ ≤ bs.length := by
  by_cases h0 : (rsNum bs s).1.no = 0
  · obtain ⟨g1, g2⟩ := rsNums_go (most := 10) h0
    by_cases a : (10 : Int) < (rsNum bs s).2
    · rw [g1 a]; exact hs
    · rw [g2 a]
      unfold rsBack
      split
      · exact rsManyLe hb _ (rsNumLe hb hs).1
      · exact hs
  · rw [rsNums_stay h0]
    exact (rsNumLe hb hs).1
set_option maxHeartbeats 16000000 in
set_option maxRecDepth 100000 in
theorem refReadAns_any (A : Option Addr) (n c : Nat) (bs : List Int) (w : World) (hA : Rd w A n c bs) (hn : n ≤ 1000000) (hb : ByOk bs) :
    Calls Tryd.prog 22 #[.slice A n c] w fun e w' => ∃ B m d D k f, e = .returned (.tuple #[.agg #[.int .i64 (readAns bs).1.code, .slice B m d, .slice D k f], .int .i64 (readAns bs).2]) ∧ (Kd.int .i64).C w' B m (readAns bs).1.ids ∧ KTk.C w' D k (readAns bs).1.took ∧ Below w.heap.size w w' := by
  have HA := Lib.hid hA
  have HB := Lib.hid hb
  have HN := Lib.hid hA.len
  obtain ⟨R, hR⟩ : ∃ R, R = readAns bs := ⟨_, rfl⟩
  have HBAD := Lib.hid (readAns_bad (bs := bs))
  have HNO := Lib.hid (readAns_no (bs := bs))
  have HYES := Lib.hid (readAns_yes (bs := bs))
  rw [← hR] at HBAD HNO HYES ⊢
  clear hA hb hR
  have hz1 : (w.alloc (.cells #[.int .i64 0, .slice none 0 0, .slice none 0 0] 61)).heap.size = w.heap.size + 1 := by simp
  have hp0 := ((Hp.nil w).alloc (.cells #[.int .i64 0, .slice none 0 0, .slice none 0 0] 61)).alloc (.cells #[.int .i64 0, .slice none 0 0, .slice none 0 0] 61)
  rw [hz1] at hp0
  obtain ⟨ab, hab⟩ : ∃ ab, ab = w.heap.size + 1 := ⟨_, rfl⟩
  rw [← hab] at hp0
  have HP0 := Lib.hid hp0
  clear hp0 hz1
  go_enter Tryd.func22, Tryd.ntmps22
  go_upto_region 2 with (fail)
  rw [← hab]
  change Code.wp _ _ _ _ ((w.alloc (.cells #[.int .i64 0, .slice none 0 0, .slice none 0 0] 61)).alloc (.cells #[.int .i64 0, .slice none 0 0, .slice none 0 0] 61))
  generalize (w.alloc (.cells #[.int .i64 0, .slice none 0 0, .slice none 0 0] 61)).alloc (.cells #[.int .i64 0, .slice none 0 0, .slice none 0 0] 61) = W0 at *
  clear hab
  have HPR := Lib.hid (HP0.out.alloc (.cells #[.slice none 0 0, .int .i64 0, .int .i64 0] 102))
  have HP1 := Lib.hid (HPR.out.setRowBlk #[.slice A n c, .int .i64 0, .int .i64 0])
  go_upto_region 3 with ((with_reducible refine gate_store (t := 102) (p := 5) (v := .tmp 13) rfl ?_); refine wpList_store_row rfl 102 (.tmp 5) (.tmp 13) rfl W0.heap.size #[.slice A n c, .int .i64 0, .int .i64 0] rfl rfl 102 #[.slice none 0 0, .int .i64 0, .int .i64 0] HPR.out.blk0 info_reader rfl (by simp [Value.oneCell']) ?_; generalize (W0.alloc (.cells #[.slice none 0 0, .int .i64 0, .int .i64 0] 102)).setRow W0.heap.size #[.slice A n c, .int .i64 0, .int .i64 0] = W1 at *)
  obtain ⟨rb, hrb⟩ : ∃ rb, rb = W0.heap.size := ⟨_, rfl⟩
  rw [← hrb] at HP1 ⊢
  clear HPR HP0 hrb
  obtain ⟨x0, x1, x2, xf⟩ := blk3c (by exact HP1.out.blk0)
  have hnum : Calls Tryd.prog 54 #[.agg #[.slice A n c, .int .i64 0, .int .i64 0]] W1 _ := refnum_any (HA.out.below HP1.out.belowW) hn HB.out ⟨0, 0⟩ (Nat.zero_le _)
  have hat1 := (rsNumLe HB.out (s := ⟨0, 0⟩) (Nat.zero_le _)).1
  rw [← HN.out] at hat1
  obtain ⟨⟨s1, code⟩, hr⟩ : ∃ r, r = rsNum bs ⟨0, 0⟩ := ⟨_, rfl⟩
  rw [← hr] at hnum hat1
  dsimp only at hat1
  unfold rrCells at hnum
  have HNUM := Lib.hid hnum
  have HM1 := Lib.hid hr
  clear hr hnum
  go_upto_region 4 with (first | (go_at_call 54; refine Calls.mono HNUM.out ?_; rintro e w3 ⟨rfl, hB⟩; have HP3 := Lib.hid (HP1.out.below hB); have HS3 := Lib.hid (HP3.out.setRowBlk #[.slice A n c, .int .i64 (s1.at_ : Int), .int .i64 s1.no]); clear hB) | ((with_reducible refine gate_store (t := 102) (p := 5) (v := .tmp 17) rfl ?_); refine wpList_store_row rfl 102 (.tmp 5) (.tmp 17) rfl rb #[.slice A n c, .int .i64 (s1.at_ : Int), .int .i64 s1.no] rfl rfl 102 #[.slice A n c, .int .i64 0, .int .i64 0] HP3.out.blk0 info_reader rfl (by simp [Value.oneCell']) ?_; generalize (w3).setRow rb #[.slice A n c, .int .i64 (s1.at_ : Int), .int .i64 s1.no] = W4 at *; have hc0 : W4.cell? ⟨ab, 0, none⟩ = some (.int .i64 0) := blk_cell HS3.out.blk1 0; have hf0 : W4.frozen? ⟨ab, 0, none⟩ = false := blk_frozen HS3.out.blk1 0))
  have HP5 := Lib.hid (HS3.out.swap.setBlk 0 (.int .i64 code)).swap
  simp only [List.setIfInBounds_toArray, List.set_cons_zero, List.set_cons_succ] at HP5
  clear hc0 hf0 x0 x1 x2 xf HS3 HP3 HP1 HNUM
  generalize W4.setCell ⟨ab, 0, none⟩ (.int .i64 code) = W5 at *
  have hat2 := rsNumsLe HB.out (s := s1) (by rw [← HN.out]; exact hat1)
  rw [← HN.out] at hat2
  obtain ⟨⟨s2, ids⟩, hr2⟩ : ∃ r, r = rsNums bs 10 s1 := ⟨_, rfl⟩
  rw [← hr2] at hat2
  dsimp only at hat2
  have HM2 := Lib.hid hr2
  clear hr2
  obtain ⟨x0, x1, x2, xf⟩ := blk3c (by exact HP5.out.blk0)
  go_upto_if 22 with (fail)
  go_cut [6] (fun _ wx => ∃ v, Hp w wx [ABlk rb (.cells #[.slice A n c, .int .i64 (s2.at_ : Int), .int .i64 s2.no] 102 (0, 0)), ABlk ab (.cells #[.int .i64 code, v, .slice none 0 0] 61 (0, 0)), AInt v ids, ABlk w.heap.size (.cells #[.int .i64 0, .slice none 0 0, .slice none 0 0] 61 (0, 0))])
  case first =>
    by_cases h0 : s1.no = 0
    case neg =>
      have hne : (s1.no == 0) = false := by simpa using h0
      have hst : (s2, ids) = (s1, []) := HM2.out.trans (rsNums_stuck h0)
      injection hst with g1 g2
      subst g1 g2
      have HP9 := Lib.hid (HP5.out.nilRow (Kd.int .i64) 3)
      clear h0
      go_wp2_with fail
      go_meet
      case rel => exact ⟨_, HP9.out.down2⟩
    case pos =>
      have hne : (s1.no == 0) = true := by simpa using h0
      have hrd := refReadNums_any (HA.out.below HP5.out.belowW) hn HB.out s1.at_ hat1 10 (by decide)
      rw [show (⟨s1.at_, 0⟩ : Rs) = s1 by rw [← h0], ← HM2.out] at hrd
      dsimp only at hrd
      have HRD := Lib.hid hrd
      clear hrd h0
      go_upto_region 6 with (go_at_call 58; refine Calls.mono HRD.out ?_; rintro e w6 ⟨B6, d6, rfl, hP6⟩; have HP6 := Lib.hid (HP5.out.fresh hP6.belowW hP6.head); clear hP6)
      clear x0 x1 x2 xf
      obtain ⟨n6, hn6⟩ : ∃ n6, n6 = ids.length := ⟨_, rfl⟩
      rw [← hn6] at HP6 ⊢
      clear hn6
      have HP6 := Lib.hid HP6.out.up2
      obtain ⟨y0, y1, y2, yf⟩ := blk3c (by exact HP6.out.blk0)
      have HP7 := Lib.hid (HP6.out.setBlk 1 (.slice B6 n6 d6)).up2
      simp only [List.setIfInBounds_toArray, List.set_cons_zero, List.set_cons_succ] at HP7
      go_upto_region 7 with (fail)
      clear y0 y1 y2 yf
      generalize w6.setCell ⟨ab, 1, none⟩ (.slice B6 n6 d6) = W7 at *
      obtain ⟨x0, x1, x2, xf⟩ := blk3c (by exact HP7.out.blk0)
      have HP8 := Lib.hid ((HP7.out.setBlk 1 (.int .i64 (s2.at_ : Int))).setBlk 2 (.int .i64 s2.no))
      simp only [List.setIfInBounds_toArray, List.set_cons_zero, List.set_cons_succ] at HP8
      go_wp2_with fail
      go_meet
      case rel => exact ⟨_, HP8.out⟩
  case rest =>
  obtain ⟨v2, hX⟩ := hcut
  have HP9 := Lib.hid hX
  clear hX x0 x1 x2 xf HP5
  obtain ⟨W9, rfl⟩ : ∃ z, z = wc := ⟨wc, rfl⟩
  obtain ⟨x0, x1, x2, xf⟩ := blk3c (by exact HP9.out.blk0)
  have hnum := refnum_any (HA.out.below HP9.out.belowW) hn HB.out s2 hat2
  have hnat := rsNumLe HB.out (s := s2) (by rw [← HN.out]; exact hat2)
  rw [← HN.out] at hnat
  obtain ⟨⟨s3, mm⟩, hr⟩ : ∃ r, r = rsNum bs s2 := ⟨_, rfl⟩
  rw [← hr] at hnum hnat
  dsimp only at hnat
  unfold rrCells at hnum
  have HNUM := Lib.hid hnum
  have HM3 := Lib.hid hr
  clear hr hnum
  obtain ⟨hat3, hmm0, hmm1⟩ := hnat
  obtain ⟨rm, hrm⟩ : ∃ rm : Nat, rm = (min mm 10).toNat := ⟨_, rfl⟩
  have HRM := Lib.hid hrm
  have HR3 := Lib.hid (show (rm : Int) = mm ∨ (rm : Int) = 10 by omega)
  have hrm1 : (rm : Int) ≤ mm := by omega
  have hrm2 : (rm : Int) ≤ 10 := by omega
  clear hrm
  go_wp2_with (first | (go_at_call 54; refine Calls.mono HNUM.out ?_; rintro e w3 ⟨rfl, hB⟩; have HP3 := Lib.hid (HP9.out.below hB); have HS3 := Lib.hid (HP3.out.setRowBlk #[.slice A n c, .int .i64 (s3.at_ : Int), .int .i64 s3.no]); clear hB) | ((with_reducible refine gate_store (t := 102) (p := 5) (v := .tmp 40) rfl ?_); refine wpList_store_row rfl 102 (.tmp 5) (.tmp 40) rfl rb #[.slice A n c, .int .i64 (s3.at_ : Int), .int .i64 s3.no] rfl rfl 102 #[.slice A n c, .int .i64 (s2.at_ : Int), .int .i64 s2.no] HP3.out.blk0 info_reader rfl (by simp [Value.oneCell']) ?_; generalize (w3).setRow rb #[.slice A n c, .int .i64 (s3.at_ : Int), .int .i64 s3.no] = W10 at *))
  clear x0 x1 x2 xf HNUM HP3 HP9
  have HV := Lib.hid (HS3.out.nilRow KTk 113).down2
  go_loopw [10] (fun i wr => ∃ (j : Nat) (s5 : Rs) (l5 : List Tk) (v5 : Value), i = .int .i64 j ∧ j ≤ rm ∧ s5.at_ ≤ n ∧ Hid ((s5, l5) = rsMany (rsTook bs) j s3) ∧ Hp w wr [ABlk rb (.cells #[.slice A n c, .int .i64 (s5.at_ : Int), .int .i64 s5.no] 102 (0, 0)), ABlk ab (.cells #[.int .i64 code, v2, v5] 61 (0, 0)), ATk8 v5 l5, AInt v2 ids, ABlk w.heap.size (.cells #[.int .i64 0, .slice none 0 0, .slice none 0 0] 61 (0, 0))]) (fun i _ => rm - (intOf i).toNat)
  case atStart => exact ⟨0, s3, [], .slice none 0 0, rfl, Nat.zero_le _, hat3, Lib.hid rfl, HV.out⟩
  case round =>
    obtain ⟨j, s5, l5, v5, rfl, hj, hat5, hM5, hQ⟩ := hrel
    have HQ := Lib.hid hQ
    have hl5 : l5.length = j := by
      have h := rsMany_len (rsTook bs) j s3
      rw [← hM5.out] at h
      exact h
    have HL5 := Lib.hid hl5
    clear hQ hl5
    by_cases hjr : j < rm
    case pos =>
      have i1 : (j : Int) < mm := by omega
      have i2 : (j : Int) < 10 := by omega
      have HSUC := Lib.hid (rsMany_succ (rsTook bs) j s3)
      rw [← hM5.out] at HSUC
      have HX := Lib.hid (HQ.out.alloc (.cells #[.int .i64 0, .int .i64 0, .string ⟨#[]⟩, .string ⟨#[]⟩, .string ⟨#[]⟩] 113)).swap
      go_upto_region 14 with (fail)
      obtain ⟨xb, hxb⟩ : ∃ xb, xb = wr.heap.size := ⟨_, rfl⟩
      rw [← hxb] at HX ⊢
      clear hxb
      generalize wr.alloc (.cells #[.int .i64 0, .int .i64 0, .string ⟨#[]⟩, .string ⟨#[]⟩, .string ⟨#[]⟩] 113) = V0 at *
      obtain ⟨x0, x1, x2, xf⟩ := blk3c (by exact HX.out.blk0)
      have hnum := refnum_any (HA.out.below HX.out.belowW) hn HB.out s5 hat5
      have hnat := rsNumLe HB.out (s := s5) (by rw [← HN.out]; exact hat5)
      rw [← HN.out] at hnat
      obtain ⟨⟨q1, y1⟩, hr⟩ : ∃ r, r = rsNum bs s5 := ⟨_, rfl⟩
      rw [← hr] at hnum hnat
      dsimp only at hnat
      unfold rrCells at hnum
      have HNUM := Lib.hid hnum
      have HN1 := Lib.hid hr
      clear hr hnum
      have hq1 := hnat.1
      clear hnat
      go_upto_region 15 with (first | (go_at_call 54; refine Calls.mono HNUM.out ?_; rintro e w3 ⟨rfl, hB⟩; have HP3 := Lib.hid (HX.out.below hB); have HS3 := Lib.hid (HP3.out.setRowBlk #[.slice A n c, .int .i64 (q1.at_ : Int), .int .i64 q1.no]); clear hB) | ((with_reducible refine gate_store (t := 102) (p := 5) (v := .tmp 54) rfl ?_); refine wpList_store_row rfl 102 (.tmp 5) (.tmp 54) rfl rb #[.slice A n c, .int .i64 (q1.at_ : Int), .int .i64 q1.no] rfl rfl 102 #[.slice A n c, .int .i64 (s5.at_ : Int), .int .i64 s5.no] HP3.out.blk0 info_reader rfl (by simp [Value.oneCell']) ?_; generalize (w3).setRow rb #[.slice A n c, .int .i64 (q1.at_ : Int), .int .i64 q1.no] = W4 at *; have hc0 : W4.cell? ⟨xb, 0, none⟩ = some (.int .i64 0) := blk_cell HS3.out.blk1 0; have hf0 : W4.frozen? ⟨xb, 0, none⟩ = false := blk_frozen HS3.out.blk1 0))
      have HY1 := Lib.hid (HS3.out.swap.setBlk 0 (.int .i64 y1)).swap
      simp only [List.setIfInBounds_toArray, List.set_cons_zero, List.set_cons_succ] at HY1
      clear hc0 hf0 x0 x1 x2 xf HS3 HP3 HNUM HX
      generalize W4.setCell ⟨xb, 0, none⟩ (.int .i64 y1) = V1 at *
      obtain ⟨x0, x1, x2, xf⟩ := blk3c (by exact HY1.out.blk0)
      have hnum := refnum_any (HA.out.below HY1.out.belowW) hn HB.out q1 hq1
      have hnat := rsNumLe HB.out (s := q1) (by rw [← HN.out]; exact hq1)
      rw [← HN.out] at hnat
      obtain ⟨⟨q2, y2⟩, hr⟩ : ∃ r, r = rsNum bs q1 := ⟨_, rfl⟩
      rw [← hr] at hnum hnat
      dsimp only at hnat
      unfold rrCells at hnum
      have HNUM := Lib.hid hnum
      have HN2 := Lib.hid hr
      clear hr hnum
      have hq2 := hnat.1
      clear hnat
      go_upto_region 16 with (first | (go_at_call 54; refine Calls.mono HNUM.out ?_; rintro e w3 ⟨rfl, hB⟩; have HP3 := Lib.hid (HY1.out.below hB); have HS3 := Lib.hid (HP3.out.setRowBlk #[.slice A n c, .int .i64 (q2.at_ : Int), .int .i64 q2.no]); clear hB) | ((with_reducible refine gate_store (t := 102) (p := 5) (v := .tmp 60) rfl ?_); refine wpList_store_row rfl 102 (.tmp 5) (.tmp 60) rfl rb #[.slice A n c, .int .i64 (q2.at_ : Int), .int .i64 q2.no] rfl rfl 102 #[.slice A n c, .int .i64 (q1.at_ : Int), .int .i64 q1.no] HP3.out.blk0 info_reader rfl (by simp [Value.oneCell']) ?_; generalize (w3).setRow rb #[.slice A n c, .int .i64 (q2.at_ : Int), .int .i64 q2.no] = W4 at *; have hc0 : W4.cell? ⟨xb, 1, none⟩ = some (.int .i64 0) := blk_cell HS3.out.blk1 1; have hf0 : W4.frozen? ⟨xb, 1, none⟩ = false := blk_frozen HS3.out.blk1 1))
      have HY2 := Lib.hid (HS3.out.swap.setBlk 1 (.int .i64 y2)).swap
      simp only [List.setIfInBounds_toArray, List.set_cons_zero, List.set_cons_succ] at HY2
      clear hc0 hf0 x0 x1 x2 xf HS3 HP3 HNUM HY1
      generalize W4.setCell ⟨xb, 1, none⟩ (.int .i64 y2) = V2 at *
      obtain ⟨x0, x1, x2, xf⟩ := blk3c (by exact HY2.out.blk0)
      have hnum := reftext_any (HA.out.below HY2.out.belowW) hn HB.out q2 hq2
      have hnat := rsTextLe HB.out (s := q2) (by rw [← HN.out]; exact hq2)
      rw [← HN.out] at hnat
      obtain ⟨⟨q3, y3⟩, hr⟩ : ∃ r, r = rsText bs 256 q2 := ⟨_, rfl⟩
      rw [← hr] at hnum hnat
      dsimp only at hnat
      unfold rrCells at hnum
      have HNUM := Lib.hid hnum
      have HN3 := Lib.hid hr
      clear hr hnum
      have hq3 := hnat
      clear hnat
      go_upto_region 17 with (first | (go_at_call 55; refine Calls.mono HNUM.out ?_; rintro e w3 ⟨rfl, hB⟩; have HP3 := Lib.hid (HY2.out.below hB); have HS3 := Lib.hid (HP3.out.setRowBlk #[.slice A n c, .int .i64 (q3.at_ : Int), .int .i64 q3.no]); clear hB) | ((with_reducible refine gate_store (t := 102) (p := 5) (v := .tmp 66) rfl ?_); refine wpList_store_row rfl 102 (.tmp 5) (.tmp 66) rfl rb #[.slice A n c, .int .i64 (q3.at_ : Int), .int .i64 q3.no] rfl rfl 102 #[.slice A n c, .int .i64 (q2.at_ : Int), .int .i64 q2.no] HP3.out.blk0 info_reader rfl (by simp [Value.oneCell']) ?_; generalize (w3).setRow rb #[.slice A n c, .int .i64 (q3.at_ : Int), .int .i64 q3.no] = W4 at *; have hc0 : W4.cell? ⟨xb, 2, none⟩ = some (.string ⟨#[]⟩) := blk_cell HS3.out.blk1 2; have hf0 : W4.frozen? ⟨xb, 2, none⟩ = false := blk_frozen HS3.out.blk1 2))
      have HY3 := Lib.hid (HS3.out.swap.setBlk 2 (.string y3)).swap
      simp only [List.setIfInBounds_toArray, List.set_cons_zero, List.set_cons_succ] at HY3
      clear hc0 hf0 x0 x1 x2 xf HS3 HP3 HNUM HY2
      generalize W4.setCell ⟨xb, 2, none⟩ (.string y3) = V3 at *
      obtain ⟨x0, x1, x2, xf⟩ := blk3c (by exact HY3.out.blk0)
      have hnum := reftext_any (HA.out.below HY3.out.belowW) hn HB.out q3 hq3
      have hnat := rsTextLe HB.out (s := q3) (by rw [← HN.out]; exact hq3)
      rw [← HN.out] at hnat
      obtain ⟨⟨q4, y4⟩, hr⟩ : ∃ r, r = rsText bs 256 q3 := ⟨_, rfl⟩
      rw [← hr] at hnum hnat
      dsimp only at hnat
      unfold rrCells at hnum
      have HNUM := Lib.hid hnum
      have HN4 := Lib.hid hr
      clear hr hnum
      have hq4 := hnat
      clear hnat
      go_upto_region 18 with (first | (go_at_call 55; refine Calls.mono HNUM.out ?_; rintro e w3 ⟨rfl, hB⟩; have HP3 := Lib.hid (HY3.out.below hB); have HS3 := Lib.hid (HP3.out.setRowBlk #[.slice A n c, .int .i64 (q4.at_ : Int), .int .i64 q4.no]); clear hB) | ((with_reducible refine gate_store (t := 102) (p := 5) (v := .tmp 72) rfl ?_); refine wpList_store_row rfl 102 (.tmp 5) (.tmp 72) rfl rb #[.slice A n c, .int .i64 (q4.at_ : Int), .int .i64 q4.no] rfl rfl 102 #[.slice A n c, .int .i64 (q3.at_ : Int), .int .i64 q3.no] HP3.out.blk0 info_reader rfl (by simp [Value.oneCell']) ?_; generalize (w3).setRow rb #[.slice A n c, .int .i64 (q4.at_ : Int), .int .i64 q4.no] = W4 at *; have hc0 : W4.cell? ⟨xb, 3, none⟩ = some (.string ⟨#[]⟩) := blk_cell HS3.out.blk1 3; have hf0 : W4.frozen? ⟨xb, 3, none⟩ = false := blk_frozen HS3.out.blk1 3))
      have HY4 := Lib.hid (HS3.out.swap.setBlk 3 (.string y4)).swap
      simp only [List.setIfInBounds_toArray, List.set_cons_zero, List.set_cons_succ] at HY4
      clear hc0 hf0 x0 x1 x2 xf HS3 HP3 HNUM HY3
      generalize W4.setCell ⟨xb, 3, none⟩ (.string y4) = V4 at *
      obtain ⟨x0, x1, x2, xf⟩ := blk3c (by exact HY4.out.blk0)
      have hnum := reftext_any (HA.out.below HY4.out.belowW) hn HB.out q4 hq4
      have hnat := rsTextLe HB.out (s := q4) (by rw [← HN.out]; exact hq4)
      rw [← HN.out] at hnat
      obtain ⟨⟨q5, y5⟩, hr⟩ : ∃ r, r = rsText bs 256 q4 := ⟨_, rfl⟩
      rw [← hr] at hnum hnat
      dsimp only at hnat
      unfold rrCells at hnum
      have HNUM := Lib.hid hnum
      have HN5 := Lib.hid hr
      clear hr hnum
      have hq5 := hnat
      clear hnat
      go_upto_region 19 with (first | (go_at_call 55; refine Calls.mono HNUM.out ?_; rintro e w3 ⟨rfl, hB⟩; have HP3 := Lib.hid (HY4.out.below hB); have HS3 := Lib.hid (HP3.out.setRowBlk #[.slice A n c, .int .i64 (q5.at_ : Int), .int .i64 q5.no]); clear hB) | ((with_reducible refine gate_store (t := 102) (p := 5) (v := .tmp 78) rfl ?_); refine wpList_store_row rfl 102 (.tmp 5) (.tmp 78) rfl rb #[.slice A n c, .int .i64 (q5.at_ : Int), .int .i64 q5.no] rfl rfl 102 #[.slice A n c, .int .i64 (q4.at_ : Int), .int .i64 q4.no] HP3.out.blk0 info_reader rfl (by simp [Value.oneCell']) ?_; generalize (w3).setRow rb #[.slice A n c, .int .i64 (q5.at_ : Int), .int .i64 q5.no] = W4 at *; have hc0 : W4.cell? ⟨xb, 4, none⟩ = some (.string ⟨#[]⟩) := blk_cell HS3.out.blk1 4; have hf0 : W4.frozen? ⟨xb, 4, none⟩ = false := blk_frozen HS3.out.blk1 4))
      have HY5 := Lib.hid (HS3.out.swap.setBlk 4 (.string y5)).swap
      simp only [List.setIfInBounds_toArray, List.set_cons_zero, List.set_cons_succ] at HY5
      clear hc0 hf0 x0 x1 x2 xf HS3 HP3 HNUM HY4
      generalize W4.setCell ⟨xb, 4, none⟩ (.string y5) = V5 at *
      have htk : rsTook bs s5 = (q5, (y1, (y2, (y3, (y4, y5))))) := by
        have g1 : rt1 bs s5 = (q1, y1) := HN1.out.symm
        have g2 : rt2 bs s5 = (q2, y2) := by unfold rt2; rw [g1]; exact HN2.out.symm
        have g3 : rt3 bs s5 = (q3, y3) := by unfold rt3; rw [g2]; exact HN3.out.symm
        have g4 : rt4 bs s5 = (q4, y4) := by unfold rt4; rw [g3]; exact HN4.out.symm
        have g5 : rt5 bs s5 = (q5, y5) := by unfold rt5; rw [g4]; exact HN5.out.symm
        unfold rsTook
        rw [g1, g2, g3, g4, g5]
      have HTK := Lib.hid htk
      clear htk
      have HYA := Lib.hid HY5.out.swap
      obtain ⟨g0, g1, g2, g3, g4⟩ := blk5 HYA.out.blk0
      have z2 : V5.cell? ⟨ab, 2, none⟩ = some v5 := blk_cell HYA.out.blk2 2
      obtain ⟨okr, hR1, hR2, hR3⟩ := HYA.out.up3.appended
      have HR1 := Lib.hid hR1
      have HR2 := Lib.hid hR2
      have HR3 := Lib.hid hR3
      clear hR1 hR2 hR3
      go_wp2_with (at_builtin; refine Kd.R_append KTk (w0 := V5) 0 rfl (.tmp 82) (.tmp 84) 59 113 (.agg #[.int .i64 0, .int .i64 0, .string ⟨#[]⟩, .string ⟨#[]⟩, .string ⟨#[]⟩]) 64 rfl Tryd.underlying59 info_took8 rfl (by decide) (by omega) v5 l5 (y1, (y2, (y3, (y4, y5)))) [.int .i64 y1, .int .i64 y2, .string y3, .string y4, .string y5] okr (fun _ => False) rfl rfl (KTk_of _ _ _ (y1, (y2, (y3, (y4, y5))))) (fun _ hk => hk.elim) HR2.out HR1.out (Below.refl _ _) (Nat.zero_le _) (by rw [HL5.out]; omega) ?_; intro v6 w6 hR6 hB6 hg6 _; obtain ⟨A6, d6, hv6⟩ := Kd.R_slice hR6; obtain ⟨n6, hn6⟩ : ∃ k, k = (l5 ++ [(y1, (y2, (y3, (y4, y5))))]).length := ⟨_, rfl⟩; rw [← hn6] at hv6; subst hv6; have HP6 := Lib.hid (HR3.out _ _ _ hR6 hg6); have c2 : w6.cell? ⟨ab, 2, none⟩ = some v5 := blk_cell HP6.out.blk3 2; have cf : w6.frozen? ⟨ab, 2, none⟩ = false := blk_frozen HP6.out.blk3 2; clear hn6 z2 g0 g1 g2 g3 g4)
      have HPB := Lib.hid (HP6.out.up3.setBlk 2 (.slice A6 n6 d6))
      simp only [List.setIfInBounds_toArray, List.set_cons_zero, List.set_cons_succ] at HPB
      refine ⟨⟨j + 1, q5, l5 ++ [(y1, (y2, (y3, (y4, y5))))], .slice A6 n6 d6, by simp, by omega, hq5, Lib.hid ?_, ?_⟩, ?_⟩
      · rw [HSUC.out, HTK.out]
      · exact HPB.out.up2.tail.up2
      · simp [intOf]
        omega
    case neg =>
    have hj' : j = rm := by omega
    subst hj'
    go_upto_region 11 with (fail)
    go_cut [48] (fun b wx => b = .bool false ∧ wx = wr)
    case first =>
      have hcase : ((j : Int) < mm ∧ ¬ (j : Int) < 10) ∨ ¬ (j : Int) < mm := by have := HR3.out; omega
      rcases hcase with ⟨i1, i2⟩ | i1
      all_goals
        go_wp2_with fail
        go_meet
        case rel => exact ⟨rfl, rfl⟩
    case rest =>
    obtain ⟨rfl, rfl⟩ := hcut
    obtain ⟨wq, rfl⟩ : ∃ z, z = wc := ⟨wc, rfl⟩
    have he : ra3 bs = (s3, mm) ∧ ra4 bs = (s5, l5) ∧ raAns bs = ⟨code, ids, l5⟩ := by
      have e1 : ra1 bs = (s1, code) := HM1.out.symm
      have e2 : ra2 bs = (s2, ids) := by unfold ra2; rw [e1]; exact HM2.out.symm
      have e3 : ra3 bs = (s3, mm) := by unfold ra3; rw [e2]; exact HM3.out.symm
      have e4 : ra4 bs = (s5, l5) := by unfold ra4; rw [e3]; dsimp only; rw [← HRM.out]; exact hM5.out.symm
      exact ⟨e3, e4, by unfold raAns; rw [e1, e2, e4]⟩
    have hread := fun h => readA_ref HB.out h
    rw [he.1, he.2.1, he.2.2] at hread
    rw [he.2.1] at HBAD
    rw [he.2.1, he.2.2] at HNO HYES
    dsimp only at hread HBAD HNO HYES
    have HREAD := Lib.hid hread
    have hdn := fun W : World => refdone_any (A := A) (c := c) (bs := bs) (w := W) HN.out s5
    unfold rrCells at hdn
    obtain ⟨no, hno⟩ : ∃ no, no = rsDone bs s5 := ⟨_, rfl⟩
    rw [← hno] at HBAD HNO HYES HREAD hdn
    have HDN := Lib.hid hdn
    clear he hread hdn hno
    obtain ⟨A6, d6, hv6⟩ := Kd.R_slice HQ.out.up2.head
    rw [HL5.out] at hv6
    subst hv6
    obtain ⟨A4, d4, hv4⟩ := Kd.R_slice HQ.out.up3.head
    obtain ⟨n4, hn4⟩ : ∃ k, k = ids.length := ⟨_, rfl⟩
    rw [← hn4] at hv4
    subst hv4
    have HN4 := Lib.hid hn4
    clear hn4
    obtain ⟨x0, x1, x2, xf⟩ := blk3c (by exact HQ.out.blk0)
    as_aux_lemma =>
    go_wp2_with fail
    refine Calls.mono (HDN.out _) ?_
    rintro e w30 ⟨rfl, hB30⟩
    have HP30 := Lib.hid (HQ.out.below hB30)
    clear x0 x1 x2 xf hB30
    obtain ⟨x0, x1, x2, xf⟩ := blk3c (by exact HP30.out.blk0)
    by_cases h0 : no = 0
    case neg =>
      have HE := Lib.hid (HBAD.out h0)
      have hne : (no != 0) = true := by simpa using h0
      clear h0
      go_wp2_with fail
      refine Calls.mono (HDN.out _) ?_
      rintro e w31 ⟨rfl, hB31⟩
      have HP31 := Lib.hid (HP30.out.below hB31)
      clear hB31 x0 x1 x2 xf
      go_wp2_with ((with_reducible refine gate_store (t := 61) (p := 2) (v := .tmp 90) rfl ?_); refine wpList_store_row rfl 61 (.tmp 2) (.tmp 90) rfl w.heap.size #[.int .i64 0, .slice none 0 0, .slice none 0 0] rfl rfl 61 #[.int .i64 0, .slice none 0 0, .slice none 0 0] HP31.out.up4.blk0 info_rans rfl (by simp [Value.oneCell']) ?_)
      have HPZ := Lib.hid (HP31.out.up4.setRowBlk #[.int .i64 0, .slice none 0 0, .slice none 0 0])
      refine bodyPost_ret (results_cell_slot rfl _ _ w.heap.size 61 #[.int .i64 0, .slice none 0 0, .slice none 0 0] (0, 0) _ rfl HPZ.out.blk0 Tryd.underlying61 rfl info_rans _ rfl) rfl ?_
      rw [HE.out]
      exact ⟨none, 0, 0, none, 0, 0, rfl, Kd.C_nil _ _, Kd.C_nil _ _, HPZ.out.belowW⟩
    case pos =>
    have hne : (no != 0) = false := by simpa using h0
    have HRE := Lib.hid (HREAD.out h0)
    have H0 := Lib.hid h0
    clear h0
    by_cases hm10 : 10 < mm
    case pos =>
      have HE := Lib.hid (HNO.out H0.out (fun h => by have := (HRE.out.1 h).1; omega))
      go_wp2_with ((with_reducible refine gate_store (t := 61) (p := 2) (v := .tmp 100) rfl ?_); refine wpList_store_row rfl 61 (.tmp 2) (.tmp 100) rfl w.heap.size #[.int .i64 0, .slice none 0 0, .slice none 0 0] rfl rfl 61 #[.int .i64 0, .slice none 0 0, .slice none 0 0] HP30.out.up4.blk0 info_rans rfl (by simp [Value.oneCell']) ?_)
      have HPZ := Lib.hid (HP30.out.up4.setRowBlk #[.int .i64 0, .slice none 0 0, .slice none 0 0])
      refine bodyPost_ret (results_cell_slot rfl _ _ w.heap.size 61 #[.int .i64 0, .slice none 0 0, .slice none 0 0] (0, 0) _ rfl HPZ.out.blk0 Tryd.underlying61 rfl info_rans _ rfl) rfl ?_
      rw [HE.out]
      exact ⟨none, 0, 0, none, 0, 0, rfl, Kd.C_nil _ _, Kd.C_nil _ _, HPZ.out.belowW⟩
    case neg =>
    obtain ⟨z0, z1, z2, zf⟩ := blk3c (by exact HP30.out.blk1)
    have hrdI := Kd.R_reads' HP30.out.up3.head
    have hrdT := Kd.R_reads' HP30.out.up2.head
    have HCI := Lib.hid (show (Kd.int .i64).C w30 A4 n4 ids by rw [hrdI.1]; exact hrdI.2.2)
    have HCT := Lib.hid (show KTk.C w30 A6 j l5 by rw [hrdT.1]; exact hrdT.2.2)
    have HRI := Lib.hid (refRightA_any ⟨code, ids, l5⟩ A4 n4 d4 A6 j d6 w30 HCI.out HCT.out)
    obtain ⟨rt, hrt⟩ : ∃ rt, rt = anRight ⟨code, ids, l5⟩ := ⟨_, rfl⟩
    rw [← hrt] at HRI HNO HYES HRE
    have HRT := Lib.hid hrt
    clear hrdI hrdT hrt
    go_wp2_with fail
    clear z0 z1 z2 zf
    refine Calls.mono HRI.out ?_
    rintro e w32 ⟨rfl, hB32⟩
    have HP32 := Lib.hid (HP30.out.below hB32)
    clear x0 x1 x2 xf hB32
    cases rt
    case false =>
      have HE := Lib.hid (HNO.out H0.out (fun h => absurd h.1 (by decide)))
      go_wp2_with ((with_reducible refine gate_store (t := 61) (p := 2) (v := .tmp 100) rfl ?_); refine wpList_store_row rfl 61 (.tmp 2) (.tmp 100) rfl w.heap.size #[.int .i64 0, .slice none 0 0, .slice none 0 0] rfl rfl 61 #[.int .i64 0, .slice none 0 0, .slice none 0 0] HP32.out.up4.blk0 info_rans rfl (by simp [Value.oneCell']) ?_)
      have HPZ := Lib.hid (HP32.out.up4.setRowBlk #[.int .i64 0, .slice none 0 0, .slice none 0 0])
      refine bodyPost_ret (results_cell_slot rfl _ _ w.heap.size 61 #[.int .i64 0, .slice none 0 0, .slice none 0 0] (0, 0) _ rfl HPZ.out.blk0 Tryd.underlying61 rfl info_rans _ rfl) rfl ?_
      rw [HE.out]
      exact ⟨none, 0, 0, none, 0, 0, rfl, Kd.C_nil _ _, Kd.C_nil _ _, HPZ.out.belowW⟩
    case true =>
      have hnm : mm ≤ 10 := by omega
      have HE := Lib.hid (HYES.out H0.out rfl (HRE.out.2 ⟨hnm, rfl⟩).2)
      have HB3 := Lib.hid HP32.out.up4.blk0
      obtain ⟨z0, z1, z2, zf⟩ := blk3c (by exact HP32.out.blk1)
      go_wp2_with ((with_reducible refine gate_store (t := 61) (p := 2) (v := .tmp 101) rfl ?_); refine wpList_store_row rfl 61 (.tmp 2) (.tmp 101) rfl w.heap.size #[.int .i64 code, .slice A4 n4 d4, .slice A6 j d6] rfl rfl 61 #[.int .i64 0, .slice none 0 0, .slice none 0 0] HB3.out info_rans rfl (by simp [Value.oneCell']) ?_)
      have HPZ := Lib.hid (HP32.out.up4.setRowBlk #[.int .i64 code, .slice A4 n4 d4, .slice A6 j d6])
      refine bodyPost_ret (results_cell_slot rfl _ _ w.heap.size 61 #[.int .i64 code, .slice A4 n4 d4, .slice A6 j d6] (0, 0) _ rfl HPZ.out.blk0 Tryd.underlying61 rfl info_rans _ rfl) rfl ?_
      have hrdI := Kd.R_reads' HPZ.out.up4.head
      have hrdT := Kd.R_reads' HPZ.out.up3.head
      rw [HE.out]
      exact ⟨A4, n4, d4, A6, j, d6, rfl, by have h := hrdI.2.2; rw [← hrdI.1] at h; exact h, by have h := hrdT.2.2; rw [← hrdT.1] at h; exact h, HPZ.out.belowW⟩
end Go.Proofs.YtidjapjidihbpaaDoor
