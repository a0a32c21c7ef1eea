/- CmdTells: bytes are read as an answer as the document reads them; what is read is written as these bytes. -/
import Derived.Test.YtidjapjidihbpaaDoorK12
import Derived.Test.YtidjapjidihbpaaDoorK15
import Derived.Test.YtidjapjidihbpaaDoorK7
import Derived.Test.YtidjapjidihbpaaDoorK14
import Derived.Test.YtidjapjidihbpaaDoorK16
import Derived.Test.YtidjapjidihbpaaDoorWLast
import Derived.Laws.Tables
set_option linter.unusedVariables false
set_option linter.unusedSimpArgs false
namespace Go.Proofs.YtidjapjidihbpaaDoor
open Go.RowKit Go.Proofs.YtidjapjidihbpaaDoorW.PrintWords Go.Proofs.YtidjapjidihbpaaDoorW.PrintLast
theorem readA_few (bs : List Int) : (readAns bs).1.took.length ≤ 10 := by
  have h := ra_len4 bs
  unfold readAns
  split
  · split
    · show (ra4 bs).2.length ≤ 10
      omega
    · exact Nat.zero_le _
  · exact Nat.zero_le _
set_option maxHeartbeats 3200000 in
set_option maxRecDepth 100000 in
theorem tells_law (A : Option Addr) (n c : Nat) (bs : List Int) (w : World) (hC : (Kd.int .u8).C w A n bs) (hc : n ≤ c) (ho : ∀ s ∈ bs, (Lit.int .u8 s).wf = true) (hg : w.cell? ⟨0, 0, none⟩ = some (.iface 154 (.agg #[.pointer (some ⟨1, 32, none⟩)]))) :
    Calls Tryd.prog 6 #[.slice A n c] w fun e w' => e = .returned (.bool true) ∧ Below w.heap.size w w' := by
  have HA := Lib.hid (show Rd w A n c bs from ⟨hC, hc⟩)
  have HG := Lib.hid hg
  have HB := Lib.hid (show ByOk bs from fun x hx => u8_in (ho x hx))
  have hmx := Kd.C_max hC
  clear hC ho hg
  by_cases hl : 3000 < n
  case pos =>
    have h1 : (3000 : Int) < (n : Int) := by omega
    go_enter Tryd.func6, Tryd.ntmps6
    go_wp2_with fail
    refine Calls.mono (awake_any _) ?_
    rintro e wz ⟨rfl, hBz⟩
    have HBZ := Lib.hid hBz
    clear hBz
    go_wp2_with fail
    go_ret
    exact ⟨rfl, HBZ.out⟩
  case neg =>
  have h1 : ¬ (3000 : Int) < (n : Int) := by omega
  have hrd := readAns_any A n c bs w HA.out (by omega) HB.out
  have hrf := fun W (h : Below w.heap.size w W) => refReadAns_any A n c bs W (HA.out.below h) (by omega) HB.out
  have hrw := readA_write (bs := bs)
  have hfew := readA_few bs
  obtain ⟨⟨a, no⟩, hr⟩ : ∃ r, r = readAns bs := ⟨_, rfl⟩
  rw [← hr] at hrd hrf hrw hfew
  unfold anCells at hrd
  dsimp only at hrd hrf hrw hfew
  have HRD := Lib.hid hrd
  have HRF := Lib.hid hrf
  have HRW := Lib.hid hrw
  have HFEW := Lib.hid hfew
  clear hr hrd hrf hrw hfew
  go_enter Tryd.func6, Tryd.ntmps6
  go_wp2_with fail
  refine Calls.mono HRD.out ?_
  rintro e w2 ⟨B, nb, d, D, nd, f, ev, rfl, hCB, _, hCD, _, hFV, hB2⟩
  have HCB := Lib.hid hCB
  have HCD := Lib.hid hCD
  have HNB := Lib.hid (Kd.C_len hCB)
  have HND := Lib.hid (Kd.C_len hCD)
  have HFV := Lib.hid hFV
  have HB2 := Lib.hid hB2
  have hnd : nd ≤ 1000000 := by have h2 := HFEW.out; rw [HND.out] at h2; omega
  have HQ2 := Lib.hid ((Hp.nil w2).alloc (.cells #[.int .i64 0, .slice none 0 0, .slice none 0 0] 56))
  have HQ3 := Lib.hid (HQ2.out.setRowBlk #[.int .i64 a.code, .slice B nb d, .slice D nd f])
  clear hCB hCD hFV hB2
  go_wp2_with ((with_reducible refine gate_store (t := 56) (p := 3) (v := .tmp 14) rfl ?_); refine wpList_store_row rfl 56 (.tmp 3) (.tmp 14) rfl w2.heap.size #[.int .i64 a.code, .slice B nb d, .slice D nd f] rfl rfl 56 #[.int .i64 0, .slice none 0 0, .slice none 0 0] HQ2.out.blk0 info_ans rfl (by simp [Value.oneCell']) ?_; generalize (w2.alloc (.cells #[.int .i64 0, .slice none 0 0, .slice none 0 0] 56)).setRow w2.heap.size #[.int .i64 a.code, .slice B nb d, .slice D nd f] = W3 at *)
  have HBW3 := Lib.hid (HB2.out.trans (HQ3.out.belowW.mono HB2.out.size))
  refine Calls.mono (HRF.out W3 HBW3.out) ?_
  rintro e w4 ⟨B2, nb2, d2, D2, nd2, f2, rfl, hCB2, hCD2, hB4⟩
  have hnb : nb2 = nb := by rw [← HNB.out]; exact (Kd.C_len hCB2).symm
  have hndd : nd2 = nd := by rw [← HND.out]; exact (Kd.C_len hCD2).symm
  subst hnb hndd
  have HCB2 := Lib.hid hCB2
  have HCD2 := Lib.hid hCD2
  have HP4 := Lib.hid (HQ3.out.below hB4)
  have HBW4 := Lib.hid (HBW3.out.trans (hB4.mono HBW3.out.size))
  have HQ4 := Lib.hid ((Hp.nil w4).alloc (.cells #[.int .i64 0, .slice none 0 0, .slice none 0 0] 61))
  have HQ5 := Lib.hid (HQ4.out.setRowBlk #[.int .i64 a.code, .slice B2 nb2 d2, .slice D2 nd2 f2])
  clear hCB2 hCD2 hB4
  go_wp2_with ((with_reducible refine gate_store (t := 61) (p := 5) (v := .tmp 19) rfl ?_); refine wpList_store_row rfl 61 (.tmp 5) (.tmp 19) rfl w4.heap.size #[.int .i64 a.code, .slice B2 nb2 d2, .slice D2 nd2 f2] rfl rfl 61 #[.int .i64 0, .slice none 0 0, .slice none 0 0] HQ4.out.blk0 info_rans rfl (by simp [Value.oneCell']) ?_; generalize (w4.alloc (.cells #[.int .i64 0, .slice none 0 0, .slice none 0 0] 61)).setRow w4.heap.size #[.int .i64 a.code, .slice B2 nb2 d2, .slice D2 nd2 f2] = W5 at *)
  have HP5 := Lib.hid (HP4.out.fresh HQ5.out.belowW HQ5.out.head)
  have HPd := Lib.hid (show Hp w W5.drew [ABlk w4.heap.size (.cells #[.int .i64 a.code, .slice B2 nb2 d2, .slice D2 nd2 f2] 61 (0, 0)), ABlk w2.heap.size (.cells #[.int .i64 a.code, .slice B nb2 d, .slice D nd2 f] 56 (0, 0))] from hp_base HB2.out (HP5.out.below (Below.refl _ _).drew))
  have HBd := Lib.hid (HQ5.out.belowW.trans (Below.mono (Below.refl W5.heap.size W5).drew HQ5.out.belowW.size))
  have HFd := Lib.hid (HFV.out.below (HP5.out.below (Below.refl _ _).drew).belowW)
  have HLC := Lib.hid (fun W (h2 : Below w4.heap.size w4 W) => lawAns_any a B nb2 d D nd2 f W (Kd.C_below (Kd.C_below HCD.out HP4.out.belowW) h2) hnd)
  refine start_ (n := 11) (S := fun w' => w'.heap[w2.heap.size]? = some (.cells #[.int .i64 a.code, .slice B nb2 d, .slice D nd2 f] 56 (0, 0)) ∧ w'.heap[w4.heap.size]? = some (.cells #[.int .i64 a.code, .slice B2 nb2 d2, .slice D2 nd2 f2] 61 (0, 0))) (ds := []) #[false, false, false, false, false, false, false, false, false, false, false] (by kernel_rfl) rfl rfl (⟨HPd.out.blk1, HPd.out.blk0⟩) (fun hHeld => ?_)
  generalize W5.drew = wd at *
  refine pure_ (i := 0) (N := (some 21)) (v := ?_) (a' := ?_) #[true, false, false, false, false, false, false, false, false, false, false] rfl rfl (by kernel_rfl) (fun _ _ _ h => h) (Or.inl ⟨by rfl, ?_⟩) ?_ ?_
  rotate_left
  · intro w'
    go_simp
    with_reducible rfl
  rotate_left
  · simp only [Act.put, List.setIfInBounds_toArray, List.set_cons_zero, List.set_cons_succ, i64_w, i32_w]
    rfl
  refine pure_ (i := 2) (N := (some 23)) (v := ?_) (a' := ?_) #[true, false, true, false, false, false, false, false, false, false, false] rfl rfl (by kernel_rfl) (fun _ _ _ h => h) (Or.inl ⟨by rfl, ?_⟩) ?_ ?_
  rotate_left
  · intro w'
    go_simp
    with_reducible rfl
  rotate_left
  · simp only [Act.put, List.setIfInBounds_toArray, List.set_cons_zero, List.set_cons_succ, i64_w, i32_w]
    rfl
  refine one_ (i := 1) (N := (some 22)) #[true, true, true, false, false, false, false, false, false, false, false] rfl rfl (by kernel_rfl) (by decide) (fun K hK => ?_)
  refine goes_ Tryd.func14 (by kernel_rfl) rfl #[ev] (by rfl) rfl rfl (by first | rfl | (go_simp; done) | (simp [Act.eval]; done) | (simp [Act.eval]; rfl)) ?_
  refine Calls.mono (code_any (below_cell HPd.out.belowW HG.out) HFd.out) ?_
  rintro e we ⟨rfl, hB⟩
  have HPe := Lib.hid (HPd.out.below hB)
  have HBe := Lib.hid (HBd.out.trans (hB.mono HBd.out.size))
  clear hB
  refine ⟨_, rfl, ?_⟩
  refine hK.out _ _ (⟨HPe.out.blk1, HPe.out.blk0⟩) (fun hHeld => ?_)
  clear hK K
  refine norm_ (a' := ?_) ?_ ?_
  rotate_left
  · show Act.put _ (some 22) _ = _
    simp only [Act.put, List.setIfInBounds_toArray, List.set_cons_zero, List.set_cons_succ, i64_w, i32_w]
    rfl
  refine pure_ (i := 3) (N := (some 24)) (v := ?_) (a' := ?_) #[true, true, true, true, false, false, false, false, false, false, false] rfl rfl (by kernel_rfl) (fun _ _ _ h => h) (Or.inl ⟨by rfl, ?_⟩) ?_ ?_
  rotate_left
  · intro w'
    go_simp
    with_reducible rfl
  rotate_left
  · simp only [Act.put, List.setIfInBounds_toArray, List.set_cons_zero, List.set_cons_succ, i64_w, i32_w]
    rfl
  refine pure_ (i := 4) (N := (some 25)) (v := ?_) (a' := ?_) #[true, true, true, true, true, false, false, false, false, false, false] rfl rfl (by kernel_rfl) (fun _ _ _ h => h) (Or.inl ⟨by rfl, ?_⟩) ?_ ?_
  rotate_left
  · intro w'
    go_simp
    with_reducible rfl
  rotate_left
  · simp only [Act.put, List.setIfInBounds_toArray, List.set_cons_zero, List.set_cons_succ, i64_w, i32_w]
    rfl
  refine take_ (i := 5) (N := (some 26)) (v := ?_) (a' := ?_) #[true, true, true, true, true, true, false, false, false, false, false] rfl rfl (by kernel_rfl) (fun _ _ _ h => h) (Or.inl ⟨by rfl, ?_⟩) hHeld ?_ ?_
  rotate_left
  · rintro w' ⟨hh, _⟩
    refine exec_load_row 56 (.tmp 3) ?_ w2.heap.size ?_ 56 #[.int .i64 a.code, .slice B nb2 d, .slice D nd2 f] (0, 0) _ hh Tryd.underlying56 rfl info_ans <;> rfl
  rotate_left
  · simp only [Act.put, List.setIfInBounds_toArray, List.set_cons_zero, List.set_cons_succ, i64_w, i32_w]
    rfl
  refine take_ (i := 7) (N := (some 28)) (v := ?_) (a' := ?_) #[true, true, true, true, true, true, false, true, false, false, false] rfl rfl (by kernel_rfl) (fun _ _ _ h => h) (Or.inl ⟨by rfl, ?_⟩) hHeld ?_ ?_
  rotate_left
  · rintro w' ⟨_, hh⟩
    refine exec_load_row 61 (.tmp 5) ?_ w4.heap.size ?_ 61 #[.int .i64 a.code, .slice B2 nb2 d2, .slice D2 nd2 f2] (0, 0) _ hh Tryd.underlying61 rfl info_rans <;> rfl
  rotate_left
  · simp only [Act.put, List.setIfInBounds_toArray, List.set_cons_zero, List.set_cons_succ, i64_w, i32_w]
    rfl
  refine one_ (i := 6) (N := (some 27)) #[true, true, true, true, true, true, true, true, false, false, false] rfl rfl (by kernel_rfl) (by decide) (fun K hK => ?_)
  refine goes_ Tryd.func24 (by kernel_rfl) rfl #[.agg #[.int .i64 a.code, .slice B nb2 d, .slice D nd2 f]] (by rfl) rfl rfl (by first | rfl | (go_simp; done) | (simp [Act.eval]; done) | (simp [Act.eval]; rfl)) ?_
  refine Calls.mono (HLC.out we HBe.out) ?_
  rintro e wf ⟨B7, d7, rfl, hP⟩
  have HPf := Lib.hid (HPe.out.below hP.belowW)
  have HBf := Lib.hid (HBe.out.trans (hP.belowW.mono HBe.out.size))
  have hct := Kd.R_reads' hP.head
  have hct2 : KTk.C wf B7 nd2 a.took := by have h := hct.2.2; rw [← hct.1] at h; exact h
  have HSM := Lib.hid (alike_one a B nb2 d B7 nd2 d7 B2 d2 D2 f2 wf (Kd.C_below (Kd.C_below HCB.out HP4.out.belowW) HBf.out) hct2 (Kd.C_below HCB2.out HBf.out) (Kd.C_below HCD2.out HBf.out))
  clear hP hct hct2
  refine ⟨_, rfl, ?_⟩
  refine hK.out _ _ (⟨HPf.out.blk1, HPf.out.blk0⟩) (fun hHeld => ?_)
  clear hK K
  refine norm_ (a' := ?_) ?_ ?_
  rotate_left
  · show Act.put _ (some 27) _ = _
    simp only [Act.put, List.setIfInBounds_toArray, List.set_cons_zero, List.set_cons_succ, i64_w, i32_w]
    rfl
  refine one_ (i := 8) (N := (some 29)) #[true, true, true, true, true, true, true, true, true, false, false] rfl rfl (by kernel_rfl) (by decide) (fun K hK => ?_)
  refine goes_ Tryd.func23 (by kernel_rfl) rfl #[.agg #[.int .i64 a.code, .slice B nb2 d, .slice B7 nd2 d7], .agg #[.int .i64 a.code, .slice B2 nb2 d2, .slice D2 nd2 f2]] (by rfl) rfl rfl (by first | rfl | (go_simp; done) | (simp [Act.eval]; done) | (simp [Act.eval]; rfl)) ?_
  refine Calls.mono (HSM.out) ?_
  rintro e wg ⟨rfl, hB⟩
  have HPg := Lib.hid (HPf.out.below hB)
  have HBg := Lib.hid (HBf.out.trans (hB.mono HBf.out.size))
  clear hB
  refine ⟨_, rfl, ?_⟩
  refine hK.out _ _ (⟨HPg.out.blk1, HPg.out.blk0⟩) (fun hHeld => ?_)
  clear hK K
  refine norm_ (a' := ?_) ?_ ?_
  rotate_left
  · show Act.put _ (some 29) _ = _
    simp only [Act.put, List.setIfInBounds_toArray, List.set_cons_zero, List.set_cons_succ, i64_w, i32_w]
    rfl
  refine pure_ (i := 9) (N := (some 30)) (v := ?_) (a' := ?_) #[true, true, true, true, true, true, true, true, true, true, false] rfl rfl (by kernel_rfl) (fun _ _ _ h => h) (Or.inl ⟨by rfl, ?_⟩) ?_ ?_
  rotate_left
  · intro w'
    go_simp
    with_reducible rfl
  rotate_left
  · simp only [Act.put, List.setIfInBounds_toArray, List.set_cons_zero, List.set_cons_succ, i64_w, i32_w]
    rfl
  refine pure_ (i := 10) (N := (some 31)) (v := ?_) (a' := ?_) #[true, true, true, true, true, true, true, true, true, true, true] rfl rfl (by kernel_rfl) (fun _ _ _ h => h) (Or.inl ⟨by rfl, ?_⟩) ?_ ?_
  rotate_left
  · intro w'
    go_simp
    with_reducible rfl
  rotate_left
  · simp only [Act.put, List.setIfInBounds_toArray, List.set_cons_zero, List.set_cons_succ, i64_w, i32_w]
    rfl
  refine done_ (by kernel_rfl) ?_
  by_cases h0 : no = 0
  case neg =>
    have hne : (no != 0) = true := by simpa using h0
    clear h0
    go_wp2_with fail
    refine Calls.mono (awake_any _) ?_
    rintro e wz ⟨rfl, hBz⟩
    have HPz := Lib.hid (HPg.out.below hBz)
    clear hBz
    go_wp2_with fail
    go_ret
    exact ⟨rfl, HPz.out.belowW⟩
  case pos =>
    have hne : (no != 0) = false := by simpa using h0
    obtain ⟨hrt, henc⟩ := HRW.out h0
    have hwr := refWriteA_any a B2 nb2 d2 D2 nd2 f2 wg hrt (Kd.C_below HCB2.out HBg.out) (Kd.C_below HCD2.out HBg.out)
    rw [henc] at hwr
    have HWR := Lib.hid hwr
    clear hwr hrt henc h0
    obtain ⟨x0, x1, x2, _⟩ := blk3c (by exact HPg.out.blk0)
    go_wp2_with fail
    clear x0 x1 x2
    refine Calls.mono HWR.out ?_
    rintro e wh ⟨A7, n7, c7, rfl, hP⟩
    have HPh := Lib.hid (HPg.out.below hP.belowW)
    have heq := eqBytes_any HB.out HB.out (Rd.of hP.head) (HA.out.below HPh.out.belowW)
    rw [decide_eq_true rfl] at heq
    have HEQ := Lib.hid heq
    clear hP heq
    go_wp2_with fail
    refine Calls.mono HEQ.out ?_
    rintro e wi ⟨rfl, rfl⟩
    go_wp2_with fail
    refine Calls.mono (awake_any _) ?_
    rintro e wz ⟨rfl, hBz⟩
    have HPz := Lib.hid (HPh.out.below hBz)
    clear hBz
    go_wp2_with fail
    go_ret
    exact ⟨rfl, HPz.out.belowW⟩
end Go.Proofs.YtidjapjidihbpaaDoor
