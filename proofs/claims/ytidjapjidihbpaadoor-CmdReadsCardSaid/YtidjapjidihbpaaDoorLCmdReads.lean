/- CmdReads: bytes are read as the document reads them; what is read is written as these bytes. -/
import Derived.Test.YtidjapjidihbpaaDoorK12
import Derived.Test.YtidjapjidihbpaaDoorK15
import Derived.Test.YtidjapjidihbpaaDoorK8
import Derived.Test.YtidjapjidihbpaaDoorK7
import Derived.Test.YtidjapjidihbpaaDoorK13
import Derived.Test.YtidjapjidihbpaaDoorWLast
import Derived.Laws.Tables
set_option linter.unusedVariables false
set_option linter.unusedSimpArgs false
namespace Go.Proofs.YtidjapjidihbpaaDoor
open Go.RowKit Go.Proofs.YtidjapjidihbpaaDoorW.PrintWords Go.Proofs.YtidjapjidihbpaaDoorW.PrintLast
set_option maxHeartbeats 3200000 in
set_option maxRecDepth 100000 in
theorem reads_law (A : Option Addr) (n c : Nat) (bs : List Int) (w : World) (hC : (Kd.int .u8).C w A n bs) (hc : n ≤ c) (ho : ∀ s ∈ bs, (Lit.int .u8 s).wf = true) (hg : w.cell? ⟨0, 0, none⟩ = some (.iface 154 (.agg #[.pointer (some ⟨1, 32, none⟩)]))) :
    Calls Tryd.prog 4 #[.slice A n c] w fun e w' => e = .returned (.bool true) ∧ Below w.heap.size w w' := by
  have HA := Lib.hid (show Rd w A n c bs from ⟨hC, hc⟩)
  have HG := Lib.hid hg
  have HB := Lib.hid (show ByOk bs from fun x hx => u8_in (ho x hx))
  have hmx := Kd.C_max hC
  clear hC ho hg
  by_cases hl : 3000 < n
  case pos =>
    have h1 : (3000 : Int) < (n : Int) := by omega
    go_enter Tryd.func4, Tryd.ntmps4
    go_wp2_with fail
    refine Calls.mono (awake_any _) ?_
    rintro e wz ⟨rfl, hBz⟩
    have HBZ := Lib.hid hBz
    clear hBz
    go_wp2_with fail
    go_ret
    exact ⟨rfl, HBZ.out⟩
  case neg =>
  have h1 : ¬ (3000 : Int) < (n : Int) := by omega
  have hrd := readCmd_any A n c bs w HA.out (by omega) HB.out
  have hrf := fun W (h : Below w.heap.size w W) => refReadCmd_any A n c bs W (HA.out.below h) (by omega) HB.out
  have hrw := read_write (bs := bs)
  obtain ⟨⟨m, no⟩, hr⟩ : ∃ r, r = readCmd bs := ⟨_, rfl⟩
  rw [← hr] at hrd hrf hrw
  dsimp only at hrd hrf hrw
  have HRD := Lib.hid hrd
  have HRF := Lib.hid hrf
  have HRW := Lib.hid hrw
  clear hr hrd hrf hrw
  go_enter Tryd.func4, Tryd.ntmps4
  go_wp2_with fail
  refine Calls.mono HRD.out ?_
  rintro e w2 ⟨B, nb, d, ev, rfl, hCB, _, hFV, hB2⟩
  have HCB := Lib.hid hCB
  have HNB := Lib.hid (Kd.C_len hCB)
  have HFV := Lib.hid hFV
  have HB2 := Lib.hid hB2
  obtain ⟨cs, hcs⟩ : ∃ x, x = m.cells (.slice B nb d) m.n := ⟨_, rfl⟩
  have H1 := Lib.hid hcs
  have hszcs : cs.size = 18 := by rw [hcs]; rfl
  have HZ1 := Lib.hid hszcs
  have HI1 := Lib.hid (info_cmd.trans (by rw [hszcs]) : (Tryd.prog.info? 26).map (·.size) = some cs.size)
  have HJ1 := Lib.hid (rcmd_info.trans (by rw [hszcs]) : (Tryd.prog.info? 37).map (·.size) = some cs.size)
  have HO1 := Lib.hid (show cs.all (·.oneCell') = true by rw [hcs]; exact cells_one _ _ _ _ _)
  rw [← hcs]
  have HQ2 := Lib.hid ((Hp.nil w2).alloc (.cells #[.int .i64 0, .int .i64 0, .int .i64 0, .string ⟨#[]⟩, .int .i64 0, .int .i64 0, .int .i64 0, .int .i64 0, .int .i64 0, .string ⟨#[]⟩, .bool false, .string ⟨#[]⟩, .string ⟨#[]⟩, .string ⟨#[]⟩, .string ⟨#[]⟩, .slice none 0 0, .int .i64 0, .int .i64 0] 26))
  have HQ3 := Lib.hid (HQ2.out.setRowBlk cs)
  clear hCB hFV hB2 hcs hszcs
  go_wp2_with ((with_reducible refine gate_store (t := 26) (p := 3) (v := .tmp 14) rfl ?_); refine wpList_store_row rfl 26 (.tmp 3) (.tmp 14) rfl w2.heap.size cs rfl rfl 26 #[.int .i64 0, .int .i64 0, .int .i64 0, .string ⟨#[]⟩, .int .i64 0, .int .i64 0, .int .i64 0, .int .i64 0, .int .i64 0, .string ⟨#[]⟩, .bool false, .string ⟨#[]⟩, .string ⟨#[]⟩, .string ⟨#[]⟩, .string ⟨#[]⟩, .slice none 0 0, .int .i64 0, .int .i64 0] HQ2.out.blk0 HI1.out (by rw [HZ1.out]; rfl) HO1.out ?_; generalize (w2.alloc (.cells #[.int .i64 0, .int .i64 0, .int .i64 0, .string ⟨#[]⟩, .int .i64 0, .int .i64 0, .int .i64 0, .int .i64 0, .int .i64 0, .string ⟨#[]⟩, .bool false, .string ⟨#[]⟩, .string ⟨#[]⟩, .string ⟨#[]⟩, .string ⟨#[]⟩, .slice none 0 0, .int .i64 0, .int .i64 0] 26)).setRow w2.heap.size cs = W3 at *)
  have HBW3 := Lib.hid (HB2.out.trans (HQ3.out.belowW.mono HB2.out.size))
  refine Calls.mono (HRF.out W3 HBW3.out) ?_
  rintro e w4 ⟨B2, nb2, d2, rfl, hCB2, hB4⟩
  have hnb : nb2 = nb := by rw [← HNB.out]; exact (Kd.C_len hCB2).symm
  subst hnb
  have HCB2 := Lib.hid hCB2
  have HP4 := Lib.hid (HQ3.out.below hB4)
  have HBW4 := Lib.hid (HBW3.out.trans (hB4.mono HBW3.out.size))
  obtain ⟨ct, hct⟩ : ∃ x, x = m.cells (.slice B2 nb2 d2) m.n := ⟨_, rfl⟩
  have H2 := Lib.hid hct
  have hszct : ct.size = 18 := by rw [hct]; rfl
  have HZ2 := Lib.hid hszct
  have HI2 := Lib.hid (info_cmd.trans (by rw [hszct]) : (Tryd.prog.info? 26).map (·.size) = some ct.size)
  have HJ2 := Lib.hid (rcmd_info.trans (by rw [hszct]) : (Tryd.prog.info? 37).map (·.size) = some ct.size)
  have HO2 := Lib.hid (show ct.all (·.oneCell') = true by rw [hct]; exact cells_one _ _ _ _ _)
  rw [← hct]
  have HQ4 := Lib.hid ((Hp.nil w4).alloc (.cells #[.int .i64 0, .int .i64 0, .int .i64 0, .string ⟨#[]⟩, .int .i64 0, .int .i64 0, .int .i64 0, .int .i64 0, .int .i64 0, .string ⟨#[]⟩, .bool false, .string ⟨#[]⟩, .string ⟨#[]⟩, .string ⟨#[]⟩, .string ⟨#[]⟩, .slice none 0 0, .int .i64 0, .int .i64 0] 37))
  have HQ5 := Lib.hid (HQ4.out.setRowBlk ct)
  clear hCB2 hB4 hct hszct
  go_wp2_with ((with_reducible refine gate_store (t := 37) (p := 5) (v := .tmp 19) rfl ?_); refine wpList_store_row rfl 37 (.tmp 5) (.tmp 19) rfl w4.heap.size ct rfl rfl 37 #[.int .i64 0, .int .i64 0, .int .i64 0, .string ⟨#[]⟩, .int .i64 0, .int .i64 0, .int .i64 0, .int .i64 0, .int .i64 0, .string ⟨#[]⟩, .bool false, .string ⟨#[]⟩, .string ⟨#[]⟩, .string ⟨#[]⟩, .string ⟨#[]⟩, .slice none 0 0, .int .i64 0, .int .i64 0] HQ4.out.blk0 HJ2.out (by rw [HZ2.out]; rfl) HO2.out ?_; generalize (w4.alloc (.cells #[.int .i64 0, .int .i64 0, .int .i64 0, .string ⟨#[]⟩, .int .i64 0, .int .i64 0, .int .i64 0, .int .i64 0, .int .i64 0, .string ⟨#[]⟩, .bool false, .string ⟨#[]⟩, .string ⟨#[]⟩, .string ⟨#[]⟩, .string ⟨#[]⟩, .slice none 0 0, .int .i64 0, .int .i64 0] 37)).setRow w4.heap.size ct = W5 at *)
  have HP5 := Lib.hid (HP4.out.fresh HQ5.out.belowW HQ5.out.head)
  have HBW5 := Lib.hid (HBW4.out.trans (HQ5.out.belowW.mono HBW4.out.size))
  have HPd := Lib.hid (show Hp w W5.drew [ABlk w4.heap.size (.cells ct 37 (0, 0)), ABlk w2.heap.size (.cells cs 26 (0, 0))] from hp_base HB2.out (HP5.out.below (Below.refl _ _).drew))
  have HBd := Lib.hid (HQ5.out.belowW.trans (Below.mono (Below.refl W5.heap.size W5).drew HQ5.out.belowW.size))
  have HFd := Lib.hid (HFV.out.below (HP5.out.below (Below.refl _ _).drew).belowW)
  have HSM := Lib.hid (fun W (h2 : Below w4.heap.size w4 W) => sameCmd_one m B nb2 d B2 d2 W (Kd.C_below (Kd.C_below HCB.out HP4.out.belowW) h2) (Kd.C_below HCB2.out h2))
  have HLC := Lib.hid (fun W => lawCmd_any m B nb2 d m.n W)
  rw [← H1.out, ← H2.out] at HSM
  rw [← H1.out] at HLC
  refine start_ (n := 11) (S := fun w' => w'.heap[w2.heap.size]? = some (.cells cs 26 (0, 0)) ∧ w'.heap[w4.heap.size]? = some (.cells ct 37 (0, 0))) (ds := []) #[false, false, false, false, false, false, false, false, false, false, false] (by kernel_rfl) rfl rfl (⟨HPd.out.blk1, HPd.out.blk0⟩) (fun hHeld => ?_)
  generalize W5.drew = wd at *
  refine pure_ (i := 0) (N := (some 21)) (v := ?_) (a' := ?_) #[true, false, false, false, false, false, false, false, false, false, false] rfl rfl (by kernel_rfl) (fun _ _ _ h => h) (Or.inl ⟨by rfl, ?_⟩) ?_ ?_
  rotate_left
  · intro w'
    go_simp
    with_reducible rfl
  rotate_left
  · simp only [Act.put, List.setIfInBounds_toArray, List.set_cons_zero, List.set_cons_succ, i64_w, i32_w]
    rfl
  refine pure_ (i := 2) (N := (some 23)) (v := ?_) (a' := ?_) #[true, false, true, false, false, false, false, false, false, false, false] rfl rfl (by kernel_rfl) (fun _ _ _ h => h) (Or.inl ⟨by rfl, ?_⟩) ?_ ?_
  rotate_left
  · intro w'
    go_simp
    with_reducible rfl
  rotate_left
  · simp only [Act.put, List.setIfInBounds_toArray, List.set_cons_zero, List.set_cons_succ, i64_w, i32_w]
    rfl
  refine one_ (i := 1) (N := (some 22)) #[true, true, true, false, false, false, false, false, false, false, false] rfl rfl (by kernel_rfl) (by decide) (fun K hK => ?_)
  refine goes_ Tryd.func14 (by kernel_rfl) rfl #[ev] (by rfl) rfl rfl (by first | rfl | (go_simp; done) | (simp [Act.eval]; done) | (simp [Act.eval]; rfl)) ?_
  refine Calls.mono (code_any (below_cell HPd.out.belowW HG.out) HFd.out) ?_
  rintro e we ⟨rfl, hB⟩
  have HPe := Lib.hid (HPd.out.below hB)
  have HBe := Lib.hid (HBd.out.trans (hB.mono HBd.out.size))
  clear hB
  refine ⟨_, rfl, ?_⟩
  refine hK.out _ _ (⟨HPe.out.blk1, HPe.out.blk0⟩) (fun hHeld => ?_)
  clear hK K
  refine norm_ (a' := ?_) ?_ ?_
  rotate_left
  · show Act.put _ (some 22) _ = _
    simp only [Act.put, List.setIfInBounds_toArray, List.set_cons_zero, List.set_cons_succ, i64_w, i32_w]
    rfl
  refine pure_ (i := 3) (N := (some 24)) (v := ?_) (a' := ?_) #[true, true, true, true, false, false, false, false, false, false, false] rfl rfl (by kernel_rfl) (fun _ _ _ h => h) (Or.inl ⟨by rfl, ?_⟩) ?_ ?_
  rotate_left
  · intro w'
    go_simp
    with_reducible rfl
  rotate_left
  · simp only [Act.put, List.setIfInBounds_toArray, List.set_cons_zero, List.set_cons_succ, i64_w, i32_w]
    rfl
  refine pure_ (i := 4) (N := (some 25)) (v := ?_) (a' := ?_) #[true, true, true, true, true, false, false, false, false, false, false] rfl rfl (by kernel_rfl) (fun _ _ _ h => h) (Or.inl ⟨by rfl, ?_⟩) ?_ ?_
  rotate_left
  · intro w'
    go_simp
    with_reducible rfl
  rotate_left
  · simp only [Act.put, List.setIfInBounds_toArray, List.set_cons_zero, List.set_cons_succ, i64_w, i32_w]
    rfl
  refine take_ (i := 5) (N := (some 26)) (v := ?_) (a' := ?_) #[true, true, true, true, true, true, false, false, false, false, false] rfl rfl (by kernel_rfl) (fun _ _ _ h => h) (Or.inl ⟨by rfl, ?_⟩) hHeld ?_ ?_
  rotate_left
  · rintro w' ⟨hh, _⟩
    refine exec_load_row 26 (.tmp 3) ?_ w2.heap.size ?_ 26 cs (0, 0) _ hh Tryd.underlying26 rfl HI1.out <;> rfl
  rotate_left
  · simp only [Act.put, List.setIfInBounds_toArray, List.set_cons_zero, List.set_cons_succ, i64_w, i32_w]
    rfl
  refine take_ (i := 7) (N := (some 28)) (v := ?_) (a' := ?_) #[true, true, true, true, true, true, false, true, false, false, false] rfl rfl (by kernel_rfl) (fun _ _ _ h => h) (Or.inl ⟨by rfl, ?_⟩) hHeld ?_ ?_
  rotate_left
  · rintro w' ⟨_, hh⟩
    refine exec_load_row 37 (.tmp 5) ?_ w4.heap.size ?_ 37 ct (0, 0) _ hh Tryd.underlying37 rfl HJ2.out <;> rfl
  rotate_left
  · simp only [Act.put, List.setIfInBounds_toArray, List.set_cons_zero, List.set_cons_succ, i64_w, i32_w]
    rfl
  refine one_ (i := 6) (N := (some 27)) #[true, true, true, true, true, true, true, true, false, false, false] rfl rfl (by kernel_rfl) (by decide) (fun K hK => ?_)
  refine goes_ Tryd.func11 (by kernel_rfl) rfl #[.agg cs] (by rfl) rfl rfl (by first | rfl | (go_simp; done) | (simp [Act.eval]; done) | (simp [Act.eval]; rfl)) ?_
  refine Calls.mono (HLC.out we) ?_
  rintro e wf ⟨rfl, hB⟩
  have HPf := Lib.hid (HPe.out.below hB)
  have HBf := Lib.hid (HBe.out.trans (hB.mono HBe.out.size))
  clear hB
  refine ⟨_, rfl, ?_⟩
  refine hK.out _ _ (⟨HPf.out.blk1, HPf.out.blk0⟩) (fun hHeld => ?_)
  clear hK K
  refine norm_ (a' := ?_) ?_ ?_
  rotate_left
  · show Act.put _ (some 27) _ = _
    simp only [Act.put, List.setIfInBounds_toArray, List.set_cons_zero, List.set_cons_succ, i64_w, i32_w]
    rfl
  refine one_ (i := 8) (N := (some 29)) #[true, true, true, true, true, true, true, true, true, false, false] rfl rfl (by kernel_rfl) (by decide) (fun K hK => ?_)
  refine goes_ Tryd.func18 (by kernel_rfl) rfl #[.agg cs, .agg ct] (by rfl) rfl rfl (by first | rfl | (go_simp; done) | (simp [Act.eval]; done) | (simp [Act.eval]; rfl)) ?_
  refine Calls.mono (HSM.out wf HBf.out) ?_
  rintro e wg ⟨rfl, hB⟩
  have HPg := Lib.hid (HPf.out.below hB)
  have HBg := Lib.hid (HBf.out.trans (hB.mono HBf.out.size))
  clear hB
  refine ⟨_, rfl, ?_⟩
  refine hK.out _ _ (⟨HPg.out.blk1, HPg.out.blk0⟩) (fun hHeld => ?_)
  clear hK K
  refine norm_ (a' := ?_) ?_ ?_
  rotate_left
  · show Act.put _ (some 29) _ = _
    simp only [Act.put, List.setIfInBounds_toArray, List.set_cons_zero, List.set_cons_succ, i64_w, i32_w]
    rfl
  refine pure_ (i := 9) (N := (some 30)) (v := ?_) (a' := ?_) #[true, true, true, true, true, true, true, true, true, true, false] rfl rfl (by kernel_rfl) (fun _ _ _ h => h) (Or.inl ⟨by rfl, ?_⟩) ?_ ?_
  rotate_left
  · intro w'
    go_simp
    with_reducible rfl
  rotate_left
  · simp only [Act.put, List.setIfInBounds_toArray, List.set_cons_zero, List.set_cons_succ, i64_w, i32_w]
    rfl
  refine pure_ (i := 10) (N := (some 31)) (v := ?_) (a' := ?_) #[true, true, true, true, true, true, true, true, true, true, true] rfl rfl (by kernel_rfl) (fun _ _ _ h => h) (Or.inl ⟨by rfl, ?_⟩) ?_ ?_
  rotate_left
  · intro w'
    go_simp
    with_reducible rfl
  rotate_left
  · simp only [Act.put, List.setIfInBounds_toArray, List.set_cons_zero, List.set_cons_succ, i64_w, i32_w]
    rfl
  refine done_ (by kernel_rfl) ?_
  by_cases h0 : no = 0
  case neg =>
    have hne : (no != 0) = true := by simpa using h0
    clear h0
    go_wp2_with fail
    refine Calls.mono (awake_any _) ?_
    rintro e wz ⟨rfl, hBz⟩
    have HPz := Lib.hid (HPg.out.below hBz)
    clear hBz
    go_wp2_with fail
    go_ret
    exact ⟨rfl, HPz.out.belowW⟩
  case pos =>
    have hne : (no != 0) = false := by simpa using h0
    obtain ⟨hrt, henc⟩ := HRW.out h0
    have hwr := refWrite_any m B2 nb2 d2 wg hrt (Kd.C_below HCB2.out HBg.out)
    rw [henc] at hwr
    unfold Cm.cells at hwr
    have HWR := Lib.hid hwr
    clear hwr hrt henc h0
    have hh := HPg.out.blk0
    rw [H2.out] at hh
    have g0 : wg.cell? ⟨w4.heap.size, 0, none⟩ = some (.int .i64 m.client) := blk_cell hh 0
    have g1 : wg.cell? ⟨w4.heap.size, 1, none⟩ = some (.int .i64 m.req) := blk_cell hh 1
    have g2 : wg.cell? ⟨w4.heap.size, 2, none⟩ = some (.int .i64 m.kind) := blk_cell hh 2
    have g3 : wg.cell? ⟨w4.heap.size, 3, none⟩ = some (.string m.queue) := blk_cell hh 3
    have g4 : wg.cell? ⟨w4.heap.size, 4, none⟩ = some (.int .i64 m.a.vis) := blk_cell hh 4
    have g5 : wg.cell? ⟨w4.heap.size, 5, none⟩ = some (.int .i64 m.a.ret) := blk_cell hh 5
    have g6 : wg.cell? ⟨w4.heap.size, 6, none⟩ = some (.int .i64 m.a.del) := blk_cell hh 6
    have g7 : wg.cell? ⟨w4.heap.size, 7, none⟩ = some (.int .i64 m.a.win) := blk_cell hh 7
    have g8 : wg.cell? ⟨w4.heap.size, 8, none⟩ = some (.int .i64 m.a.max) := blk_cell hh 8
    have g9 : wg.cell? ⟨w4.heap.size, 9, none⟩ = some (.string m.a.dead) := blk_cell hh 9
    have g10 : wg.cell? ⟨w4.heap.size, 10, none⟩ = some (.bool m.a.fifo) := blk_cell hh 10
    have g11 : wg.cell? ⟨w4.heap.size, 11, none⟩ = some (.string m.body) := blk_cell hh 11
    have g12 : wg.cell? ⟨w4.heap.size, 12, none⟩ = some (.string m.group) := blk_cell hh 12
    have g13 : wg.cell? ⟨w4.heap.size, 13, none⟩ = some (.string m.key) := blk_cell hh 13
    have g14 : wg.cell? ⟨w4.heap.size, 14, none⟩ = some (.string m.receipt) := blk_cell hh 14
    have g15 : wg.cell? ⟨w4.heap.size, 15, none⟩ = some (.slice B2 nb2 d2) := blk_cell hh 15
    have g16 : wg.cell? ⟨w4.heap.size, 16, none⟩ = some (.int .i64 m.n) := blk_cell hh 16
    have g17 : wg.cell? ⟨w4.heap.size, 17, none⟩ = some (.int .i64 m.m) := blk_cell hh 17
    clear hh
    go_wp2_with fail
    clear g0 g1 g2 g3 g4 g5 g6 g7 g8 g9 g10 g11 g12 g13 g14 g15 g16 g17
    refine Calls.mono HWR.out ?_
    rintro e wh ⟨A7, n7, c7, rfl, hP⟩
    have HPh := Lib.hid (HPg.out.below hP.belowW)
    have heq := eqBytes_any HB.out HB.out (Rd.of hP.head) (HA.out.below HPh.out.belowW)
    rw [decide_eq_true rfl] at heq
    have HEQ := Lib.hid heq
    clear hP heq
    go_wp2_with fail
    refine Calls.mono HEQ.out ?_
    rintro e wi ⟨rfl, rfl⟩
    go_wp2_with fail
    refine Calls.mono (awake_any _) ?_
    rintro e wz ⟨rfl, hBz⟩
    have HPz := Lib.hid (HPh.out.below hBz)
    clear hBz
    go_wp2_with fail
    go_ret
    exact ⟨rfl, HPz.out.belowW⟩
end Go.Proofs.YtidjapjidihbpaaDoor
