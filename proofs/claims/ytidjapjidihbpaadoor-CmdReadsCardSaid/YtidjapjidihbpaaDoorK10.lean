/- Put together: The document's Right. -/
import Derived.Test.YtidjapjidihbpaaDoorK9
import Derived.Test.YtidjapjidihbpaaDoorWLast
set_option linter.unusedVariables false
set_option linter.unusedSimpArgs false
set_option linter.unusedVariables false
set_option linter.unusedSimpArgs false
namespace Go.Proofs.YtidjapjidihbpaaDoor
open Go.RowKit Go.Proofs.YtidjapjidihbpaaDoorW.PrintWords Go.Proofs.YtidjapjidihbpaaDoorW.PrintLast
theorem rcmd_info : (Tryd.prog.info? 37).map (·.size) = some 18 := by kernel_rfl
theorem okNum_fifo (a : QA) : okNum (encFifo a) = true := by unfold encFifo; cases a.fifo <;> rfl
theorem right_num {c : Cm} (h : ¬ (-1 ≤ c.n ∧ c.n < 4611686018427387904)) : cmRight c = false := by unfold cmRight; rw [decide_eq_false h]; rfl
theorem right_len {c : Cm} (h : ¬ c.bodies.length ≤ 10) : cmRight c = false := by
  unfold cmRight
  rw [decide_eq_false h]
  simp
theorem right_all {c : Cm} (h1 : -1 ≤ c.n ∧ c.n < 4611686018427387904) (h2 : c.bodies.length ≤ 10) : cmRight c = ((refNumsOf c c.n).all okNum && (c.texts ++ c.bodies).all okText) := by
  unfold cmRight refNumsOf
  rw [decide_eq_true h1, decide_eq_true h2, List.all_append, List.all_append]
  simp [okNum_fifo]
theorem all_bad {α : Type} {p : α → Bool} {l : List α} {j : Nat} {x : α} (h : l[j]? = some x) (hp : p x = false) : l.all p = false := by
  rw [List.all_eq_false]
  exact ⟨x, List.mem_of_getElem? h, by rw [hp]; decide⟩
theorem all_next {α : Type} {p : α → Bool} {l : List α} {j : Nat} {x : α} (h : l[j]? = some x) (h0 : (l.take j).all p = true) (hp : p x = true) : (l.take (j + 1)).all p = true := by
  rw [List.take_add_one, h, List.all_append, h0]
  simp [hp]
set_option maxHeartbeats 3200000 in
set_option maxRecDepth 100000 in
theorem refRight_any (c : Cm) (A : Option Addr) (nb cb : Nat) (w : World) (hD : Kd.string.C w A nb c.bodies) :
    Calls Tryd.prog 12 #[.agg (c.cells (.slice A nb cb) c.n)] w fun e w' => e = .returned (.bool (cmRight c)) ∧ Below w.heap.size w w' := by
  have HD := Lib.hid hD
  have HNB := Lib.hid (Kd.C_len hD)
  have hmx := Kd.C_max hD
  have HA1 := Lib.hid (right_num (c := c))
  have HA2 := Lib.hid (right_len (c := c))
  have HA3 := Lib.hid (right_all (c := c))
  have HTX := Lib.hid (fun W => reftexts_any c A nb cb c.n W)
  have HNU := Lib.hid (fun hn W => refnumbers_any c A nb cb c.n hn W)
  obtain ⟨R, hR⟩ : ∃ R, R = cmRight c := ⟨_, rfl⟩
  rw [← hR] at HA1 HA2 HA3 ⊢
  rw [HNB.out] at HA2 HA3
  clear hR hD
  have HP0 := Lib.hid ((Hp.nil w).alloc (.cells (c.cells (.slice A nb cb) c.n) 37))
  unfold Cm.cells at HP0 HTX HNU ⊢
  have g15 : (w.alloc (.cells #[.int .i64 c.client, .int .i64 c.req, .int .i64 c.kind, .string c.queue, .int .i64 c.a.vis, .int .i64 c.a.ret, .int .i64 c.a.del, .int .i64 c.a.win, .int .i64 c.a.max, .string c.a.dead, .bool c.a.fifo, .string c.body, .string c.group, .string c.key, .string c.receipt, .slice A nb cb, .int .i64 c.n, .int .i64 c.m] 37)).cell? ⟨w.heap.size, 15, none⟩ = some (.slice A nb cb) := blk_cell HP0.out.blk0 15
  have g16 : (w.alloc (.cells #[.int .i64 c.client, .int .i64 c.req, .int .i64 c.kind, .string c.queue, .int .i64 c.a.vis, .int .i64 c.a.ret, .int .i64 c.a.del, .int .i64 c.a.win, .int .i64 c.a.max, .string c.a.dead, .bool c.a.fifo, .string c.body, .string c.group, .string c.key, .string c.receipt, .slice A nb cb, .int .i64 c.n, .int .i64 c.m] 37)).cell? ⟨w.heap.size, 16, none⟩ = some (.int .i64 c.n) := blk_cell HP0.out.blk0 16
  by_cases h1 : c.n < -1
  case pos =>
    have HE := Lib.hid (HA1.out (by omega))
    go_enter Tryd.func12, Tryd.ntmps12
    go_wp2_with fail
    have hd1 : decide (c.n < -1) = true := decide_eq_true (by omega)
    go_quiet ((go_at_call 35; refine Calls.quiet_of_same (refmost_any _)))
    go_wp2_with fail
    go_ret
    rw [HE.out]
    exact ⟨rfl, HP0.out.belowW.trans (pw_below_drewN (Below.refl _ _) _ |>.mono HP0.out.belowW.size)⟩
  case neg =>
  by_cases h2 : 4611686018427387903 < c.n
  case pos =>
    have HE := Lib.hid (HA1.out (by omega))
    go_enter Tryd.func12, Tryd.ntmps12
    go_wp2_with fail
    have hw : IntKind.i64.wrap 4611686018427387903 = 4611686018427387903 := by decide
    have hd1 : decide (c.n < -1) = false := decide_eq_false (by omega)
    have hd2 : decide (4611686018427387903 < c.n) = true := decide_eq_true (by omega)
    go_quiet ((go_at_call 35; refine Calls.quiet_of_same (refmost_any _)))
    go_wp2_with fail
    go_ret
    rw [HE.out]
    exact ⟨rfl, HP0.out.belowW.trans (pw_below_drewN (Below.refl _ _) _ |>.mono HP0.out.belowW.size)⟩
  case neg =>
  have HCN := Lib.hid (show -1 ≤ c.n ∧ c.n < 4611686018427387904 from by omega)
  by_cases h3 : 10 < nb
  case pos =>
    have h3i : (10 : Int) < (nb : Int) := by omega
    have HE := Lib.hid (HA2.out (by omega))
    go_enter Tryd.func12, Tryd.ntmps12
    go_wp2_with fail
    have hw : IntKind.i64.wrap 4611686018427387903 = 4611686018427387903 := by decide
    have hd1 : decide (c.n < -1) = false := decide_eq_false (by omega)
    have hd2 : decide (4611686018427387903 < c.n) = false := decide_eq_false (by omega)
    have hd3 : decide ((10 : Int) < (nb : Int)) = true := decide_eq_true (by omega)
    go_quiet ((go_at_call 35; refine Calls.quiet_of_same (refmost_any _)))
    go_wp2_with fail
    go_ret
    rw [HE.out]
    exact ⟨rfl, HP0.out.belowW.trans (pw_below_drewN (Below.refl _ _) _ |>.mono HP0.out.belowW.size)⟩
  case neg =>
  have h3i : ¬ (10 : Int) < (nb : Int) := by omega
  have HE := Lib.hid (HA3.out HCN.out (by omega))
  clear HA1 HA2 HA3
  go_enter Tryd.func12, Tryd.ntmps12
  go_wp2_with fail
  have hw : IntKind.i64.wrap 4611686018427387903 = 4611686018427387903 := by decide
  have hd1 : decide (c.n < -1) = false := decide_eq_false (by omega)
  have hd2 : decide (4611686018427387903 < c.n) = false := decide_eq_false (by omega)
  have hd3 : decide ((10 : Int) < (nb : Int)) = false := decide_eq_false (by omega)
  go_quiet ((go_at_call 35; refine Calls.quiet_of_same (refmost_any _)))
  have HPd := Lib.hid (HP0.out.below (pw_below_drewN (Below.refl _ _) nq))
  clear g15 g16
  generalize ((w.alloc (.cells #[.int .i64 c.client, .int .i64 c.req, .int .i64 c.kind, .string c.queue, .int .i64 c.a.vis, .int .i64 c.a.ret, .int .i64 c.a.del, .int .i64 c.a.win, .int .i64 c.a.max, .string c.a.dead, .bool c.a.fifo, .string c.body, .string c.group, .string c.key, .string c.receipt, .slice A nb cb, .int .i64 c.n, .int .i64 c.m] 37)).drewN nq) = W1 at *
  go_wp2_with ((with_reducible refine gate_dst (N := 23) rfl ?_); refine wpList_load_row rfl 37 (.tmp 1) rfl w.heap.size rfl 37 #[.int .i64 c.client, .int .i64 c.req, .int .i64 c.kind, .string c.queue, .int .i64 c.a.vis, .int .i64 c.a.ret, .int .i64 c.a.del, .int .i64 c.a.win, .int .i64 c.a.max, .string c.a.dead, .bool c.a.fifo, .string c.body, .string c.group, .string c.key, .string c.receipt, .slice A nb cb, .int .i64 c.n, .int .i64 c.m] (0, 0) _ HPd.out.blk0 Tryd.underlying37 rfl rcmd_info ?_)
  refine Calls.mono (HNU.out HCN.out W1) ?_
  rintro e w2 ⟨g, rfl, hP⟩
  obtain ⟨ad, had⟩ : ∃ ad : Addr, ad = ⟨g, 0, none⟩ := ⟨_, rfl⟩
  rw [← had]
  have HAD := Lib.hid had
  have HP2 := Lib.hid (HPd.out.fresh hP.belowW hP.head)
  obtain ⟨N, hN⟩ : ∃ N, N = refNumsOf c c.n := ⟨_, rfl⟩
  have hNl : N.length = 11 := by rw [hN]; rfl
  rw [← hN] at HE HP2
  have HNL := Lib.hid hNl
  clear hP had hN hNl HNU
  go_wp2_with fail
  go_loopw [4] (fun i wr => ∃ j : Nat, i = .int .i64 j ∧ j ≤ 11 ∧ Hid ((N.take j).all okNum = true) ∧ Hp w wr [ABlk g (.cells (N.map (Value.int .i64)).toArray 3 (0, 0)), ABlk w.heap.size (.cells #[.int .i64 c.client, .int .i64 c.req, .int .i64 c.kind, .string c.queue, .int .i64 c.a.vis, .int .i64 c.a.ret, .int .i64 c.a.del, .int .i64 c.a.win, .int .i64 c.a.max, .string c.a.dead, .bool c.a.fifo, .string c.body, .string c.group, .string c.key, .string c.receipt, .slice A nb cb, .int .i64 c.n, .int .i64 c.m] 37 (0, 0))]) (fun i _ => 11 - (intOf i).toNat)
  case atStart => exact ⟨0, rfl, Nat.zero_le _, Lib.hid rfl, HP2.out⟩
  case round =>
    obtain ⟨j, rfl, hj, hall, hQ⟩ := hrel
    have HQ := Lib.hid hQ
    clear hQ
    by_cases hj11 : j < 11
    case pos =>
      have i0 : (0 : Int) ≤ (j : Int) := by omega
      have i1 : (j : Int) < 11 := by omega
      have hC : (Kd.int .i64).C wr (some ad) 11 N := by
        rw [HAD.out, ← HNL.out]
        exact C_block HQ.out.blk0 N (by rw [List.toList_toArray]) (by rw [HNL.out]; decide)
      obtain ⟨ad', x, e, hx, d0⟩ := C_nth_scalar hC j hj11
      obtain rfl : ad = ad' := Option.some.inj e
      have HX := Lib.hid hx
      clear hC hx e
      by_cases hx0 : x < 0
      case pos =>
        have HB := Lib.hid (all_bad (p := okNum) HX.out (by unfold okNum; exact decide_eq_false (by omega)))
        go_wp2_with fail
        have hd1 : decide (x < 0) = true := decide_eq_true (by omega)
        go_quiet ((go_at_call 35; refine Calls.quiet_of_same (refmost_any _)))
        go_wp2_with fail
        go_ret
        rw [HE.out, HB.out]
        exact ⟨rfl, (HQ.out.below (pw_below_drewN (Below.refl _ _) _)).belowW⟩
      case neg =>
      by_cases hx1 : 4611686018427387904 < x
      case pos =>
        have HB := Lib.hid (all_bad (p := okNum) HX.out (by unfold okNum; exact decide_eq_false (by omega)))
        go_wp2_with fail
        have hd1 : decide (x < 0) = false := decide_eq_false (by omega)
        have hd2 : decide (4611686018427387904 < x) = true := decide_eq_true (by omega)
        go_quiet ((go_at_call 35; refine Calls.quiet_of_same (refmost_any _)))
        go_wp2_with fail
        go_ret
        rw [HE.out, HB.out]
        exact ⟨rfl, (HQ.out.below (pw_below_drewN (Below.refl _ _) _)).belowW⟩
      case neg =>
        have HB := Lib.hid (all_next (p := okNum) HX.out hall.out (by unfold okNum; exact decide_eq_true (by omega)))
        go_wp2_with fail
        have hd1 : decide (x < 0) = false := decide_eq_false (by omega)
        have hd2 : decide (4611686018427387904 < x) = false := decide_eq_false (by omega)
        go_quiet ((go_at_call 35; refine Calls.quiet_of_same (refmost_any _)))
        go_wp2_with fail
        refine ⟨⟨j + 1, by simp, by omega, HB, HQ.out.below (pw_below_drewN (Below.refl _ _) _)⟩, ?_⟩
        simp [intOf]
        omega
    case neg =>
    have hj' : j = 11 := by omega
    subst hj'
    have hNall : N.all okNum = true := by
      have := hall.out
      rwa [List.take_of_length_le (by rw [HNL.out]; exact Nat.le_refl _)] at this
    rw [hNall, Bool.true_and] at HE
    clear hNall hall
    go_wp2_with fail
    have HPd := Lib.hid (HQ.out.tail.below (Below.refl _ _).drew)
    clear HQ
    refine start_ (n := 6) (S := fun w' => w'.heap[w.heap.size]? = some (.cells #[.int .i64 c.client, .int .i64 c.req, .int .i64 c.kind, .string c.queue, .int .i64 c.a.vis, .int .i64 c.a.ret, .int .i64 c.a.del, .int .i64 c.a.win, .int .i64 c.a.max, .string c.a.dead, .bool c.a.fifo, .string c.body, .string c.group, .string c.key, .string c.receipt, .slice A nb cb, .int .i64 c.n, .int .i64 c.m] 37 (0, 0))) (ds := []) #[false, false, false, false, false, false] (by kernel_rfl) rfl rfl (HPd.out.blk0) (fun hHeld => ?_)
    generalize wr.drew = wd at *
    refine pure_ (i := 2) (N := (some 46)) (v := ?_) (a' := ?_) #[false, false, true, false, false, false] rfl rfl (by kernel_rfl) (fun _ _ _ h => h) (Or.inl ⟨by rfl, ?_⟩) ?_ ?_
    rotate_left
    · intro w'
      go_simp
      with_reducible rfl
    rotate_left
    · simp only [Act.put, List.setIfInBounds_toArray, List.set_cons_zero, List.set_cons_succ, i64_w, i32_w]
      rfl
    refine take_ (i := 3) (N := (some 47)) (v := ?_) (a' := ?_) #[false, false, true, true, false, false] rfl rfl (by kernel_rfl) (fun _ _ _ h => h) (Or.inl ⟨by rfl, ?_⟩) hHeld ?_ ?_
    rotate_left
    · rintro w' hh
      have g15 : w'.cell? ⟨w.heap.size, 15, none⟩ = some (.slice A nb cb) := blk_cell hh 15
      go_simp
      with_reducible rfl
    rotate_left
    · simp only [Act.put, List.setIfInBounds_toArray, List.set_cons_zero, List.set_cons_succ, i64_w, i32_w]
      rfl
    refine take_ (i := 0) (N := (some 44)) (v := ?_) (a' := ?_) #[true, false, true, true, false, false] rfl rfl (by kernel_rfl) (fun _ _ _ h => h) (Or.inl ⟨by rfl, ?_⟩) hHeld ?_ ?_
    rotate_left
    · rintro w' hh
      have g0 : w'.cell? ⟨w.heap.size, 0, none⟩ = some (.int .i64 c.client) := blk_cell hh 0; have g1 : w'.cell? ⟨w.heap.size, 1, none⟩ = some (.int .i64 c.req) := blk_cell hh 1; have g2 : w'.cell? ⟨w.heap.size, 2, none⟩ = some (.int .i64 c.kind) := blk_cell hh 2; have g3 : w'.cell? ⟨w.heap.size, 3, none⟩ = some (.string c.queue) := blk_cell hh 3; have g4 : w'.cell? ⟨w.heap.size, 4, none⟩ = some (.int .i64 c.a.vis) := blk_cell hh 4; have g5 : w'.cell? ⟨w.heap.size, 5, none⟩ = some (.int .i64 c.a.ret) := blk_cell hh 5; have g6 : w'.cell? ⟨w.heap.size, 6, none⟩ = some (.int .i64 c.a.del) := blk_cell hh 6; have g7 : w'.cell? ⟨w.heap.size, 7, none⟩ = some (.int .i64 c.a.win) := blk_cell hh 7; have g8 : w'.cell? ⟨w.heap.size, 8, none⟩ = some (.int .i64 c.a.max) := blk_cell hh 8; have g9 : w'.cell? ⟨w.heap.size, 9, none⟩ = some (.string c.a.dead) := blk_cell hh 9; have g10 : w'.cell? ⟨w.heap.size, 10, none⟩ = some (.bool c.a.fifo) := blk_cell hh 10; have g11 : w'.cell? ⟨w.heap.size, 11, none⟩ = some (.string c.body) := blk_cell hh 11; have g12 : w'.cell? ⟨w.heap.size, 12, none⟩ = some (.string c.group) := blk_cell hh 12; have g13 : w'.cell? ⟨w.heap.size, 13, none⟩ = some (.string c.key) := blk_cell hh 13; have g14 : w'.cell? ⟨w.heap.size, 14, none⟩ = some (.string c.receipt) := blk_cell hh 14; have g15 : w'.cell? ⟨w.heap.size, 15, none⟩ = some (.slice A nb cb) := blk_cell hh 15; have g16 : w'.cell? ⟨w.heap.size, 16, none⟩ = some (.int .i64 c.n) := blk_cell hh 16; have g17 : w'.cell? ⟨w.heap.size, 17, none⟩ = some (.int .i64 c.m) := blk_cell hh 17
      go_simp
      with_reducible rfl
    rotate_left
    · simp only [Act.put, List.setIfInBounds_toArray, List.set_cons_zero, List.set_cons_succ, i64_w, i32_w]
      rfl
    refine one_ (i := 1) (N := some 45) #[true, true, true, true, false, false] rfl rfl (by kernel_rfl) (by decide) (fun K hK => ?_)
    refine goes_ Tryd.func37 (by kernel_rfl) rfl #[.agg #[.int .i64 c.client, .int .i64 c.req, .int .i64 c.kind, .string c.queue, .int .i64 c.a.vis, .int .i64 c.a.ret, .int .i64 c.a.del, .int .i64 c.a.win, .int .i64 c.a.max, .string c.a.dead, .bool c.a.fifo, .string c.body, .string c.group, .string c.key, .string c.receipt, .slice A nb cb, .int .i64 c.n, .int .i64 c.m]] (by rfl) rfl rfl (by first | rfl | (go_simp; done) | (simp [Act.eval]; done) | (simp [Act.eval]; rfl)) ?_
    refine Calls.mono (HTX.out wd) ?_
    rintro e w4 ⟨g2, rfl, hP⟩
    have HP4 := Lib.hid (HPd.out.fresh hP.belowW hP.head)
    have HRW := Lib.hid (Hp.textBlk (xs := c.texts) (by rw [List.toList_toArray]) (by rw [show c.texts.length = 6 from rfl]; decide) HP4.out)
    clear hP
    refine ⟨_, rfl, ?_⟩
    refine hK.out _ _ (HP4.out.blk1) (fun hHeld => ?_)
    clear hK K
    refine norm_ (a' := ?_) ?_ ?_
    rotate_left
    · show Act.put _ (some 45) _ = _
      simp only [Act.put, List.setIfInBounds_toArray, List.set_cons_zero, List.set_cons_succ, i64_w, i32_w]
      rfl
    refine one_ (i := 4) (N := (some 48)) #[true, true, true, true, true, false] rfl rfl (by kernel_rfl) (by decide) (fun K hK => ?_)
    obtain ⟨okr, hR1, hR2, hR3⟩ := HRW.out.appended
    refine Kd.R_append_rows_step Kd.string (w0 := w4) 0 (by rfl) (.tmp 45) (.tmp 47) 24 9 (.string ⟨#[]⟩) 16 rfl Tryd.underlying24 info_str rfl (by decide) (by omega) (.slice (some ⟨g2, 0, none⟩) 6 6) c.texts c.bodies A nb cb okr (fun _ => False) rfl rfl hR1 (Kd.C_below HD.out HP4.out.belowW) (fun _ _ h => h) (fun _ h => h.elim) hR2 (Below.refl _ _) (Nat.zero_le _) (by have h6 : c.texts.length = 6 := rfl; have h7 := HNB.out; omega) ?_
    intro v9 w9 hR9 _ hg9 _
    obtain ⟨A9, d9, hv9⟩ := Kd.R_slice hR9
    have hn9 : (c.texts ++ c.bodies).length = 6 + nb := by rw [List.length_append, HNB.out]; rfl
    rw [hn9] at hv9
    subst hv9
    have HP9 := Lib.hid (hR3 (.slice A9 (6 + nb) d9) w9 _ hR9 ⟨hg9.os, hg9.tape, hg9.output, hg9.size, hg9.block⟩)
    clear hR9 hg9 hR1 hR2 hR3 okr hn9
    refine hK.out _ _ (HP9.out.blk1) (fun hHeld => ?_)
    clear hK K
    refine norm_ (a' := ?_) ?_ ?_
    rotate_left
    · show Act.put _ (some 48) _ = _
      simp only [Act.put, List.setIfInBounds_toArray, List.set_cons_zero, List.set_cons_succ, i64_w, i32_w]
      rfl
    refine pure_ (i := 5) (N := (some 5)) (v := ?_) (a' := ?_) #[true, true, true, true, true, true] rfl rfl (by kernel_rfl) (fun _ _ _ h => h) (Or.inl ⟨by rfl, ?_⟩) ?_ ?_
    rotate_left
    · intro w'
      go_simp
      with_reducible rfl
    rotate_left
    · simp only [Act.put, List.setIfInBounds_toArray, List.set_cons_zero, List.set_cons_succ, i64_w, i32_w]
      rfl
    refine done_ (by kernel_rfl) ?_
    obtain ⟨X, hX⟩ : ∃ X, X = c.texts ++ c.bodies := ⟨_, rfl⟩
    have hXl : X.length = 6 + nb := by rw [hX, List.length_append, HNB.out]; rfl
    rw [← hX] at HE HP9
    have HXL := Lib.hid hXl
    clear hX hXl
    go_wp2_with fail
    go_loopw [6] (fun i wr => ∃ j : Nat, i = .int .i64 j ∧ j ≤ 6 + nb ∧ Hid ((X.take j).all okText = true) ∧ Hp w wr [ARow Kd.string 9 (.slice A9 (6 + nb) d9) X]) (fun i _ => 6 + nb - (intOf i).toNat)
    case atStart => exact ⟨0, rfl, Nat.zero_le _, Lib.hid rfl, HP9.out.only1⟩
    case round =>
      obtain ⟨j, rfl, hj, hall, hQ⟩ := hrel
      have HQ := Lib.hid hQ
      clear hQ
      by_cases hjn : j < 6 + nb
      case pos =>
        have i0 : (0 : Int) ≤ (j : Int) := by omega
        have i1 : (j : Int) < (6 : Int) + (nb : Int) := by omega
        have hCr := Kd.R_reads' HQ.out.head
        rw [← hCr.1] at hCr
        obtain ⟨ad', x, e, hx, d0⟩ := C_nth_scalar hCr.2.2 j hjn
        subst e
        have HX := Lib.hid hx
        clear hCr hx
        by_cases hx0 : 256 < x.size
        case pos =>
          have hx1 : (256 : Int) < (x.size : Int) := by omega
          have HB := Lib.hid (all_bad (p := okText) HX.out (by unfold okText; exact decide_eq_false (by omega)))
          go_wp2_with fail
          go_ret
          rw [HE.out, HB.out]
          exact ⟨rfl, HQ.out.belowW⟩
        case neg =>
          have hx1 : ¬ (256 : Int) < (x.size : Int) := by omega
          have HB := Lib.hid (all_next (p := okText) HX.out hall.out (by unfold okText; exact decide_eq_true (by omega)))
          go_wp2_with fail
          refine ⟨⟨j + 1, by simp, by omega, HB, HQ.out⟩, ?_⟩
          simp [intOf]
          omega
      case neg =>
        have hj' : j = 6 + nb := by omega
        subst hj'
        have hXall : X.all okText = true := by
          have := hall.out
          rwa [List.take_of_length_le (by rw [HXL.out]; exact Nat.le_refl _)] at this
        rw [hXall] at HE
        clear hXall
        go_wp2_with fail
        go_ret
        rw [HE.out]
        exact ⟨rfl, HQ.out.belowW⟩
end Go.Proofs.YtidjapjidihbpaaDoor
