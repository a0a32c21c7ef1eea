/- The statement QueueDelays of layer 8: every call of it tells true and leaves what was there as it was. -/
import Derived.Test.YtoclcmnphdgfpaaGreatDoorG8
set_option linter.unusedVariables false
set_option linter.unusedSimpArgs false
namespace Go.Proofs.YtoclcmnphdgfpaaGreatDoor
open Go.RowKit Go.Proofs.YtoclcmnphdgfpaaGreatDoorW.PrintWords
theorem QA.arr0 (a : QA) : (a.cells ++ ([] : List Value)).toArray = (#[.int .i64 a.vis, .int .i64 a.ret, .int .i64 a.del, .int .i64 a.win, .int .i64 a.max, .string a.dead, .bool a.fifo] : Array Value) := rfl
theorem QA.arr (a : QA) : a.cells.toArray = (#[.int .i64 a.vis, .int .i64 a.ret, .int .i64 a.del, .int .i64 a.win, .int .i64 a.max, .string a.dead, .bool a.fifo] : Array Value) := rfl
set_option maxHeartbeats 6400000 in
set_option maxRecDepth 100000 in
theorem delays_law (a : QA) (body : ByteArray) (delay ticks : Int) (w : World) (_ : body.size ≤ maxLen) (_ : (Lit.int .i64 delay).wf = true) (_ : (Lit.int .i64 ticks).wf = true) :
    Calls Tryz.prog 3 #[a.val, .string body, .int .i64 delay, .int .i64 ticks] w fun e w' => e = .returned (.bool true) ∧ Below w.heap.size w w' := by
  have HNW := Lib.hid (fun (w1 : World) (Ps : List Asn) (h : Hp w w1 Ps) => h.quNew a)
  have HA := Lib.hid ((Hp.nil w).alloc (.cells (a.cells ++ []).toArray 23))
  have HC := Lib.hid (fun (w1 : World) (Ps : List Asn) (h : Hp w w1 (ABlk w.heap.size (.cells (a.cells ++ []).toArray 23) :: Ps)) => cells7 h.blk0)
  have hcc := HC.out _ _ HA.out
  unfold QA.val at HNW ⊢
  rw [QA.arr0 a] at HA HC hcc
  rw [QA.arr a] at HNW ⊢
  obtain ⟨c0, c1, c2, c3, c4, c5, c6⟩ := hcc
  cases hr : qRight a
  case false =>
    have HR := Lib.hid hr
    clear hr
    go_enter Tryz.func3, Tryz.ntmps3
    go_wp2_with fail
    refine Calls.mono (HNW.out _ _ HA.out) ?_
    rintro e w1 ⟨h1, _⟩
    obtain ⟨rfl, hP⟩ := h1 HR.out
    have HP := Lib.hid hP.belowW
    clear hP h1 c0 c1 c2 c3 c4 c5 c6
    go_wp2_with (go_at_call 13; refine Calls.mono (awake_any _) ?_; rintro e w2 ⟨rfl, hB⟩)
    go_ret
    exact ⟨rfl, HP.out.trans (hB.mono HP.out.size)⟩
  have HR := Lib.hid hr
  clear hr
  by_cases hout : a.fifo = true ∨ ticks < 0 ∨ 2097152 < ticks
  · have hc : a.fifo = true ∨ (a.fifo = false ∧ ticks < 0) ∨ (a.fifo = false ∧ ¬ ticks < 0 ∧ 2097152 < ticks) := by
      cases h : a.fifo
      · rw [h] at hout
        simp at hout
        simp
        omega
      · exact .inl rfl
    clear hout
    rcases hc with h1 | ⟨h1, h2⟩ | ⟨h1, h2, h3⟩
    all_goals
      have HF := Lib.hid h1
      clear h1
      go_enter Tryz.func3, Tryz.ntmps3
      go_wp2_with fail
      refine Calls.mono (HNW.out _ _ HA.out) ?_
      rintro e w1 ⟨_, h2⟩
      obtain ⟨qb, rfl, hP⟩ := h2 HR.out
      obtain ⟨c0, c1, c2, c3, c4, c5, c6⟩ := HC.out _ _ hP.swap
      rw [HF.out] at c6
      have HP := Lib.hid hP.belowW
      clear hP h2
      go_wp2_with (go_at_call 13; refine Calls.mono (awake_any _) ?_; rintro e w2 ⟨rfl, hB⟩)
      go_ret
      exact ⟨rfl, HP.out.trans (hB.mono HP.out.size)⟩
  have hf : a.fifo = false := by
    cases h : a.fifo
    · rfl
    · exact absurd (.inl h) hout
  have g1 : ¬ ticks < 0 := fun h => hout (.inr (.inl h))
  have g2 : ¬ 2097152 < ticks := fun h => hout (.inr (.inr h))
  have HF := Lib.hid hf
  clear hout hf
  by_cases hbad : 256 < body.size ∨ delay < -1 ∨ 1048576 < delay
  · have hs : qSend (qNew a) body ⟨#[]⟩ ⟨#[]⟩ delay = (qNew a, (0, 1)) := by
      have : qMaySend a body ⟨#[]⟩ ⟨#[]⟩ delay = false := by
        unfold qMaySend
        rw [HF.out]
        by_cases h : body.size ≤ 256
        · rw [decide_eq_true (⟨h, by decide, by decide⟩ : body.size ≤ 256 ∧ (⟨#[]⟩ : ByteArray).size ≤ 256 ∧ (⟨#[]⟩ : ByteArray).size ≤ 256), Bool.true_and, if_neg (by decide), decide_eq_false (by omega)]
        · rw [decide_eq_false (fun h2 => h h2.1)]
          rfl
      unfold qSend
      rw [if_pos (show qMaySend (qNew a).a body ⟨#[]⟩ ⟨#[]⟩ delay = false from this)]
    have HS := Lib.hid hs
    have hc : (256 : Int) < body.size ∨ (¬ (256 : Int) < body.size ∧ delay < -1) ∨ (¬ (256 : Int) < body.size ∧ ¬ delay < -1 ∧ 1048576 < delay) := by omega
    clear hbad hs
    rcases hc with h1 | ⟨h1, h2⟩ | ⟨h1, h2, h3⟩
    all_goals
      go_enter Tryz.func3, Tryz.ntmps3
      go_wp2_with fail
      refine Calls.mono (HNW.out _ _ HA.out) ?_
      rintro e w1 ⟨_, h2⟩
      obtain ⟨qb, rfl, hP⟩ := h2 HR.out
      obtain ⟨c0, c1, c2, c3, c4, c5, c6⟩ := HC.out _ _ hP.swap
      rw [HF.out] at c6
      have HP := Lib.hid hP
      clear hP h2
      go_wp2_with fail
      refine Calls.mono (HP.out.quSend (by decide) body ⟨#[]⟩ ⟨#[]⟩ delay (by decide) (by decide)) ?_
      rw [HS.out]
      rintro e w2 ⟨rfl, hP2⟩
      have HP2 := Lib.hid hP2.belowW
      clear hP2 c0 c1 c2 c3 c4 c5 c6
      go_wp2_with (go_at_call 13; refine Calls.mono (awake_any _) ?_; rintro e w3 ⟨rfl, hB⟩)
      go_ret
      exact ⟨rfl, HP2.out.trans (hB.mono HP2.out.size)⟩
  have f1 : ¬ (256 : Int) < body.size := fun h => hbad (.inl (by omega))
  have f2 : ¬ delay < -1 := fun h => hbad (.inr (.inl h))
  have f3 : ¬ 1048576 < delay := fun h => hbad (.inr (.inr h))
  have hrr := HR.out
  unfold qRight at hrr
  rw [decide_eq_true_iff] at hrr
  have hret := (show 1 ≤ a.ret ∧ a.ret ≤ 1048576 by omega)
  have hdel := (show 0 ≤ a.del ∧ a.del ≤ 1048576 by omega)
  have hvis := (show 1 ≤ a.vis ∧ a.vis ≤ 1048576 by omega)
  obtain ⟨dl, hdl⟩ : ∃ dl, dl = if delay < 0 then a.del else delay := ⟨_, rfl⟩
  have HS := Lib.hid (show qSend (qNew a) body ⟨#[]⟩ ⟨#[]⟩ delay = (oneQ a 0 2 ⟨1, 0, 0, dl, 0, false, body, ⟨#[]⟩⟩, (1, 0)) by
    rw [hdl]
    refine send_first ?_
    unfold qMaySend
    rw [HF.out, decide_eq_true (⟨by omega, by decide, by decide⟩ : body.size ≤ 256 ∧ (⟨#[]⟩ : ByteArray).size ≤ 256 ∧ (⟨#[]⟩ : ByteArray).size ≤ 256), Bool.true_and, if_neg (by decide), decide_eq_true ⟨by decide, by omega, by omega⟩])
  have hdc : (delay = -1 ∧ a.del = dl) ∨ (delay ≠ -1 ∧ delay = dl) := by
    rw [hdl]
    split <;> omega
  have hdb : 0 ≤ dl ∧ dl ≤ 1048576 := by rw [hdl]; split <;> omega
  clear hbad hdl hrr
  have hmt : (0 : Int) ≤ ticks ∧ ticks ≤ 1099511627776 := by omega
  have HDI := Lib.hid (show (⟨1, 0, 0, dl, 0, false, body, ⟨#[]⟩⟩ : Msg).dies a ticks = false from rfl)
  have HLP := Lib.hid (show (⟨1, 0, 0, dl, 0, false, body, ⟨#[]⟩⟩ : Msg).lapse ticks = ⟨1, 0, 0, dl, 0, false, body, ⟨#[]⟩⟩ from rfl)
  have hcase : (a.ret ≤ ticks) ∨ ((¬ a.ret ≤ ticks ∧ dl ≤ ticks) ∨ (¬ a.ret ≤ ticks ∧ ¬ dl ≤ ticks)) := by omega
  rcases hcase with k1 | (⟨k1, k2⟩ | ⟨k1, k2⟩)
  · skip
    have HT := Lib.hid (tck_goes (a := a) (now0 := 0) (next := 2) hmt HDI.out (by show (0 : Int) + a.ret ≤ ticks; omega))
    have HV := Lib.hid (rcv_empty a ticks 2 1 0 (by decide))
    rcases hdc with ⟨h1, h2⟩ | ⟨h1, h2⟩
    all_goals
      first
        | (have hde : (delay == -1) = true := by rw [h1]; rfl)
        | (have hde : (delay == -1) = false := by simpa using h1)
      have HD2 := Lib.hid h2
      clear h1 h2
      go_enter Tryz.func3, Tryz.ntmps3
      go_wp2_with fail
      refine Calls.mono (HNW.out _ _ HA.out) ?_
      rintro e w1 ⟨_, h2⟩
      obtain ⟨qb, rfl, hP⟩ := h2 HR.out
      obtain ⟨c0, c1, c2, c3, c4, c5, c6⟩ := HC.out _ _ hP.swap
      rw [HF.out] at c6
      have HP := Lib.hid hP
      clear hP h2
      go_wp2_with fail
      refine Calls.mono (HP.out.quSend (by decide) body ⟨#[]⟩ ⟨#[]⟩ delay (by decide) (by decide)) ?_
      rw [HS.out]
      rintro e w2 ⟨rfl, hP2⟩
      obtain ⟨c0, c1, c2, c3, c4, c5, c6⟩ := HC.out _ _ hP2.swap
      try rw [HD2.out] at c2
      have HP2 := Lib.hid hP2
      clear hP2
      go_wp2_with fail
      refine Calls.mono (HP2.out.quTck (by decide) ticks) ?_
      rw [HT.out]
      rintro e w4 ⟨A4, n4, c4', A5, n5, c5', hn4, hn5, rfl, hP4⟩
      subst hn4 hn5
      obtain ⟨c0, c1, c2, c3, c4, c5, c6⟩ := HC.out _ _ hP4.up3
      have HP4 := Lib.hid hP4.up2
      clear hP4
      go_wp2_with fail
      refine Calls.mono (HP4.out.quRcv (show RecOk w (0 + 1) by unfold RecOk; decide) 1 0) ?_
      rw [HV.out]
      rintro e w5 ⟨A6, k6, c6', hk6, rfl, hP5⟩
      subst hk6
      obtain ⟨c0, c1, c2, c3, c4, c5, c6⟩ := HC.out _ _ hP5.up4
      obtain ⟨ad5, x5, rfl, hx5, y0⟩ := C_nth_int (Kd.R_reads' hP5.tail.tail.tail.head).2.2 0 (by decide)
      obtain rfl : (1 : Int) = x5 := Option.some.inj hx5
      simp [Addr.add] at y0
      clear hx5
      have HP5 := Lib.hid hP5.belowW
      clear hP5
      go_wp2_with (go_at_call 13; refine Calls.mono (awake_any _) ?_; rintro e w9 ⟨rfl, hB⟩)
      go_ret
      exact ⟨rfl, HP5.out.trans (hB.mono HP5.out.size)⟩
  · skip
    have ht := tck_stays (a := a) (now0 := 0) (next := 2) hmt HDI.out (by show ¬ (0 : Int) + a.ret ≤ ticks; omega)
    rw [HLP.out] at ht
    have HT := Lib.hid ht
    have HV := Lib.hid (rcv_one a ticks 2 1 0 ⟨1, 0, 0, dl, 0, false, body, ⟨#[]⟩⟩ (by decide) ⟨rfl, k2⟩)
    clear ht
    rcases hdc with ⟨h1, h2⟩ | ⟨h1, h2⟩
    all_goals
      first
        | (have hde : (delay == -1) = true := by rw [h1]; rfl)
        | (have hde : (delay == -1) = false := by simpa using h1)
      try
        obtain k3 : delay ≤ ticks
        · omega
      have HD2 := Lib.hid h2
      clear h1 h2
      go_enter Tryz.func3, Tryz.ntmps3
      go_wp2_with fail
      refine Calls.mono (HNW.out _ _ HA.out) ?_
      rintro e w1 ⟨_, h2⟩
      obtain ⟨qb, rfl, hP⟩ := h2 HR.out
      obtain ⟨c0, c1, c2, c3, c4, c5, c6⟩ := HC.out _ _ hP.swap
      rw [HF.out] at c6
      have HP := Lib.hid hP
      clear hP h2
      go_wp2_with fail
      refine Calls.mono (HP.out.quSend (by decide) body ⟨#[]⟩ ⟨#[]⟩ delay (by decide) (by decide)) ?_
      rw [HS.out]
      rintro e w2 ⟨rfl, hP2⟩
      obtain ⟨c0, c1, c2, c3, c4, c5, c6⟩ := HC.out _ _ hP2.swap
      try rw [HD2.out] at c2
      have HP2 := Lib.hid hP2
      clear hP2
      go_wp2_with fail
      refine Calls.mono (HP2.out.quTck (by decide) ticks) ?_
      rw [HT.out]
      rintro e w4 ⟨A4, n4, c4', A5, n5, c5', hn4, hn5, rfl, hP4⟩
      subst hn4 hn5
      obtain ⟨c0, c1, c2, c3, c4, c5, c6⟩ := HC.out _ _ hP4.up3
      have HP4 := Lib.hid hP4.up2
      clear hP4
      go_wp2_with fail
      refine Calls.mono (HP4.out.quRcv (show RecOk w (0 + 1) by unfold RecOk; decide) 1 0) ?_
      rw [HV.out]
      rintro e w5 ⟨A6, k6, c6', hk6, rfl, hP5⟩
      subst hk6
      obtain ⟨c0, c1, c2, c3, c4, c5, c6⟩ := HC.out _ _ hP5.up4
      obtain ⟨ad6, x6, rfl, hx6, e0, e1, e2, e3, e4⟩ := C_nth_tk (Kd.R_reads' hP5.head).2.2 0 (by simp)
      obtain rfl : _ = x6 := Option.some.inj hx6
      simp [Addr.add, Msg.tk] at e0 e1 e2 e3 e4
      clear hx6
      have hbb : (body.toList == body.toList) = true := by simp
      have HP5 := Lib.hid hP5.belowW
      clear hP5
      go_wp2_with (go_at_call 13; refine Calls.mono (awake_any _) ?_; rintro e w9 ⟨rfl, hB⟩)
      go_ret
      exact ⟨rfl, HP5.out.trans (hB.mono HP5.out.size)⟩
  · skip
    have ht := tck_stays (a := a) (now0 := 0) (next := 2) hmt HDI.out (by show ¬ (0 : Int) + a.ret ≤ ticks; omega)
    rw [HLP.out] at ht
    have HT := Lib.hid ht
    have HV := Lib.hid (rcv_none a ticks 2 1 0 ⟨1, 0, 0, dl, 0, false, body, ⟨#[]⟩⟩ (by decide) (.inr (by show ticks < dl; omega)))
    clear ht
    rcases hdc with ⟨h1, h2⟩ | ⟨h1, h2⟩
    all_goals
      first
        | (have hde : (delay == -1) = true := by rw [h1]; rfl)
        | (have hde : (delay == -1) = false := by simpa using h1)
      try
        obtain k3 : ¬ delay ≤ ticks
        · omega
      have HD2 := Lib.hid h2
      clear h1 h2
      go_enter Tryz.func3, Tryz.ntmps3
      go_wp2_with fail
      refine Calls.mono (HNW.out _ _ HA.out) ?_
      rintro e w1 ⟨_, h2⟩
      obtain ⟨qb, rfl, hP⟩ := h2 HR.out
      obtain ⟨c0, c1, c2, c3, c4, c5, c6⟩ := HC.out _ _ hP.swap
      rw [HF.out] at c6
      have HP := Lib.hid hP
      clear hP h2
      go_wp2_with fail
      refine Calls.mono (HP.out.quSend (by decide) body ⟨#[]⟩ ⟨#[]⟩ delay (by decide) (by decide)) ?_
      rw [HS.out]
      rintro e w2 ⟨rfl, hP2⟩
      obtain ⟨c0, c1, c2, c3, c4, c5, c6⟩ := HC.out _ _ hP2.swap
      try rw [HD2.out] at c2
      have HP2 := Lib.hid hP2
      clear hP2
      go_wp2_with fail
      refine Calls.mono (HP2.out.quTck (by decide) ticks) ?_
      rw [HT.out]
      rintro e w4 ⟨A4, n4, c4', A5, n5, c5', hn4, hn5, rfl, hP4⟩
      subst hn4 hn5
      obtain ⟨c0, c1, c2, c3, c4, c5, c6⟩ := HC.out _ _ hP4.up3
      have HP4 := Lib.hid hP4.up2
      clear hP4
      go_wp2_with fail
      refine Calls.mono (HP4.out.quRcv (show RecOk w (0 + 1) by unfold RecOk; decide) 1 0) ?_
      rw [HV.out]
      rintro e w5 ⟨A6, k6, c6', hk6, rfl, hP5⟩
      subst hk6
      obtain ⟨c0, c1, c2, c3, c4, c5, c6⟩ := HC.out _ _ hP5.up4
      have HP5 := Lib.hid hP5.belowW
      clear hP5
      go_wp2_with (go_at_call 13; refine Calls.mono (awake_any _) ?_; rintro e w9 ⟨rfl, hB⟩)
      go_ret
      exact ⟨rfl, HP5.out.trans (hB.mono HP5.out.size)⟩
end Go.Proofs.YtoclcmnphdgfpaaGreatDoor
