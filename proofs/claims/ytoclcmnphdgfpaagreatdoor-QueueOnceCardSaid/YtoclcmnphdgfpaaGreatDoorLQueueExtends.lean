/- The statement QueueExtends of layer 8: every call of it tells true and leaves what was there as it was. -/
import Derived.Test.YtoclcmnphdgfpaaGreatDoorG8
import Derived.Test.YtoclcmnphdgfpaaGreatDoorG6
set_option linter.unusedVariables false
set_option linter.unusedSimpArgs false
namespace Go.Proofs.YtoclcmnphdgfpaaGreatDoor
open Go.RowKit Go.Proofs.YtoclcmnphdgfpaaGreatDoorW.PrintWords
theorem box7 {w : World} {g : Nat} {v r d i m : Int} {s : ByteArray} {f : Bool} (h : w.heap[g]? = some (.cells #[.int .i64 v, .int .i64 r, .int .i64 d, .int .i64 i, .int .i64 m, .string s, .bool f] 23 (0, 0))) :
    w.cell? ⟨g, 0, none⟩ = some (.int .i64 v) ∧ w.cell? ⟨g, 1, none⟩ = some (.int .i64 r) ∧ w.cell? ⟨g, 2, none⟩ = some (.int .i64 d) ∧ w.cell? ⟨g, 3, none⟩ = some (.int .i64 i) ∧ w.cell? ⟨g, 4, none⟩ = some (.int .i64 m) ∧ w.cell? ⟨g, 5, none⟩ = some (.string s) ∧ w.cell? ⟨g, 6, none⟩ = some (.bool f) :=
  cells7 (a := ⟨v, r, d, i, m, s, f⟩) (l := []) h
theorem QA.mk_val (v r d i m : Int) (s : ByteArray) (f : Bool) : QA.val ⟨v, r, d, i, m, s, f⟩ = .agg #[.int .i64 v, .int .i64 r, .int .i64 d, .int .i64 i, .int .i64 m, .string s, .bool f] := rfl
theorem receipt11 : receipt 1 1 = ⟨#[49, 46, 49]⟩ := slip_small 1 1 (by decide) (by decide)
/-- What the lease that is extended comes to. -/
theorem extends_law {a : QA} {g : ByteArray} {v t y : Int} (hm : a.max = 0) (hr : a.ret = 1048576) (hv : 0 ≤ v ∧ v ≤ 524288) (ht : 0 ≤ t ∧ t ≤ 524288) :
    ∃ (σ1 σ2 σ3 : Qs) (u : Int) (b : Bool) (l : List Tk), qExt (oneQ a 0 2 ⟨1, 0, 1, 0, y, true, ⟨#[120]⟩, g⟩) ⟨#[49, 46, 49]⟩ v = (σ1, 0) ∧ qLs σ1 1 = (u, b) ∧ qTck σ1 t = (σ2, ([], [])) ∧ qRcv σ2 1 0 = (σ3, (l, 0)) ∧
      ((v = 0 ∧ u = 0 ∧ b = false ∧ l.length = 1) ∨ (0 < v ∧ u = v ∧ b = true ∧ v ≤ t ∧ l.length = 1) ∨ (0 < v ∧ u = v ∧ b = true ∧ ¬ v ≤ t ∧ l.length = 0)) := by
  have hs : (⟨1, 0, 1, 0, y, true, ⟨#[120]⟩, g⟩ : Msg).slip = ⟨#[49, 46, 49]⟩ := receipt11
  have hx := ext_one a 0 2 v ⟨1, 0, 1, 0, y, true, ⟨#[120]⟩, g⟩ rfl (by omega)
  rw [hs] at hx
  have hmt : (0 : Int) ≤ t ∧ t ≤ 1099511627776 := by omega
  by_cases h0 : 0 < v
  · rw [if_pos h0] at hx
    dsimp only at hx
    rw [Int.zero_add] at hx
    have hd : (⟨1, 0, 1, 0, v, true, ⟨#[120]⟩, g⟩ : Msg).dies a t = false := by
      unfold Msg.dies
      rw [hm]
      simp
    have hst := tck_stays (a := a) (now0 := 0) (next := 2) hmt hd (by show ¬ (0 : Int) + a.ret ≤ t; omega)
    by_cases h1 : v ≤ t
    · have hlp : (⟨1, 0, 1, 0, v, true, ⟨#[120]⟩, g⟩ : Msg).lapse t = ⟨1, 0, 1, t, 0, false, ⟨#[120]⟩, g⟩ := by
        unfold Msg.lapse
        rw [if_pos (by simp [h1])]
      rw [hlp] at hst
      exact ⟨_, _, _, v, true, _, hx, by simp [qLs, oneQ], hst, rcv_one a t 2 1 0 _ (by decide) ⟨rfl, by show t ≤ t; omega⟩, .inr (.inl ⟨h0, rfl, rfl, h1, rfl⟩)⟩
    · have hlp : (⟨1, 0, 1, 0, v, true, ⟨#[120]⟩, g⟩ : Msg).lapse t = ⟨1, 0, 1, 0, v, true, ⟨#[120]⟩, g⟩ := by
        unfold Msg.lapse
        rw [if_neg (by simp [h1])]
      rw [hlp] at hst
      exact ⟨_, _, _, v, true, _, hx, by simp [qLs, oneQ], hst, rcv_none a t 2 1 0 _ (by decide) (.inl rfl), .inr (.inr ⟨h0, rfl, rfl, h1, rfl⟩)⟩
  · rw [if_neg h0] at hx
    dsimp only at hx
    have hd : (⟨1, 0, 1, 0, 0, false, ⟨#[120]⟩, g⟩ : Msg).dies a t = false := rfl
    have hst := tck_stays (a := a) (now0 := 0) (next := 2) hmt hd (by show ¬ (0 : Int) + a.ret ≤ t; omega)
    have hlp : (⟨1, 0, 1, 0, 0, false, ⟨#[120]⟩, g⟩ : Msg).lapse t = ⟨1, 0, 1, 0, 0, false, ⟨#[120]⟩, g⟩ := rfl
    rw [hlp] at hst
    exact ⟨_, _, _, 0, false, _, hx, by simp [qLs, oneQ], hst, rcv_one a t 2 1 0 _ (by decide) ⟨rfl, by show (0 : Int) ≤ t; omega⟩, .inl ⟨by omega, rfl, rfl, rfl⟩⟩
set_option maxHeartbeats 6400000 in
set_option maxRecDepth 100000 in
theorem extends_at (a : QA) (visible ticks : Int) (w : World) :
    Calls Tryz.prog 5 #[a.val, .int .i64 visible, .int .i64 ticks] w fun e w' => e = .returned (.bool true) ∧ Below w.heap.size w w' := by
  obtain ⟨av, ar, ad, ai, am, az, af⟩ := a
  rw [QA.mk_val]
  have HNW := Lib.hid (fun (w1 : World) (Ps : List Asn) (h : Hp w w1 Ps) => h.quNew ⟨av, 1048576, ad, ai, am, az, af⟩)
  rw [QA.mk_val] at HNW
  have HA0 := Lib.hid ((Hp.nil w).alloc (.cells #[.int .i64 av, .int .i64 ar, .int .i64 ad, .int .i64 ai, .int .i64 am, .string az, .bool af] 23))
  have HA := Lib.hid ((Hp.nil w).alloc (.cells #[.int .i64 av, .int .i64 1048576, .int .i64 ad, .int .i64 ai, .int .i64 am, .string az, .bool af] 23))
  obtain ⟨d0, d1, d2, d3, d4, d5, d6⟩ := box7 HA0.out.blk0
  obtain ⟨c0, c1, c2, c3, c4, c5, c6⟩ := box7 HA.out.blk0
  obtain ⟨r, hr⟩ : ∃ r, r = qRight ⟨av, 1048576, ad, ai, am, az, af⟩ := ⟨_, rfl⟩
  have HR := Lib.hid hr
  clear hr
  cases r
  case false =>
    go_enter Tryz.func5, Tryz.ntmps5
    go_wp2_with fail
    refine Calls.mono (HNW.out _ _ HA.out) ?_
    rintro e w1 ⟨h1, _⟩
    obtain ⟨rfl, hP⟩ := h1 HR.out.symm
    have HP := Lib.hid hP.belowW
    clear hP h1 c0 c1 c2 c3 c4 c5 c6 d0 d1 d2 d3 d4 d5 d6
    go_wp2_with (go_at_call 13; refine Calls.mono (awake_any _) ?_; rintro e w2 ⟨rfl, hB⟩)
    go_ret
    exact ⟨rfl, HP.out.trans (hB.mono HP.out.size)⟩
  by_cases hout : 0 < am ∨ ticks < 0 ∨ 524288 < ticks ∨ visible < 0 ∨ 524288 < visible
  · have hc : 0 < am ∨ (¬ 0 < am ∧ ticks < 0) ∨ (¬ 0 < am ∧ ¬ ticks < 0 ∧ 524288 < ticks) ∨ (¬ 0 < am ∧ ¬ ticks < 0 ∧ ¬ 524288 < ticks ∧ visible < 0) ∨ (¬ 0 < am ∧ ¬ ticks < 0 ∧ ¬ 524288 < ticks ∧ ¬ visible < 0 ∧ 524288 < visible) := by omega
    clear hout
    rcases hc with h1 | ⟨h1, h2⟩ | ⟨h1, h2, h3⟩ | ⟨h1, h2, h3, h4⟩ | ⟨h1, h2, h3, h4, h5⟩
    all_goals
      go_enter Tryz.func5, Tryz.ntmps5
      go_wp2_with fail
      refine Calls.mono (HNW.out _ _ HA.out) ?_
      rintro e w1 ⟨_, h2⟩
      obtain ⟨qb, rfl, hP⟩ := h2 HR.out.symm
      obtain ⟨c0, c1, c2, c3, c4, c5, c6⟩ := box7 hP.blk1
      have HP := Lib.hid hP.belowW
      clear hP h2 d0 d1 d2 d3 d4 d5 d6
      go_wp2_with (go_at_call 13; refine Calls.mono (awake_any _) ?_; rintro e w2 ⟨rfl, hB⟩)
      go_ret
      exact ⟨rfl, HP.out.trans (hB.mono HP.out.size)⟩
  have g1 : ¬ 0 < am := fun h => hout (.inl h)
  have g2 : ¬ ticks < 0 := fun h => hout (.inr (.inl h))
  have g3 : ¬ 524288 < ticks := fun h => hout (.inr (.inr (.inl h)))
  have g4 : ¬ visible < 0 := fun h => hout (.inr (.inr (.inr (.inl h))))
  have g5 : ¬ 524288 < visible := fun h => hout (.inr (.inr (.inr (.inr h))))
  clear hout
  have hr1 := HR.out.symm
  unfold qRight at hr1
  rw [decide_eq_true_iff] at hr1
  dsimp only at hr1
  have hr2 : qRight ⟨av, 1048576, 0, ai, am, az, af⟩ = true := by
    unfold qRight
    rw [decide_eq_true_iff]
    dsimp only
    omega
  have hset : qSet (qNew ⟨av, 1048576, ad, ai, am, az, af⟩) ⟨av, 1048576, 0, ai, am, az, af⟩ = qNew ⟨av, 1048576, 0, ai, am, az, af⟩ := by
    unfold qSet
    rw [hr2, if_pos (by simp [qNew])]
    rfl
  have HSET := Lib.hid hset
  have HSETE := Lib.hid (fun (w1 : World) (qb : Nat) (Ps : List Asn) (h : Hp w w1 (AQu qb (qNew ⟨av, 1048576, ad, ai, am, az, af⟩) 0 :: Ps)) => h.quSet ⟨av, 1048576, 0, ai, am, az, af⟩)
  rw [QA.mk_val, HSET.out] at HSETE
  obtain ⟨g, hg⟩ : ∃ g : ByteArray, g = if af then ⟨#[103]⟩ else ⟨#[]⟩ := ⟨_, rfl⟩
  have hmay : qMaySend ⟨av, 1048576, 0, ai, am, az, af⟩ ⟨#[120]⟩ g ⟨#[]⟩ (-1) = true := by
    rw [hg]
    unfold qMaySend
    cases af
    · rw [if_neg (by decide)]
      rfl
    · rw [if_pos rfl]
      rfl
  have HS := Lib.hid (show qSend (qNew ⟨av, 1048576, 0, ai, am, az, af⟩) ⟨#[120]⟩ g ⟨#[]⟩ (-1) = (oneQ ⟨av, 1048576, 0, ai, am, az, af⟩ 0 2 ⟨1, 0, 0, 0, 0, false, ⟨#[120]⟩, g⟩, (1, 0)) by
    rw [send_first hmay]
    rfl)
  have HV1 := Lib.hid (show qRcv (oneQ ⟨av, 1048576, 0, ai, am, az, af⟩ 0 2 ⟨1, 0, 0, 0, 0, false, ⟨#[120]⟩, g⟩) 1 0 = (oneQ ⟨av, 1048576, 0, ai, am, az, af⟩ 0 2 ⟨1, 0, 1, 0, av, true, ⟨#[120]⟩, g⟩, ([(1, (1, (⟨#[49, 46, 49]⟩, (⟨#[120]⟩, g))))], 0)) by
    rw [rcv_one _ _ _ _ _ _ (by decide) ⟨rfl, by show (0 : Int) ≤ 0; omega⟩]
    rw [← receipt11]
    simp [Msg.take, Msg.tk])
  obtain ⟨σ1, σ2, σ3, u, b, l, hX, hL, hT, hV, hcase⟩ := extends_law (a := ⟨av, 1048576, 0, ai, am, az, af⟩) (g := g) (v := visible) (t := ticks) (y := av) (by show am = 0; omega) rfl (by omega) (by omega)
  have HX := Lib.hid hX
  have HL := Lib.hid hL
  have HT := Lib.hid hT
  have HV := Lib.hid hV
  clear hr1 hr2 hset hmay hX hL hT hV
  rcases hcase with ⟨k1, k2, k3, k4⟩ | ⟨k1, k2, k3, k5, k4⟩ | ⟨k1, k2, k3, k5, k4⟩
  all_goals
    subst k2 k3
    try subst k1
    have HLEN := Lib.hid k4
    clear k4
    cases af
  all_goals
    have HG := Lib.hid hg
    clear hg
    first
      | rw [if_neg (by decide)] at HG
      | rw [if_pos rfl] at HG
    obtain rfl := HG.out
    go_enter Tryz.func5, Tryz.ntmps5
    go_wp2_with fail
    refine Calls.mono (HNW.out _ _ HA.out) ?_
    rintro e w1 ⟨_, h2⟩
    obtain ⟨qb, rfl, hP⟩ := h2 HR.out.symm
    obtain ⟨c0, c1, c2, c3, c4, c5, c6⟩ := box7 hP.blk1
    have hfz := blk_frozen hP.blk1 2
    have HP := Lib.hid (show Hp w _ (ABlk w.heap.size (.cells #[.int .i64 av, .int .i64 1048576, .int .i64 0, .int .i64 ai, .int .i64 am, .string az, .bool _] 23) :: _) from hP.swap.setBlk 2 (.int .i64 0))
    obtain ⟨d0, d1, d2, d3, d4, d5, d6⟩ := box7 HP.out.blk0
    clear hP h2
    go_wp2_with fail
    refine Calls.mono (HSETE.out _ _ _ HP.out.swap) ?_
    rintro e w2 ⟨rfl, hP2⟩
    have HP2 := Lib.hid hP2
    clear hP2 hfz c0 c1 c2 c3 c4 c5 c6 d0 d1 d2 d3 d4 d5 d6
    go_wp2_with fail
    refine Calls.mono (HP2.out.quSend (by decide) ⟨#[120]⟩ _ ⟨#[]⟩ (-1) (by decide) (by decide)) ?_
    rw [HS.out]
    rintro e w3 ⟨rfl, hP3⟩
    have HP3 := Lib.hid hP3
    clear hP3
    go_wp2_with fail
    refine Calls.mono (HP3.out.quRcv (show RecOk w (0 + 1) by unfold RecOk; decide) 1 0) ?_
    rw [HV1.out]
    rintro e w4 ⟨A4, n4, c4, hn4, rfl, hP4⟩
    subst hn4
    obtain ⟨ad4, x4, rfl, hx4, e0, e1, e2, e3, e4⟩ := C_nth_tk (Kd.R_reads' hP4.head).2.2 0 (show 0 < 1 by omega)
    obtain rfl : _ = x4 := Option.some.inj hx4
    simp [Addr.add] at e0 e1 e2 e3 e4
    have HP4 := Lib.hid hP4.swap
    clear hP4 hx4
    go_wp2_with (go_at_call 19; refine Calls.mono (HP4.out.quExt (show RecOk w (0 + 1 + 1) by unfold RecOk; decide) ⟨#[49, 46, 49]⟩ _) ?_; rw [HX.out]; rintro e w5 ⟨rfl, hP5⟩)
    have HP5 := Lib.hid hP5
    clear hP5 e0 e1 e2 e3 e4
    refine Calls.mono (HP5.out.quLeased 1 (by decide)) ?_
    rw [HL.out]
    rintro e w6 ⟨rfl, rfl⟩
    go_wp2_with fail
    refine Calls.mono (HP5.out.quTck (by decide) ticks) ?_
    rw [HT.out]
    rintro e w7 ⟨A7, n7, c7, B7, m7, f7, hn7, hm7, rfl, hP7⟩
    subst hn7 hm7
    have HP7 := Lib.hid hP7.up2
    clear hP7
    go_wp2_with fail
    refine Calls.mono (HP7.out.quRcv (show RecOk w (0 + 1 + 1) by unfold RecOk; decide) 1 0) ?_
    rw [HV.out]
    rintro e w8 ⟨A8, n8, c8, hn8, rfl, hP8⟩
    rw [HLEN.out] at hn8
    subst hn8
    have HP8 := Lib.hid hP8.belowW
    clear hP8
    go_wp2_with (go_at_call 13; refine Calls.mono (awake_any _) ?_; rintro e w9 ⟨rfl, hB⟩)
    go_ret
    refine ⟨?_, HP8.out.trans (hB.mono HP8.out.size)⟩
    first
      | rfl
      | (rw [decide_eq_false (Int.not_le.2 k5)]; rfl)
/-- The walk, as the row asks for it. -/
theorem extends_law0 (a : QA) (visible ticks : Int) (w : World) (_ : (Lit.int .i64 visible).wf = true) (_ : (Lit.int .i64 ticks).wf = true) :
    Calls Tryz.prog 5 #[a.val, .int .i64 visible, .int .i64 ticks] w fun e w' => e = .returned (.bool true) ∧ Below w.heap.size w w' := extends_at a visible ticks w
end Go.Proofs.YtoclcmnphdgfpaaGreatDoor
