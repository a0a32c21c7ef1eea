/- The statement QueueOnce of layer 8: every call of it tells true and leaves what was there as it was. -/
import Derived.Test.YtoclcmnphdgfpaaGreatDoorG14
import Derived.Test.YtoclcmnphdgfpaaGreatDoorG13
import Derived.Test.YtoclcmnphdgfpaaGreatDoorLQueueDoes
set_option linter.unusedVariables false
set_option linter.unusedSimpArgs false
namespace Go.Proofs.YtoclcmnphdgfpaaGreatDoor
open Go.RowKit Go.Maps Go.Proofs.YtoclcmnphdgfpaaGreatDoorW.PrintWords Go.Proofs.YtoclcmnphdgfpaaGreatDoorW.PrintLast
set_option maxHeartbeats 1600000 in
set_option maxRecDepth 100000 in
theorem once_at (a : QA) (A : Option Addr) (n cap : Nat) (xs : List QOp) (body0 key0 : ByteArray) (w : World) (hC : KQOp.C w A n xs) (hok : ∀ x ∈ xs, opWf x) :
    Calls Tryz.prog 7 #[a.val, .slice A n cap, .string body0, .string key0] w fun e w' => e = .returned (.bool true) ∧ Below w.heap.size w w' := by
  obtain ⟨av, ar, ad, ai, am, az, af⟩ := a
  rw [QA.mk_val]
  have HNW := Lib.hid (fun (w1 : World) (Ps : List Asn) (h : Hp w w1 Ps) => h.quNew ⟨av, ar, ad, ai, am, az, af⟩)
  have HLA := Lib.hid (fun w1 : World => lawAttr_any ⟨av, ar, ad, ai, am, az, af⟩ w1)
  have HRN := Lib.hid (fun w1 : World => refNew_any ⟨av, ar, ad, ai, am, az, af⟩ w1)
  rw [QA.mk_val] at HNW HLA HRN
  have HC := Lib.hid hC
  have HOK := Lib.hid hok
  have HLX := Lib.hid (show n = xs.length from (Kd.C_len hC).symm)
  have HFW := Lib.hid (fun (w1 : World) (h : Below w.heap.size w w1) => few_any A n cap xs w1 (Kd.C_below hC h) (Kd.C_len hC) hok)
  obtain ⟨fw, hfw⟩ : ∃ fw, fw = fewB xs := ⟨_, rfl⟩
  rw [← hfw] at HFW
  have HFB := Lib.hid hfw
  obtain ⟨r, hr⟩ : ∃ r, r = qRight ⟨av, ar, ad, ai, am, az, af⟩ := ⟨_, rfl⟩
  rw [← hr] at HNW
  have HR := Lib.hid hr
  have HR0 := Lib.hid (show Qs.val (qNew ⟨av, ar, ad, ai, am, az, af⟩) (.slice none 0 0) (.slice none 0 0) = .agg #[.int .i64 av, .int .i64 ar, .int .i64 ad, .int .i64 ai, .int .i64 am, .string az, .bool af, .int .i64 0, .int .i64 1, .slice none 0 0, .slice none 0 0] from rfl)
  clear hC hok hfw hr
  have HA := Lib.hid ((Hp.nil w).alloc (.cells #[.int .i64 av, .int .i64 ar, .int .i64 ad, .int .i64 ai, .int .i64 am, .string az, .bool af] 23))
  obtain ⟨c0, c1, c2, c3, c4, c5, c6⟩ := box7 HA.out.blk0
  go_enter Tryz.func7, Tryz.ntmps7
  go_wp2_with fail
  refine Calls.mono (HNW.out _ _ HA.out) ?_
  clear c0 c1 c2 c3 c4 c5 c6
  cases r
  case false =>
    rintro e w2 ⟨h1, _⟩
    obtain ⟨rfl, hP⟩ := h1 rfl
    have HP2 := Lib.hid hP
    clear hP h1
    go_wp2_with (go_at_call 13; refine Calls.mono (awake_any _) ?_; rintro e wz ⟨rfl, hB⟩)
    go_ret
    exact ⟨rfl, HP2.out.belowW.trans (hB.mono HP2.out.belowW.size)⟩
  case true =>
  rintro e w2 ⟨_, h2⟩
  obtain ⟨qb, rfl, hP⟩ := h2 rfl
  have HP2 := Lib.hid hP
  clear hP h2
  go_wp2_with fail
  refine Calls.mono (HFW.out w2 HP2.out.belowW) ?_
  rintro e w3 ⟨rfl, hB⟩
  have HP3 := Lib.hid (HP2.out.below hB)
  clear hB
  obtain ⟨c0, c1, c2, c3, c4, c5, c6⟩ := box7 HP3.out.blk1
  have HIE := Lib.hid (isEmpty_size key0)
  cases fw
  case false =>
    go_wp2_with (go_at_call 13; refine Calls.mono (awake_any _) ?_; rintro e wz ⟨rfl, hB⟩)
    go_ret
    exact ⟨rfl, HP3.out.belowW.trans (hB.mono HP3.out.belowW.size)⟩
  have hn60 : n ≤ 60 := by rw [HLX.out]; exact few_len HFB.out.symm
  by_cases hout : 256 < (body0.size : Int) ∨ 256 < (key0.size : Int) ∨ key0.size = 0 ∨ ai < 1
  · have hc : 256 < (body0.size : Int) ∨ (¬ 256 < (body0.size : Int) ∧ 256 < (key0.size : Int)) ∨ (¬ 256 < (body0.size : Int) ∧ ¬ 256 < (key0.size : Int) ∧ key0.size = 0) ∨ (¬ 256 < (body0.size : Int) ∧ ¬ 256 < (key0.size : Int) ∧ key0.size ≠ 0 ∧ ai < 1) := by omega
    clear hout
    have hie := HIE.out
    rcases hc with h1 | ⟨h1, h2⟩ | ⟨h1, h2, h3⟩ | ⟨h1, h2, h3, h4⟩
    all_goals
      try first
        | (rw [decide_eq_true h3] at hie; have hk0 := nil_size h3)
        | rw [decide_eq_false h3] at hie
      try clear h3
      go_wp2_with (go_at_call 13; refine Calls.mono (awake_any _) ?_; rintro e wz ⟨rfl, hB⟩)
      go_ret
      exact ⟨rfl, HP3.out.belowW.trans (hB.mono HP3.out.belowW.size)⟩
  have g1 : ¬ 256 < (body0.size : Int) := fun h => hout (.inl h)
  have g2 : ¬ 256 < (key0.size : Int) := fun h => hout (.inr (.inl h))
  have g3 : key0.size ≠ 0 := fun h => hout (.inr (.inr (.inl h)))
  have g4 : ¬ ai < 1 := fun h => hout (.inr (.inr (.inr h)))
  have hie := HIE.out
  rw [decide_eq_false g3] at hie
  have HK3 := Lib.hid (show 0 < key0.size ∧ key0.size ≤ 256 ∧ body0.size ≤ 256 by omega)
  clear hout g3
  go_wp2_with fail
  clear c0 c1 c2 c3 c4 c5 c6
  go_loopw [49] (fun i wr => ∃ (j : Nat) (σ : Qs), i = .int .i64 j ∧ j ≤ n ∧ Hid (QInv σ j) ∧ Hid (σ.a = ⟨av, ar, ad, ai, am, az, af⟩) ∧ Hp w wr (AQu qb σ j :: ABlk w.heap.size (.cells #[.int .i64 av, .int .i64 ar, .int .i64 ad, .int .i64 ai, .int .i64 am, .string az, .bool af] 23) :: [])) (fun i _ => n - (intOf i).toNat)
  case atStart => exact ⟨0, qNew ⟨av, ar, ad, ai, am, az, af⟩, rfl, Nat.zero_le _, Lib.hid (QInv.new HR.out.symm), Lib.hid rfl, HP3.out⟩
  case round =>
    obtain ⟨j, σ, rfl, hj, hI, hSA, hQ⟩ := hrel
    have HQ := Lib.hid hQ
    clear hQ
    by_cases hjn : j < n
    case neg =>
      have hj' : j = n := by omega
      subst hj'
      clear hj hjn
      obtain ⟨c0, c1, c2, c3, c4, c5, c6⟩ := box7 HQ.out.blk1
      obtain ⟨m, hm⟩ : ∃ m, m = min body0.size (256 - body0.size) := ⟨_, rfl⟩
      have hkk := HK3.out
      have hsub : IntKind.i64.wrap (256 - (body0.size : Int)) = 256 - (body0.size : Int) := IntWalk.i64_in _ (by omega)
      have hmn : ∀ ts t W, (Builtin.min_ ts t #[.int .i64 (body0.size : Int), .int .i64 (256 - (body0.size : Int))]).run Tryz.prog W = .ok (.int .i64 (m : Int)) W := by
        intro ts t W
        rw [run_min_int2]
        split <;> (congr 2; omega)
      have hsl := slice_str body0 m (by omega)
      have hb2 : (body0 ++ body0.extract 0 m).size ≤ 256 := by rw [ByteArray.size_append, ByteArray.size_extract]; omega
      have HOL := Lib.hid (fun g hg => once_law (σ := σ) (body := body0) (body2 := body0 ++ body0.extract 0 m) (g := g) (key := key0) (by rw [hSA.out]; dsimp only; omega) ⟨hkk.1, hkk.2.1⟩ hkk.2.2 hb2 hg)
      obtain ⟨b2, hb2e⟩ : ∃ b2, b2 = body0 ++ body0.extract 0 m := ⟨_, rfl⟩
      have HB2 := Lib.hid hb2e
      rw [← hb2e] at HOL
      have hkm : key0.size ≤ maxLen := Nat.le_trans hkk.2.1 (by decide)
      clear hm hb2 hkk hb2e
      cases af
      case' false =>
        have HO := HOL.out ⟨#[]⟩ (.inr ⟨by rw [hSA.out], rfl⟩)
        obtain ⟨id0, hid⟩ : ∃ id, id = (qSend σ body0 ⟨#[]⟩ key0 (-1)).2.1 := ⟨_, rfl⟩
        have HID := Lib.hid hid
      case' true =>
        have HO := HOL.out ⟨#[103]⟩ (.inl ⟨by rw [hSA.out], rfl⟩)
        obtain ⟨id0, hid⟩ : ∃ id, id = (qSend σ body0 ⟨#[103]⟩ key0 (-1)).2.1 := ⟨_, rfl⟩
        have HID := Lib.hid hid
      all_goals
        clear hid
        go_wp2_with fail
        refine Calls.mono (HQ.out.quSend (by omega) body0 _ key0 (-1) (by decide) hkm) ?_
        rcases HO with hE | ⟨σ1, id, hE1, hE2⟩
        · rw [hE, ← HID.out]
          rintro e w6 ⟨rfl, hP⟩
          have HP6 := Lib.hid hP
          clear hP hE
          go_wp2_with (go_at_call 13; refine Calls.mono (awake_any _) ?_; rintro e wz ⟨rfl, hB⟩)
          go_ret
          exact ⟨rfl, HP6.out.belowW.trans (hB.mono HP6.out.belowW.size)⟩
        · rw [hE1]
          rintro e w6 ⟨rfl, hP⟩
          have HP6 := Lib.hid hP
          have HE2 := Lib.hid hE2
          clear hP hE1 hE2
          obtain ⟨ln, hln⟩ : ∃ ln, ln = σ1.l.length := ⟨_, rfl⟩
          go_wp2_with fail
          refine Calls.mono (HP6.out.quIds (by omega)) ?_
          rw [← hln]
          rintro e w7 ⟨A7, c7, rfl, hP⟩
          have HP7 := Lib.hid hP.tail
          clear hP
          go_wp2_with fail
          rw [← HB2.out]
          refine Calls.mono (HP7.out.quSend (by omega) b2 _ key0 (-1) (by decide) hkm) ?_
          rw [HE2.out]
          rintro e w8 ⟨rfl, hP⟩
          have HP8 := Lib.hid hP
          clear hP
          go_wp2_with fail
          refine Calls.mono (HP8.out.quIds (by omega)) ?_
          rw [← hln]
          rintro e w9 ⟨A9, c9, rfl, hP⟩
          have HP9 := Lib.hid hP
          clear hP
          go_wp2_with (go_at_call 13; refine Calls.mono (awake_any _) ?_; rintro e wz ⟨rfl, hB⟩)
          go_ret
          exact ⟨rfl, HP9.out.belowW.trans (hB.mono HP9.out.belowW.size)⟩
    case pos =>
    have i0 : (0 : Int) ≤ (j : Int) := by omega
    have i1 : (j : Int) < (n : Int) := by omega
    obtain ⟨oa, kind, num, num2, body, group, key, rec, qa, rfl, hgs, hks, e0, e1, e2, e3, e4, e5, e6, e7, e8, e9, e10, e11, e12, e13⟩ := C_nth_call (Kd.C_below HC.out HQ.out.belowW) HOK.out j hjn
    have HA := Lib.hid (HQ.out.alloc (.cells #[.int .i64 kind, .int .i64 num, .int .i64 num2, .string body, .string group, .string key, .string rec, .int .i64 qa.vis, .int .i64 qa.ret, .int .i64 qa.del, .int .i64 qa.win, .int .i64 qa.max, .string qa.dead, .bool qa.fifo] 52))
    obtain ⟨ob, hob⟩ : ∃ ob, ob = wr.heap.size := ⟨_, rfl⟩
    go_upto_region 7 with (fail)
    rw [← hob] at HA ⊢
    clear hob e0 e1 e2 e3 e4 e5 e6 e7 e8 e9 e10 e11 e12 e13
    generalize wr.alloc (.cells #[.int .i64 kind, .int .i64 num, .int .i64 num2, .string body, .string group, .string key, .string rec, .int .i64 qa.vis, .int .i64 qa.ret, .int .i64 qa.del, .int .i64 qa.win, .int .i64 qa.max, .string qa.dead, .bool qa.fifo] 52) = W at *
    obtain ⟨o0, o1, o2, o3, o4, o5, o6, o7, o8, o9, o10, o11, o12, o13⟩ := blk14 HA.out.blk0
    by_cases h6 : kind = 6
    case pos =>
      have hne : (kind != 6) = false := by simpa using h6
      clear h6
      go_wp2_with fail
      refine ⟨⟨j + 1, σ, by simp, by omega, Lib.hid (hI.out.mono (Nat.le_succ j)), hSA, HA.out.tail.quMono (Nat.le_succ j)⟩, ?_⟩
      simp [intOf]
      omega
    case neg =>
    have hne : (kind != 6) = true := by simpa using h6
    have HK6 := Lib.hid h6
    clear h6
    obtain ⟨σ2, hσ2⟩ : ∃ s, s = qDoes σ kind num num2 body group key rec qa := ⟨_, rfl⟩
    have hdo := fun (w1 : World) (Ps : List Asn) (h : Hp w w1 (ABlk ob (.cells #[.int .i64 kind, .int .i64 num, .int .i64 num2, .string body, .string group, .string key, .string rec, .int .i64 qa.vis, .int .i64 qa.ret, .int .i64 qa.del, .int .i64 qa.win, .int .i64 qa.max, .string qa.dead, .bool qa.fifo] 52) :: AQu qb σ j :: Ps)) => h.doesFresh HR.out.symm (show RecOk w j by unfold RecOk; omega) (by omega) kind num num2 body group key rec qa hgs hks
    rw [HR0.out, show opVal kind num num2 body group key rec qa = .agg #[.int .i64 kind, .int .i64 num, .int .i64 num2, .string body, .string group, .string key, .string rec, .int .i64 qa.vis, .int .i64 qa.ret, .int .i64 qa.del, .int .i64 qa.win, .int .i64 qa.max, .string qa.dead, .bool qa.fifo] from rfl, ← hσ2] at hdo
    have HDO := Lib.hid hdo
    have HS2 := Lib.hid hσ2
    clear hdo hσ2
    go_wp2_with fail
    clear o0 o1 o2 o3 o4 o5 o6 o7 o8 o9 o10 o11 o12 o13
    have HPd := Lib.hid (HA.out.below (Below.refl _ _).drew)
    refine start_ (n := 6) (S := fun w' => w'.heap[ob]? = some (.cells #[.int .i64 kind, .int .i64 num, .int .i64 num2, .string body, .string group, .string key, .string rec, .int .i64 qa.vis, .int .i64 qa.ret, .int .i64 qa.del, .int .i64 qa.win, .int .i64 qa.max, .string qa.dead, .bool qa.fifo] 52) ∧ w'.heap[w.heap.size]? = some (.cells #[.int .i64 av, .int .i64 ar, .int .i64 ad, .int .i64 ai, .int .i64 am, .string az, .bool af] 23)) (ds := []) #[false, false, false, false, false, false] (by kernel_rfl) rfl rfl (⟨HPd.out.blk0, HPd.out.blk2⟩) (fun hHeld => ?_)
    generalize W.drew = wd at *
    refine pure_ (i := 0) (N := (some 56)) (v := ?_) (a' := ?_) #[true, false, false, false, false, false] rfl rfl (by kernel_rfl) (fun _ _ _ h => h) (Or.inl ⟨by rfl, ?_⟩) ?_ ?_
    rotate_left
    · intro w'
      go_simp
      with_reducible rfl
    rotate_left
    · simp only [Act.put, List.setIfInBounds_toArray, List.set_cons_zero, List.set_cons_succ, i64_w, i32_w]
      rfl
    refine take_ (i := 1) (N := (some 57)) (v := ?_) (a' := ?_) #[true, true, false, false, false, false] rfl rfl (by kernel_rfl) (fun _ _ _ h => h) (Or.inl ⟨by rfl, ?_⟩) hHeld ?_ ?_
    rotate_left
    · rintro w' ⟨so, sb⟩
      obtain ⟨g0, g1, g2, g3, g4, g5, g6⟩ := box7 sb
      go_simp
      with_reducible rfl
    rotate_left
    · simp only [Act.put, List.setIfInBounds_toArray, List.set_cons_zero, List.set_cons_succ, i64_w, i32_w]
      rfl
    refine take_ (i := 4) (N := (some 60)) (v := ?_) (a' := ?_) #[true, true, false, false, true, false] rfl rfl (by kernel_rfl) (fun _ _ _ h => h) (Or.inl ⟨by rfl, ?_⟩) hHeld ?_ ?_
    rotate_left
    · rintro w' ⟨so, sb⟩
      obtain ⟨g0, g1, g2, g3, g4, g5, g6, g7, g8, g9, g10, g11, g12, g13⟩ := blk14 so
      go_simp
      with_reducible rfl
    rotate_left
    · simp only [Act.put, List.setIfInBounds_toArray, List.set_cons_zero, List.set_cons_succ, i64_w, i32_w]
      rfl
    refine one_ (i := 2) (N := some 58) #[true, true, true, false, true, false] rfl rfl (by kernel_rfl) (by decide) (fun K hK => ?_)
    refine goes_ Tryz.func24 (by kernel_rfl) rfl #[.agg #[.int .i64 av, .int .i64 ar, .int .i64 ad, .int .i64 ai, .int .i64 am, .string az, .bool af]] (by rfl) rfl rfl (by first | rfl | (go_simp; done) | (simp [Act.eval]; done) | (simp [Act.eval]; rfl)) ?_
    refine Calls.mono (HLA.out wd) ?_
    rintro e w4 ⟨rfl, hB4⟩
    have HD4 := Lib.hid (HPd.out.below hB4)
    clear hB4
    refine ⟨_, rfl, ?_⟩
    refine hK.out _ _ ⟨HD4.out.blk0, HD4.out.blk2⟩ (fun hHeld => ?_)
    clear hK K
    refine norm_ (a' := ?_) ?_ ?_
    rotate_left
    · show Act.put _ (some 58) _ = _
      simp only [Act.put, List.setIfInBounds_toArray, List.set_cons_zero, List.set_cons_succ, i64_w, i32_w]
      rfl
    refine one_ (i := 3) (N := some 59) #[true, true, true, true, true, false] rfl rfl (by kernel_rfl) (by decide) (fun K hK => ?_)
    refine goes_ Tryz.func23 (by kernel_rfl) rfl #[.agg #[.int .i64 av, .int .i64 ar, .int .i64 ad, .int .i64 ai, .int .i64 am, .string az, .bool af]] (by rfl) rfl rfl (by first | rfl | (go_simp; done) | (simp [Act.eval]; done) | (simp [Act.eval]; rfl)) ?_
    refine Calls.mono (HRN.out w4) ?_
    rintro e w5 ⟨rfl, hB5⟩
    have HD5 := Lib.hid (HD4.out.below hB5)
    clear hB5
    rw [HR0.out]
    refine ⟨_, rfl, ?_⟩
    refine hK.out _ _ ⟨HD5.out.blk0, HD5.out.blk2⟩ (fun hHeld => ?_)
    clear hK K
    refine norm_ (a' := ?_) ?_ ?_
    rotate_left
    · show Act.put _ (some 59) _ = _
      simp only [Act.put, List.setIfInBounds_toArray, List.set_cons_zero, List.set_cons_succ, i64_w, i32_w]
      rfl
    refine one_ (i := 5) (N := some 61) #[true, true, true, true, true, true] rfl rfl (by kernel_rfl) (by decide) (fun K hK => ?_)
    refine goes_ Tryz.func22 (by kernel_rfl) rfl #[.pointer (some ⟨qb, 0, none⟩), .agg #[.int .i64 av, .int .i64 ar, .int .i64 ad, .int .i64 ai, .int .i64 am, .string az, .bool af, .int .i64 0, .int .i64 1, .slice none 0 0, .slice none 0 0], .agg #[.int .i64 kind, .int .i64 num, .int .i64 num2, .string body, .string group, .string key, .string rec, .int .i64 qa.vis, .int .i64 qa.ret, .int .i64 qa.del, .int .i64 qa.win, .int .i64 qa.max, .string qa.dead, .bool qa.fifo]] (by rfl) rfl rfl (by first | rfl | (go_simp; done) | (simp [Act.eval]; done) | (simp [Act.eval]; rfl)) ?_
    refine Calls.mono (HDO.out _ _ HD5.out) ?_
    rintro e w6 ⟨v, rfl, hP6⟩
    have HD6 := Lib.hid hP6
    clear hP6
    refine ⟨_, rfl, ?_⟩
    refine hK.out _ _ ⟨HD6.out.blk0, HD6.out.blk2⟩ (fun hHeld => ?_)
    clear hK K
    refine norm_ (a' := ?_) ?_ ?_
    rotate_left
    · show Act.put _ (some 61) _ = _
      simp only [Act.put, List.setIfInBounds_toArray, List.set_cons_zero, List.set_cons_succ, i64_w, i32_w]
      rfl
    refine done_ (by kernel_rfl) ?_
    go_wp2_with fail
    refine ⟨⟨j + 1, σ2, by simp, by omega, Lib.hid (by rw [HS2.out]; exact hI.out.does _ _ _ _ _ _ _ _), Lib.hid (by rw [HS2.out, does_attr _ _ _ _ _ _ _ _ HK6.out]; exact hSA.out), HD6.out.tail⟩, ?_⟩
    simp [intOf]
    omega
theorem once_law0 (a : QA) (A : Option Addr) (n cap : Nat) (xs : List QOp) (body0 key0 : ByteArray) (w : World) (hC : KQOp.C w A n xs) (_ : n ≤ cap) (hok : ∀ x ∈ xs, opWf x) (_ : body0.size ≤ maxLen) (_ : key0.size ≤ maxLen) :
    Calls Tryz.prog 7 #[a.val, .slice A n cap, .string body0, .string key0] w fun e w' => e = .returned (.bool true) ∧ Below w.heap.size w w' := once_at a A n cap xs body0 key0 w hC hok
end Go.Proofs.YtoclcmnphdgfpaaGreatDoor
