/- The statement QueuePurges of layer 8: every call of it tells true and leaves what was there as it was. -/
import Derived.Test.YtoclcmnphdgfpaaGreatDoorG12
import Derived.Test.YtoclcmnphdgfpaaGreatDoorG13
import Derived.Test.YtoclcmnphdgfpaaGreatDoorLQueueDoes
set_option linter.unusedVariables false
set_option linter.unusedSimpArgs false
namespace Go.Proofs.YtoclcmnphdgfpaaGreatDoor
open Go.RowKit Go.Proofs.YtoclcmnphdgfpaaGreatDoorW.PrintWords
section
variable {σ : Qs} {T : Nat}
theorem purged_rcv (h : σ.l = []) : qRcv σ 10 0 = (σ, ([], 0)) := by
  obtain ⟨a, now, next, l, k⟩ := σ
  dsimp only at h
  subst h
  rfl
theorem purged_ack (h : σ.l = []) (s : ByteArray) : qAck σ s = (σ, (0, 8)) := by
  unfold qAck qBy
  rw [h]
  rfl
theorem purged_send (hi : QInv σ T) (h : σ.l = []) (g : ByteArray) (hg : (σ.a.fifo = true ∧ g = ⟨#[103]⟩) ∨ (σ.a.fifo = false ∧ g = ⟨#[]⟩)) : (qSend σ ⟨#[120]⟩ g ⟨#[]⟩ (-1)).2 = (σ.next, 0) := by
  have hmay : qMaySend σ.a ⟨#[120]⟩ g ⟨#[]⟩ (-1) = true := by
    unfold qMaySend
    rcases hg with ⟨h1, rfl⟩ | ⟨h1, rfl⟩
    · rw [h1]; rfl
    · rw [h1]; rfl
  have hmg : mget σ.k (⟨#[]⟩ : ByteArray) = none := mget_none.2 (fun p hp e => by
    have := (hi.kne p hp).1
    rw [e] at this
    exact absurd this (by decide))
  have hf : qFull σ (⟨#[]⟩ : ByteArray) = false := by
    unfold qFull qKnows
    rw [h, decide_eq_false (by decide : ¬ 1024 ≤ ([] : List Msg).length), decide_eq_false (fun h => absurd h.1 (by decide))]
    rfl
  unfold qSend
  rw [if_neg (by rw [hmay]; decide), hmg]
  dsimp only
  rw [if_neg (by rw [hf]; decide)]
end
set_option maxHeartbeats 1600000 in
set_option maxRecDepth 100000 in
theorem purges_at (a : QA) (A : Option Addr) (n cap : Nat) (xs : List QOp) (w : World) (hC : KQOp.C w A n xs) (hok : ∀ x ∈ xs, opWf x) :
    Calls Tryz.prog 9 #[a.val, .slice A n cap] w fun e w' => e = .returned (.bool true) ∧ Below w.heap.size w w' := by
  obtain ⟨av, ar, ad, ai, am, az, af⟩ := a
  have HNW := Lib.hid (fun (w1 : World) (Ps : List Asn) (h : Hp w w1 Ps) => h.quNew ⟨av, ar, ad, ai, am, az, af⟩)
  have HLA := Lib.hid (fun w1 : World => lawAttr_any ⟨av, ar, ad, ai, am, az, af⟩ w1)
  have HRN := Lib.hid (fun w1 : World => refNew_any ⟨av, ar, ad, ai, am, az, af⟩ w1)
  rw [QA.mk_val] at HNW HLA HRN ⊢
  have HC := Lib.hid hC
  have HOK := Lib.hid hok
  have HLX := Lib.hid (show n = xs.length from (Kd.C_len hC).symm)
  have HA := Lib.hid ((Hp.nil w).alloc (.cells #[.int .i64 av, .int .i64 ar, .int .i64 ad, .int .i64 ai, .int .i64 am, .string az, .bool af] 23))
  have HFW := Lib.hid (fun (w1 : World) (h : Below w.heap.size w w1) => few_any A n cap xs w1 (Kd.C_below hC h) (Kd.C_len hC) hok)
  obtain ⟨fw, hfw⟩ : ∃ fw, fw = fewB xs := ⟨_, rfl⟩
  rw [← hfw] at HFW
  have HFB := Lib.hid hfw
  obtain ⟨r, hr⟩ : ∃ r, r = qRight ⟨av, ar, ad, ai, am, az, af⟩ := ⟨_, rfl⟩
  rw [← hr] at HNW
  have HR := Lib.hid hr
  clear hC hok hfw hr
  obtain ⟨c0, c1, c2, c3, c4, c5, c6⟩ := box7 HA.out.blk0
  go_enter Tryz.func9, Tryz.ntmps9
  go_wp2_with fail
  refine Calls.mono (HNW.out _ _ HA.out) ?_
  clear c0 c1 c2 c3 c4 c5 c6
  cases r
  case false =>
    rintro e w2 ⟨h1, _⟩
    obtain ⟨rfl, hP⟩ := h1 rfl
    have HP2 := Lib.hid hP
    clear hP h1
    go_wp2_with (go_at_call 13; refine Calls.mono (awake_any _) ?_; rintro e w2 ⟨rfl, hB⟩)
    go_ret
    exact ⟨rfl, HP2.out.belowW.trans (hB.mono HP2.out.belowW.size)⟩
  case true =>
  rintro e w2 ⟨_, h2⟩
  obtain ⟨qb, rfl, hP⟩ := h2 rfl
  have HP2 := Lib.hid hP.swap
  clear hP h2
  go_wp2_with fail
  refine Calls.mono (HFW.out w2 HP2.out.belowW) ?_
  rintro e w3 ⟨rfl, hB⟩
  have HP3 := Lib.hid (HP2.out.below hB)
  clear hB
  cases fw
  case false =>
    go_wp2_with (go_at_call 13; refine Calls.mono (awake_any _) ?_; rintro e w2 ⟨rfl, hB⟩)
    go_ret
    exact ⟨rfl, HP3.out.belowW.trans (hB.mono HP3.out.belowW.size)⟩
  have hn60 : n ≤ 60 := by rw [HLX.out]; exact few_len HFB.out.symm
  obtain ⟨c0, c1, c2, c3, c4, c5, c6⟩ := box7 HP3.out.blk0
  go_wp2_with fail
  refine Calls.mono (HLA.out w3) ?_
  rintro e w6 ⟨rfl, hB6⟩
  have HP6 := Lib.hid (HP3.out.below hB6)
  clear hB6 c0 c1 c2 c3 c4 c5 c6
  go_wp2_with fail
  refine Calls.mono (HRN.out w6) ?_
  rintro e w7 ⟨rfl, hB7⟩
  rw [show Qs.val (qNew ⟨av, ar, ad, ai, am, az, af⟩) (.slice none 0 0) (.slice none 0 0) = .agg #[.int .i64 av, .int .i64 ar, .int .i64 ad, .int .i64 ai, .int .i64 am, .string az, .bool af, .int .i64 0, .int .i64 1, .slice none 0 0, .slice none 0 0] from rfl]
  have hK7 : Hp w w7 (AKy (.slice none 0 0) [] :: AQu qb (qNew ⟨av, ar, ad, ai, am, az, af⟩) 0 :: []) := ((HP6.out.below hB7).tail).fresh (Below.refl _ _) (Kd.R_nil _ _ _ _ _)
  have hD7 : Hp w w7 (ADm (.slice none 0 0) [] :: AKy (.slice none 0 0) [] :: AQu qb (qNew ⟨av, ar, ad, ai, am, az, af⟩) 0 :: []) := hK7.fresh (Below.refl _ _) (Kd.R_nil _ _ _ _ _)
  have HP7 := Lib.hid (hD7.alloc (.cells #[.int .i64 av, .int .i64 ar, .int .i64 ad, .int .i64 ai, .int .i64 am, .string az, .bool af, .int .i64 0, .int .i64 1, .slice none 0 0, .slice none 0 0] 58))
  clear hK7 hD7
  obtain ⟨rb, hrb⟩ : ∃ rb, rb = w7.heap.size := ⟨_, rfl⟩
  clear hB7
  go_wp2_with fail
  rw [← hrb] at HP7 ⊢
  clear hrb
  generalize w7.alloc (.cells #[.int .i64 av, .int .i64 ar, .int .i64 ad, .int .i64 ai, .int .i64 am, .string az, .bool af, .int .i64 0, .int .i64 1, .slice none 0 0, .slice none 0 0] 58) = W7 at *
  go_loopw [34] (fun i wr => ∃ (j : Nat) (a1 : QA) (now1 next1 : Int) (l1 : List Msg) (k1 : List (Ent Int)) (A1 : Option Addr) (n1 c1 : Nat) (B1 : Option Addr) (m1 d1 : Nat), i = .int .i64 j ∧ j ≤ n ∧ Hid (QInv ⟨a1, now1, next1, l1, k1⟩ j) ∧ Hp w wr (ABlk rb (.cells #[.int .i64 a1.vis, .int .i64 a1.ret, .int .i64 a1.del, .int .i64 a1.win, .int .i64 a1.max, .string a1.dead, .bool a1.fifo, .int .i64 now1, .int .i64 next1, .slice A1 n1 c1, .slice B1 m1 d1] 58) :: ADm (.slice A1 n1 c1) l1 :: AKy (.slice B1 m1 d1) k1 :: AQu qb ⟨a1, now1, next1, l1, k1⟩ j :: [])) (fun i _ => n - (intOf i).toNat)
  case atStart =>
    refine ⟨0, ⟨av, ar, ad, ai, am, az, af⟩, 0, 1, [], [], none, 0, 0, none, 0, 0, rfl, Nat.zero_le _, Lib.hid (QInv.new HR.out.symm), HP7.out⟩
  case round =>
    obtain ⟨j, a1, now1, next1, l1, k1, A1, n1, c1, B1, m1, d1, rfl, hj, hI, hQ⟩ := hrel
    have HQ := Lib.hid hQ
    clear hQ
    by_cases hjn : j < n
    case neg =>
      have hj' : j = n := by omega
      subst hj'
      clear hj hjn
      have hi' := hI.out.purge
      have hns : IntKind.i64.wrap (0 : Int) = 0 := by decide
      have HPI := Lib.hid (show QInv (qPurge ⟨a1, now1, next1, l1, k1⟩) j from hi')
      clear hi' hns
      obtain ⟨ln, hln⟩ : ∃ ln, ln = l1.length := ⟨_, rfl⟩
      have HLN := Lib.hid hln
      clear hln
      go_wp2_with fail
      refine Calls.mono (HQ.out.up3.quIds (by omega)) ?_
      rintro e w2 ⟨A2, c2, rfl, hP⟩
      rw [show (Qs.l ⟨a1, now1, next1, l1, k1⟩).length = ln from HLN.out.symm]
      have HP := Lib.hid hP.tail
      clear hP
      have hne : ((ln : Int) != (ln : Int)) = false := by simp
      have hne0 : ((0 : Int) != 0) = false := by simp
      go_wp2_with fail
      refine Calls.mono (HP.out.quPurge (by omega)) ?_
      rintro e w3 ⟨rfl, hP⟩
      rw [show (Qs.l ⟨a1, now1, next1, l1, k1⟩).length = ln from HLN.out.symm]
      have HP3 := Lib.hid hP
      clear hP
      go_wp2_with fail
      refine Calls.mono (HP3.out.quIds (by omega)) ?_
      rintro e w4 ⟨A4, c4, rfl, hP⟩
      rw [show (qPurge ⟨a1, now1, next1, l1, k1⟩).l.length = 0 from rfl]
      have HP4 := Lib.hid hP.tail
      clear hP
      go_wp2_with fail
      refine Calls.mono (HP4.out.quPurge (by omega)) ?_
      rw [show (qPurge ⟨a1, now1, next1, l1, k1⟩).l.length = 0 from rfl, show qPurge (qPurge ⟨a1, now1, next1, l1, k1⟩) = qPurge ⟨a1, now1, next1, l1, k1⟩ from rfl]
      rintro e w5 ⟨rfl, hP⟩
      have HP5 := Lib.hid hP
      clear hP
      go_wp2_with fail
      refine Calls.mono (HP5.out.quRcv (show RecOk w j by unfold RecOk; omega) 10 0) ?_
      rw [purged_rcv (σ := qPurge ⟨a1, now1, next1, l1, k1⟩) rfl]
      rintro e w6 ⟨A6, k6, c6, hk6, rfl, hP⟩
      obtain rfl : k6 = 0 := hk6
      have HP6 := Lib.hid hP.tail
      clear hP
      go_wp2_with fail
      refine Calls.mono (HP6.out.quAck (show RecOk w (j + 1) by unfold RecOk; omega) ⟨#[49, 46, 49]⟩) ?_
      rw [purged_ack (σ := qPurge ⟨a1, now1, next1, l1, k1⟩) rfl]
      rintro e w7 ⟨rfl, hP⟩
      have HP7 := Lib.hid hP
      clear hP
      go_wp2_with fail
      refine Calls.mono HP7.out.quAttr ?_
      rw [show (qPurge ⟨a1, now1, next1, l1, k1⟩).a.val = .agg #[.int .i64 a1.vis, .int .i64 a1.ret, .int .i64 a1.del, .int .i64 a1.win, .int .i64 a1.max, .string a1.dead, .bool a1.fifo] from rfl]
      rintro e w8 ⟨rfl, hP⟩
      have HP8 := Lib.hid hP
      have HPS := Lib.hid (fun g hg => purged_send (σ := qPurge ⟨a1, now1, next1, l1, k1⟩) HPI.out rfl g hg)
      have hfld : ∀ (b : Bool) (w : World), (Instr.field 23 (.agg #[.int .i64 a1.vis, .int .i64 a1.ret, .int .i64 a1.del, .int .i64 a1.win, .int .i64 a1.max, .string a1.dead, .bool b]) 6).run Tryz.prog w = .ok (.bool b) w := fun b w => by kernel_rfl
      clear hP
      obtain ⟨ff, hff⟩ : ∃ ff, ff = a1.fifo := ⟨_, rfl⟩
      have HFF := Lib.hid hff
      rw [← hff]
      clear hff
      have hfld := hfld ff
      cases ff
      case' false => have HPT := Lib.hid (HPS.out ⟨#[]⟩ (.inr ⟨HFF.out.symm, rfl⟩))
      case' true => have HPT := Lib.hid (HPS.out ⟨#[103]⟩ (.inl ⟨HFF.out.symm, rfl⟩))
      all_goals
        go_wp2_with fail
        refine Calls.mono (HP8.out.quSend (by omega) ⟨#[120]⟩ _ ⟨#[]⟩ (-1) (by decide) (by decide)) ?_
        rw [HPT.out]
        rintro e w9 ⟨rfl, hP⟩
        have HP9 := Lib.hid hP
        clear hP
        obtain ⟨f0, f1, f2, f3, f4, f5, f6, f7, f8, f9, f10, _⟩ := blk11 HP9.out.blk1
        dsimp only [qPurge]
        clear hne hne0 hfld
        go_wp2_with (go_at_call 13; refine Calls.mono (awake_any _) ?_; rintro e w10 ⟨rfl, hB⟩)
        go_ret
        exact ⟨rfl, HP9.out.belowW.trans (hB.mono HP9.out.belowW.size)⟩
    case pos =>
    have i0 : (0 : Int) ≤ (j : Int) := by omega
    have i1 : (j : Int) < (n : Int) := by omega
    obtain ⟨oa, kind, num, num2, body, group, key, rec, qa, rfl, hgs, hks, e0, e1, e2, e3, e4, e5, e6, e7, e8, e9, e10, e11, e12, e13⟩ := C_nth_call (Kd.C_below HC.out HQ.out.belowW) HOK.out j hjn
    have HA := Lib.hid (HQ.out.alloc (.cells #[.int .i64 kind, .int .i64 num, .int .i64 num2, .string body, .string group, .string key, .string rec, .int .i64 qa.vis, .int .i64 qa.ret, .int .i64 qa.del, .int .i64 qa.win, .int .i64 qa.max, .string qa.dead, .bool qa.fifo] 52))
    obtain ⟨ob, hob⟩ : ∃ ob, ob = wr.heap.size := ⟨_, rfl⟩
    go_upto_region 8 with (fail)
    rw [← hob] at HA ⊢
    clear hob e0 e1 e2 e3 e4 e5 e6 e7 e8 e9 e10 e11 e12 e13
    generalize wr.alloc (.cells #[.int .i64 kind, .int .i64 num, .int .i64 num2, .string body, .string group, .string key, .string rec, .int .i64 qa.vis, .int .i64 qa.ret, .int .i64 qa.del, .int .i64 qa.win, .int .i64 qa.max, .string qa.dead, .bool qa.fifo] 52) = W at *
    obtain ⟨o0, o1, o2, o3, o4, o5, o6, o7, o8, o9, o10, o11, o12, o13⟩ := blk14 HA.out.blk0
    have HX := HA
    clear o0 o1 o2 o3 o4 o5 o6 o7 o8 o9 o10 o11 o12 o13
    obtain ⟨o0, o1, o2, o3, o4, o5, o6, o7, o8, o9, o10, o11, o12, o13⟩ := blk14 HX.out.blk0
    obtain ⟨f0, f1, f2, f3, f4, f5, f6, f7, f8, f9, f10, _⟩ := blk11 HX.out.blk1
    have HV1 := Lib.hid (show Qs.val ⟨a1, now1, next1, l1, k1⟩ (.slice A1 n1 c1) (.slice B1 m1 d1) = .agg #[.int .i64 a1.vis, .int .i64 a1.ret, .int .i64 a1.del, .int .i64 a1.win, .int .i64 a1.max, .string a1.dead, .bool a1.fifo, .int .i64 now1, .int .i64 next1, .slice A1 n1 c1, .slice B1 m1 d1] from rfl)
    have HV2 := Lib.hid (show opVal kind num num2 body group key rec qa = .agg #[.int .i64 kind, .int .i64 num, .int .i64 num2, .string body, .string group, .string key, .string rec, .int .i64 qa.vis, .int .i64 qa.ret, .int .i64 qa.del, .int .i64 qa.win, .int .i64 qa.max, .string qa.dead, .bool qa.fifo] from rfl)
    obtain ⟨⟨a2, now2, next2, l2, k2⟩, hs2⟩ : ∃ s2, s2 = qDoes ⟨a1, now1, next1, l1, k1⟩ kind num num2 body group key rec qa := ⟨_, rfl⟩
    have hd := fun (w0 w : World) (Ps : List Asn) (h : Hp w0 w (ADm (.slice A1 n1 c1) l1 :: AKy (.slice B1 m1 d1) k1 :: AQu qb ⟨a1, now1, next1, l1, k1⟩ j :: Ps)) => Hp.does (ρ := ⟨a1, now1, next1, l1, k1⟩) h hI.out (show RecOk w0 j by unfold RecOk; omega) (by omega) (by omega) kind num num2 body group key rec qa hgs hks
    rw [← hs2, HV1.out, HV2.out] at hd
    have HD := Lib.hid hd
    have HI2 := Lib.hid (show QInv ⟨a2, now2, next2, l2, k2⟩ (j + 1) by rw [hs2]; exact hI.out.does _ _ _ _ _ _ _ _)
    clear hd hs2
    go_wp2_with fail
    refine Calls.mono (HD.out _ _ _ HX.out.up4.up4.up4) ?_
    rintro e w2 ⟨b, A3, n3, c3, B3, m3, d3, hb, rfl, hP⟩
    obtain rfl : b = true := by first | exact hb rfl | exact hb trivial | exact hb
    rw [show Qs.val ⟨a2, now2, next2, l2, k2⟩ (.slice A3 n3 c3) (.slice B3 m3 d3) = .agg #[.int .i64 a2.vis, .int .i64 a2.ret, .int .i64 a2.del, .int .i64 a2.win, .int .i64 a2.max, .string a2.dead, .bool a2.fifo, .int .i64 now2, .int .i64 next2, .slice A3 n3 c3, .slice B3 m3 d3] from rfl]
    have HV3 := Lib.hid (show Qs.val ⟨a2, now2, next2, l2, k2⟩ (.slice A3 n3 c3) (.slice B3 m3 d3) = .agg #[.int .i64 a2.vis, .int .i64 a2.ret, .int .i64 a2.del, .int .i64 a2.win, .int .i64 a2.max, .string a2.dead, .bool a2.fifo, .int .i64 now2, .int .i64 next2, .slice A3 n3 c3, .slice B3 m3 d3] from rfl)
    have HP := Lib.hid (hP.alloc (.cells #[.int .i64 a2.vis, .int .i64 a2.ret, .int .i64 a2.del, .int .i64 a2.win, .int .i64 a2.max, .string a2.dead, .bool a2.fifo, .int .i64 now2, .int .i64 next2, .slice A3 n3 c3, .slice B3 m3 d3] 58))
    obtain ⟨nb, hnb⟩ : ∃ nb, nb = w2.heap.size := ⟨_, rfl⟩
    clear hP hb o0 o1 o2 o3 o4 o5 o6 o7 o8 o9 o10 o11 o12 o13 f0 f1 f2 f3 f4 f5 f6 f7 f8 f9 f10
    go_upto_region 9 with (fail)
    rw [← hnb] at HP ⊢
    clear hnb
    generalize w2.alloc (.cells #[.int .i64 a2.vis, .int .i64 a2.ret, .int .i64 a2.del, .int .i64 a2.win, .int .i64 a2.max, .string a2.dead, .bool a2.fifo, .int .i64 now2, .int .i64 next2, .slice A3 n3 c3, .slice B3 m3 d3] 58) = W2 at *
    obtain ⟨f0, f1, f2, f3, f4, f5, f6, f7, f8, f9, f10, _⟩ := blk11 HP.out.blk0
    obtain ⟨z0, z1, z2, z3, z4, z5, z6, z7, z8, z9, z10, zf⟩ := blk11 HP.out.tail.tail.tail.tail.blk1
    go_wp2_with fail
    have hW := (HP.out.up5).set11 (.int .i64 a2.vis) (.int .i64 a2.ret) (.int .i64 a2.del) (.int .i64 a2.win) (.int .i64 a2.max) (.string a2.dead) (.bool a2.fifo) (.int .i64 now2) (.int .i64 next2) (.slice A3 n3 c3) (.slice B3 m3 d3)
    generalize (((((((((((W2.setCell ⟨rb, 0, none⟩ (.int .i64 a2.vis)).setCell ⟨rb, 1, none⟩ (.int .i64 a2.ret)).setCell ⟨rb, 2, none⟩ (.int .i64 a2.del)).setCell ⟨rb, 3, none⟩ (.int .i64 a2.win)).setCell ⟨rb, 4, none⟩ (.int .i64 a2.max)).setCell ⟨rb, 5, none⟩ (.string a2.dead)).setCell ⟨rb, 6, none⟩ (.bool a2.fifo)).setCell ⟨rb, 7, none⟩ (.int .i64 now2)).setCell ⟨rb, 8, none⟩ (.int .i64 next2)).setCell ⟨rb, 9, none⟩ (.slice A3 n3 c3)).setCell ⟨rb, 10, none⟩ (.slice B3 m3 d3)) = WW at *
    refine ⟨⟨j + 1, a2, now2, next2, l2, k2, A3, n3, c3, B3, m3, d3, by simp, by omega, HI2.out, ?_⟩, ?_⟩
    · exact ((hW.swap.tail).up4.tail)
    · simp [intOf]
      omega
theorem purges_law (a : QA) (A : Option Addr) (n cap : Nat) (xs : List QOp) (w : World) (hC : KQOp.C w A n xs) (_ : n ≤ cap) (hok : ∀ x ∈ xs, opWf x) :
    Calls Tryz.prog 9 #[a.val, .slice A n cap] w fun e w' => e = .returned (.bool true) ∧ Below w.heap.size w w' := purges_at a A n cap xs w hC hok
end Go.Proofs.YtoclcmnphdgfpaaGreatDoor
