/- The statement QueueDoes of layer 8: every call of it tells true and leaves what was there as it was. -/
import Derived.Test.YtoclcmnphdgfpaaGreatDoorG12
import Derived.Test.YtoclcmnphdgfpaaGreatDoorG13
import Derived.Test.YtoclcmnphdgfpaaGreatDoorLQueueExtends
set_option linter.unusedVariables false
set_option linter.unusedSimpArgs false
namespace Go.Proofs.YtoclcmnphdgfpaaGreatDoor
open Go.RowKit Go.Proofs.YtoclcmnphdgfpaaGreatDoorW.PrintWords
theorem few_len {l : List QOp} (h : fewB l = true) : l.length ≤ 60 := by
  unfold fewB at h
  rw [Bool.and_eq_true, decide_eq_true_iff] at h
  exact h.1
theorem reach_max {n : Nat} (h : n ≤ 140737488351232) : n ≤ maxLen := Nat.le_trans h (by decide)
/-- A call's cells, by name. -/
theorem C_nth_call {w : World} {A : Option Addr} {n : Nat} {l : List QOp} (h : KQOp.C w A n l) (hok : ∀ x ∈ l, opWf x) (k : Nat) (hk : k < n) :
    ∃ (ad : Addr) (kind num num2 : Int) (body group key rec : ByteArray) (qa : QA), A = some ad ∧ group.size ≤ maxLen ∧ key.size ≤ maxLen ∧
      w.cell? (ad.add (k * 14)) = some (.int .i64 kind) ∧ w.cell? ⟨(ad.add (k * 14)).block, (ad.add (k * 14)).off + 1, none⟩ = some (.int .i64 num) ∧ w.cell? ⟨(ad.add (k * 14)).block, (ad.add (k * 14)).off + 2, none⟩ = some (.int .i64 num2) ∧ w.cell? ⟨(ad.add (k * 14)).block, (ad.add (k * 14)).off + 3, none⟩ = some (.string body) ∧ w.cell? ⟨(ad.add (k * 14)).block, (ad.add (k * 14)).off + 4, none⟩ = some (.string group) ∧ w.cell? ⟨(ad.add (k * 14)).block, (ad.add (k * 14)).off + 5, none⟩ = some (.string key) ∧ w.cell? ⟨(ad.add (k * 14)).block, (ad.add (k * 14)).off + 6, none⟩ = some (.string rec) ∧ w.cell? ⟨(ad.add (k * 14)).block, (ad.add (k * 14)).off + 7, none⟩ = some (.int .i64 qa.vis) ∧ w.cell? ⟨(ad.add (k * 14)).block, (ad.add (k * 14)).off + 8, none⟩ = some (.int .i64 qa.ret) ∧ w.cell? ⟨(ad.add (k * 14)).block, (ad.add (k * 14)).off + 9, none⟩ = some (.int .i64 qa.del) ∧ w.cell? ⟨(ad.add (k * 14)).block, (ad.add (k * 14)).off + 10, none⟩ = some (.int .i64 qa.win) ∧ w.cell? ⟨(ad.add (k * 14)).block, (ad.add (k * 14)).off + 11, none⟩ = some (.int .i64 qa.max) ∧ w.cell? ⟨(ad.add (k * 14)).block, (ad.add (k * 14)).off + 12, none⟩ = some (.string qa.dead) ∧ w.cell? ⟨(ad.add (k * 14)).block, (ad.add (k * 14)).off + 13, none⟩ = some (.bool qa.fifo) := by
  obtain ⟨ad, x, hA, hx, e0, he⟩ := C_nth_qop h k hk
  obtain ⟨z1, z2, z3, s3, s4, s5, s6, za⟩ := x
  have hw := hok _ (List.mem_of_getElem? hx)
  unfold opWf at hw
  exact ⟨ad, z1, z2, z3, s3, s4, s5, s6, QA.of za, hA, reach_max hw.2.1, reach_max hw.2.2.1, e0, he 1 _ (by decide) rfl, he 2 _ (by decide) rfl, he 3 _ (by decide) rfl, he 4 _ (by decide) rfl, he 5 _ (by decide) rfl, he 6 _ (by decide) rfl, he 7 _ (by decide) rfl, he 8 _ (by decide) rfl, he 9 _ (by decide) rfl, he 10 _ (by decide) rfl, he 11 _ (by decide) rfl, he 12 _ (by decide) rfl, he 13 _ (by decide) rfl⟩
set_option maxHeartbeats 1600000 in
set_option maxRecDepth 100000 in
theorem does_at (a : QA) (A : Option Addr) (n cap : Nat) (xs : List QOp) (w : World) (hC : KQOp.C w A n xs) (hok : ∀ x ∈ xs, opWf x) :
    Calls Tryz.prog 11 #[a.val, .slice A n cap] w fun e w' => e = .returned (.bool true) ∧ Below w.heap.size w w' := by
  obtain ⟨av, ar, ad, ai, am, az, af⟩ := a
  have HNW := Lib.hid (fun (w1 : World) (Ps : List Asn) (h : Hp w w1 Ps) => h.quNew ⟨av, ar, ad, ai, am, az, af⟩)
  have HLA := Lib.hid (fun w1 : World => lawAttr_any ⟨av, ar, ad, ai, am, az, af⟩ w1)
  have HRR := Lib.hid (fun w1 : World => refRight_any ⟨av, ar, ad, ai, am, az, af⟩ w1)
  have HQR := Lib.hid (fun w1 : World => right_any ⟨av, ar, ad, ai, am, az, af⟩ w1)
  have HRN := Lib.hid (fun w1 : World => refNew_any ⟨av, ar, ad, ai, am, az, af⟩ w1)
  rw [QA.mk_val] at HNW HLA HRR HQR HRN ⊢
  have HC := Lib.hid hC
  have HOK := Lib.hid hok
  have HLX := Lib.hid (show n = xs.length from (Kd.C_len hC).symm)
  have HA := Lib.hid ((Hp.nil w).alloc (.cells #[.int .i64 av, .int .i64 ar, .int .i64 ad, .int .i64 ai, .int .i64 am, .string az, .bool af] 23))
  have HFW := Lib.hid (few_any A n cap xs (w.alloc (.cells #[.int .i64 av, .int .i64 ar, .int .i64 ad, .int .i64 ai, .int .i64 am, .string az, .bool af] 23)) (Kd.C_alloc hC _) (Kd.C_len hC) hok)
  obtain ⟨fw, hfw⟩ : ∃ fw, fw = fewB xs := ⟨_, rfl⟩
  rw [← hfw] at HFW
  have HFB := Lib.hid hfw
  obtain ⟨r, hr⟩ : ∃ r, r = qRight ⟨av, ar, ad, ai, am, az, af⟩ := ⟨_, rfl⟩
  rw [← hr] at HNW HRR HQR
  have HR := Lib.hid hr
  clear hC hok hfw hr
  go_enter Tryz.func11, Tryz.ntmps11
  go_wp2_with fail
  refine Calls.mono HFW.out ?_
  rintro e w1 ⟨rfl, hB⟩
  have HP1 := Lib.hid (HA.out.below hB)
  clear hB
  obtain ⟨c0, c1, c2, c3, c4, c5, c6⟩ := box7 HP1.out.blk0
  cases fw
  case false =>
    clear c0 c1 c2 c3 c4 c5 c6
    go_wp2_with (go_at_call 13; refine Calls.mono (awake_any _) ?_; rintro e w2 ⟨rfl, hB⟩)
    go_ret
    exact ⟨rfl, HP1.out.belowW.trans (hB.mono HP1.out.belowW.size)⟩
  have hn60 : n ≤ 60 := by rw [HLX.out]; exact few_len HFB.out.symm
  go_wp2_with fail
  refine Calls.mono (HNW.out _ _ HP1.out) ?_
  cases r
  case false =>
    rintro e w2 ⟨h1, _⟩
    obtain ⟨rfl, hP⟩ := h1 rfl
    have HP2 := Lib.hid hP
    clear hP h1 c0 c1 c2 c3 c4 c5 c6
    obtain ⟨c0, c1, c2, c3, c4, c5, c6⟩ := box7 HP2.out.blk0
    go_wp2_with fail
    refine Calls.mono (HLA.out w2) ?_
    rintro e w3 ⟨rfl, hB3⟩
    have HP3 := Lib.hid (HP2.out.below hB3)
    clear hB3 c0 c1 c2 c3 c4 c5 c6
    go_wp2_with fail
    refine Calls.mono (HRR.out w3) ?_
    rintro e w4 ⟨rfl, hB4⟩
    have HP4 := Lib.hid (HP3.out.below hB4)
    clear hB4
    obtain ⟨c0, c1, c2, c3, c4, c5, c6⟩ := box7 HP4.out.blk0
    go_wp2_with fail
    refine Calls.mono (HQR.out w4) ?_
    rintro e w5 ⟨rfl, hB5⟩
    have HP5 := Lib.hid (HP4.out.below hB5)
    clear hB5 c0 c1 c2 c3 c4 c5 c6
    go_wp2_with (go_at_call 13; refine Calls.mono (awake_any _) ?_; rintro e w2 ⟨rfl, hB⟩)
    go_ret
    exact ⟨rfl, HP5.out.belowW.trans (hB.mono HP5.out.belowW.size)⟩
  case true =>
  rintro e w2 ⟨_, h2⟩
  obtain ⟨qb, rfl, hP⟩ := h2 rfl
  have HP2 := Lib.hid hP.swap
  clear hP h2 c0 c1 c2 c3 c4 c5 c6
  obtain ⟨c0, c1, c2, c3, c4, c5, c6⟩ := box7 HP2.out.blk0
  go_wp2_with fail
  refine Calls.mono (HLA.out w2) ?_
  rintro e w3 ⟨rfl, hB3⟩
  have HP3 := Lib.hid (HP2.out.below hB3)
  clear hB3 c0 c1 c2 c3 c4 c5 c6
  go_wp2_with fail
  refine Calls.mono (HRR.out w3) ?_
  rintro e w4 ⟨rfl, hB4⟩
  have HP4 := Lib.hid (HP3.out.below hB4)
  clear hB4
  obtain ⟨c0, c1, c2, c3, c4, c5, c6⟩ := box7 HP4.out.blk0
  go_wp2_with fail
  refine Calls.mono (HQR.out w4) ?_
  rintro e w5 ⟨rfl, hB5⟩
  have HP5 := Lib.hid (HP4.out.below hB5)
  clear hB5 c0 c1 c2 c3 c4 c5 c6
  obtain ⟨c0, c1, c2, c3, c4, c5, c6⟩ := box7 HP5.out.blk0
  go_wp2_with fail
  refine Calls.mono (HLA.out w5) ?_
  rintro e w6 ⟨rfl, hB6⟩
  have HP6 := Lib.hid (HP5.out.below hB6)
  clear hB6 c0 c1 c2 c3 c4 c5 c6
  go_wp2_with fail
  refine Calls.mono (HRN.out w6) ?_
  rintro e w7 ⟨rfl, hB7⟩
  rw [show Qs.val (qNew ⟨av, ar, ad, ai, am, az, af⟩) (.slice none 0 0) (.slice none 0 0) = .agg #[.int .i64 av, .int .i64 ar, .int .i64 ad, .int .i64 ai, .int .i64 am, .string az, .bool af, .int .i64 0, .int .i64 1, .slice none 0 0, .slice none 0 0] from rfl]
  have hK7 : Hp w w7 (AKy (.slice none 0 0) [] :: AQu qb (qNew ⟨av, ar, ad, ai, am, az, af⟩) 0 :: []) := ((HP6.out.below hB7).tail).fresh (Below.refl _ _) (Kd.R_nil _ _ _ _ _)
  have hD7 : Hp w w7 (ADm (.slice none 0 0) [] :: AKy (.slice none 0 0) [] :: AQu qb (qNew ⟨av, ar, ad, ai, am, az, af⟩) 0 :: []) := hK7.fresh (Below.refl _ _) (Kd.R_nil _ _ _ _ _)
  have HP7 := Lib.hid (hD7.alloc (.cells #[.int .i64 av, .int .i64 ar, .int .i64 ad, .int .i64 ai, .int .i64 am, .string az, .bool af, .int .i64 0, .int .i64 1, .slice none 0 0, .slice none 0 0] 58))
  clear hK7 hD7
  obtain ⟨rb, hrb⟩ : ∃ rb, rb = w7.heap.size := ⟨_, rfl⟩
  clear hB7
  go_wp2_with fail
  rw [← hrb] at HP7 ⊢
  clear hrb
  generalize w7.alloc (.cells #[.int .i64 av, .int .i64 ar, .int .i64 ad, .int .i64 ai, .int .i64 am, .string az, .bool af, .int .i64 0, .int .i64 1, .slice none 0 0, .slice none 0 0] 58) = W7 at *
  go_loopw [5, 44] (fun p i wr => ∃ (j qb : Nat) (a1 : QA) (now1 next1 : Int) (l1 : List Msg) (k1 : List (Ent Int)) (A1 : Option Addr) (n1 c1 : Nat) (B1 : Option Addr) (m1 d1 : Nat), p = .pointer (some ⟨qb, 0, none⟩) ∧ i = .int .i64 j ∧ j ≤ n ∧ Hid (QInv ⟨a1, now1, next1, l1, k1⟩ j) ∧ Hp w wr (ABlk rb (.cells #[.int .i64 a1.vis, .int .i64 a1.ret, .int .i64 a1.del, .int .i64 a1.win, .int .i64 a1.max, .string a1.dead, .bool a1.fifo, .int .i64 now1, .int .i64 next1, .slice A1 n1 c1, .slice B1 m1 d1] 58) :: ADm (.slice A1 n1 c1) l1 :: AKy (.slice B1 m1 d1) k1 :: AQu qb ⟨a1, now1, next1, l1, k1⟩ j :: [])) (fun _ i _ => n - (intOf i).toNat)
  case atStart =>
    refine ⟨0, qb, ⟨av, ar, ad, ai, am, az, af⟩, 0, 1, [], [], none, 0, 0, none, 0, 0, rfl, rfl, Nat.zero_le _, Lib.hid (QInv.new HR.out.symm), HP7.out⟩
  case round =>
    obtain ⟨j, qb, a1, now1, next1, l1, k1, A1, n1, c1, B1, m1, d1, rfl, rfl, hj, hI, hQ⟩ := hrel
    have HQ := Lib.hid hQ
    clear hQ
    by_cases hjn : j < n
    case neg =>
      have hj' : j = n := by omega
      subst hj'
      go_wp2_with (go_at_call 13; refine Calls.mono (awake_any _) ?_; rintro e w9 ⟨rfl, hB⟩)
      go_ret
      exact ⟨rfl, HQ.out.belowW.trans (hB.mono HQ.out.belowW.size)⟩
    case pos =>
    have i0 : (0 : Int) ≤ (j : Int) := by omega
    have i1 : (j : Int) < (n : Int) := by omega
    obtain ⟨oa, kind, num, num2, body, group, key, rec, qa, rfl, hgs, hks, e0, e1, e2, e3, e4, e5, e6, e7, e8, e9, e10, e11, e12, e13⟩ := C_nth_call (Kd.C_below HC.out HQ.out.belowW) HOK.out j hjn
    have HA := Lib.hid (HQ.out.alloc (.cells #[.int .i64 kind, .int .i64 num, .int .i64 num2, .string body, .string group, .string key, .string rec, .int .i64 qa.vis, .int .i64 qa.ret, .int .i64 qa.del, .int .i64 qa.win, .int .i64 qa.max, .string qa.dead, .bool qa.fifo] 52))
    obtain ⟨ob, hob⟩ : ∃ ob, ob = wr.heap.size := ⟨_, rfl⟩
    go_upto_region 12 with (fail)
    rw [← hob] at HA ⊢
    clear hob e0 e1 e2 e3 e4 e5 e6 e7 e8 e9 e10 e11 e12 e13
    generalize wr.alloc (.cells #[.int .i64 kind, .int .i64 num, .int .i64 num2, .string body, .string group, .string key, .string rec, .int .i64 qa.vis, .int .i64 qa.ret, .int .i64 qa.del, .int .i64 qa.win, .int .i64 qa.max, .string qa.dead, .bool qa.fifo] 52) = W at *
    obtain ⟨o0, o1, o2, o3, o4, o5, o6, o7, o8, o9, o10, o11, o12, o13⟩ := blk14 HA.out.blk0
    have HK := Lib.hid (show kind = 7 ∨ kind ≠ 7 by omega)
    go_upto_if 50 with (fail)
    go_cut [5] (fun p wx => ∃ qb' : Nat, p = .pointer (some ⟨qb', 0, none⟩) ∧ Hp w wx (ABlk ob (.cells #[.int .i64 kind, .int .i64 num, .int .i64 num2, .string body, .string group, .string key, .string rec, .int .i64 qa.vis, .int .i64 qa.ret, .int .i64 qa.del, .int .i64 qa.win, .int .i64 qa.max, .string qa.dead, .bool qa.fifo] 52) :: ABlk rb (.cells #[.int .i64 a1.vis, .int .i64 a1.ret, .int .i64 a1.del, .int .i64 a1.win, .int .i64 a1.max, .string a1.dead, .bool a1.fifo, .int .i64 now1, .int .i64 next1, .slice A1 n1 c1, .slice B1 m1 d1] 58) :: ADm (.slice A1 n1 c1) l1 :: AKy (.slice B1 m1 d1) k1 :: AQu qb' ⟨a1, now1, next1, l1, k1⟩ j :: []))
    case first =>
      clear o0 o1 o2 o3 o4 o5 o6 o7 o8 o9 o10 o11 o12 o13
      rcases HK.out with h7 | h7
      case inr =>
        have he : (kind == 7) = false := by simpa using h7
        clear h7
        go_wp2_with fail
        go_meet
        case rel => exact ⟨qb, rfl, HA.out⟩
      case inl =>
        have he : (kind == 7) = true := by simpa using h7
        clear h7
        go_wp2_with fail
        refine Calls.mono (HA.out.up4.quCopy (by omega)) ?_
        rintro e w2 ⟨cb, rfl, hP⟩
        have HP := Lib.hid hP.swap
        clear hP
        go_wp2_with fail
        refine Calls.mono (HP.out.quSend (by omega) ⟨#[121]⟩ ⟨#[103]⟩ ⟨#[107]⟩ (-1) (by decide) (by decide)) ?_
        rintro e w3 ⟨rfl, hP3⟩
        have HP3 := Lib.hid hP3
        clear hP3
        go_wp2_with fail
        refine Calls.mono (HP3.out.quRcv (show RecOk w (j + 1) by unfold RecOk; omega) 10 0) ?_
        rintro e w4 ⟨A4, k4, c4, _, rfl, hP4⟩
        have HP4 := Lib.hid hP4.tail
        clear hP4
        obtain ⟨s4, hs4⟩ : ∃ s4, s4 = (qRcv (qSend ⟨a1, now1, next1, l1, k1⟩ ⟨#[121]⟩ ⟨#[103]⟩ ⟨#[107]⟩ (-1)).1 10 0).1 := ⟨_, rfl⟩
        have hi4 := ((hI.out.send ⟨#[121]⟩ ⟨#[103]⟩ ⟨#[107]⟩ (-1)).rcv 10 0).now
        rw [← hs4] at hi4 HP4
        have hs5 : IntKind.i64.wrap (s4.now + 5) = s4.now + 5 := IntWalk.i64_in _ (by omega)
        have HS5 := Lib.hid hs5
        clear hs4 hs5
        go_wp2_with fail
        refine Calls.mono HP4.out.quNow ?_
        rintro e w5 ⟨rfl, rfl⟩
        go_wp2_with fail
        refine Calls.mono (HP4.out.quTck (by omega) _) ?_
        rintro e w6 ⟨A6, n6, c6, A7, n7, c7, _, _, rfl, hP6⟩
        have HP6 := Lib.hid hP6.tail.tail
        clear hP6
        go_wp2_with fail
        refine Calls.mono (HP6.out.quPurge (by omega)) ?_
        rintro e w7 ⟨rfl, hP7⟩
        have HP7 := Lib.hid hP7.tail
        clear hP7
        go_wp2_with fail
        go_meet
        case rel => exact ⟨cb, rfl, HP7.out.down4⟩
    case rest =>
    obtain ⟨qb', rfl, hX⟩ := hcut
    have HX := Lib.hid hX
    clear hX o0 o1 o2 o3 o4 o5 o6 o7 o8 o9 o10 o11 o12 o13
    obtain ⟨o0, o1, o2, o3, o4, o5, o6, o7, o8, o9, o10, o11, o12, o13⟩ := blk14 HX.out.blk0
    obtain ⟨f0, f1, f2, f3, f4, f5, f6, f7, f8, f9, f10, _⟩ := blk11 HX.out.blk1
    have HV1 := Lib.hid (show Qs.val ⟨a1, now1, next1, l1, k1⟩ (.slice A1 n1 c1) (.slice B1 m1 d1) = .agg #[.int .i64 a1.vis, .int .i64 a1.ret, .int .i64 a1.del, .int .i64 a1.win, .int .i64 a1.max, .string a1.dead, .bool a1.fifo, .int .i64 now1, .int .i64 next1, .slice A1 n1 c1, .slice B1 m1 d1] from rfl)
    have HV2 := Lib.hid (show opVal kind num num2 body group key rec qa = .agg #[.int .i64 kind, .int .i64 num, .int .i64 num2, .string body, .string group, .string key, .string rec, .int .i64 qa.vis, .int .i64 qa.ret, .int .i64 qa.del, .int .i64 qa.win, .int .i64 qa.max, .string qa.dead, .bool qa.fifo] from rfl)
    obtain ⟨⟨a2, now2, next2, l2, k2⟩, hs2⟩ : ∃ s2, s2 = qDoes ⟨a1, now1, next1, l1, k1⟩ kind num num2 body group key rec qa := ⟨_, rfl⟩
    have hd := fun (w0 w : World) (Ps : List Asn) (h : Hp w0 w (ADm (.slice A1 n1 c1) l1 :: AKy (.slice B1 m1 d1) k1 :: AQu qb' ⟨a1, now1, next1, l1, k1⟩ j :: Ps)) => Hp.does (ρ := ⟨a1, now1, next1, l1, k1⟩) h hI.out (show RecOk w0 j by unfold RecOk; omega) (by omega) (by omega) kind num num2 body group key rec qa hgs hks
    rw [← hs2, HV1.out, HV2.out] at hd
    have HD := Lib.hid hd
    have HI2 := Lib.hid (show QInv ⟨a2, now2, next2, l2, k2⟩ (j + 1) by rw [hs2]; exact hI.out.does _ _ _ _ _ _ _ _)
    clear hd hs2
    go_wp2_with fail
    refine Calls.mono (HD.out _ _ _ HX.out.up4.up4.up4) ?_
    rintro e w2 ⟨b, A3, n3, c3, B3, m3, d3, hb, rfl, hP⟩
    obtain rfl : b = true := by first | exact hb rfl | exact hb trivial | exact hb
    rw [show Qs.val ⟨a2, now2, next2, l2, k2⟩ (.slice A3 n3 c3) (.slice B3 m3 d3) = .agg #[.int .i64 a2.vis, .int .i64 a2.ret, .int .i64 a2.del, .int .i64 a2.win, .int .i64 a2.max, .string a2.dead, .bool a2.fifo, .int .i64 now2, .int .i64 next2, .slice A3 n3 c3, .slice B3 m3 d3] from rfl]
    have HV3 := Lib.hid (show Qs.val ⟨a2, now2, next2, l2, k2⟩ (.slice A3 n3 c3) (.slice B3 m3 d3) = .agg #[.int .i64 a2.vis, .int .i64 a2.ret, .int .i64 a2.del, .int .i64 a2.win, .int .i64 a2.max, .string a2.dead, .bool a2.fifo, .int .i64 now2, .int .i64 next2, .slice A3 n3 c3, .slice B3 m3 d3] from rfl)
    have HP := Lib.hid (hP.alloc (.cells #[.int .i64 a2.vis, .int .i64 a2.ret, .int .i64 a2.del, .int .i64 a2.win, .int .i64 a2.max, .string a2.dead, .bool a2.fifo, .int .i64 now2, .int .i64 next2, .slice A3 n3 c3, .slice B3 m3 d3] 58))
    obtain ⟨nb, hnb⟩ : ∃ nb, nb = w2.heap.size := ⟨_, rfl⟩
    clear hP hb o0 o1 o2 o3 o4 o5 o6 o7 o8 o9 o10 o11 o12 o13 f0 f1 f2 f3 f4 f5 f6 f7 f8 f9 f10
    go_upto_region 22 with (fail)
    rw [← hnb] at HP ⊢
    clear hnb
    generalize w2.alloc (.cells #[.int .i64 a2.vis, .int .i64 a2.ret, .int .i64 a2.del, .int .i64 a2.win, .int .i64 a2.max, .string a2.dead, .bool a2.fifo, .int .i64 now2, .int .i64 next2, .slice A3 n3 c3, .slice B3 m3 d3] 58) = W2 at *
    obtain ⟨f0, f1, f2, f3, f4, f5, f6, f7, f8, f9, f10, _⟩ := blk11 HP.out.blk0
    go_wp2_with fail
    rw [← HV3.out]
    refine Calls.mono (Hp.same (σ := ⟨a2, now2, next2, l2, k2⟩) HP.out.down3 HI2.out (by omega)) ?_
    rintro e w5 ⟨rfl, hP5⟩
    have HP5 := Lib.hid hP5
    clear hP5 f0 f1 f2 f3 f4 f5 f6 f7 f8 f9 f10
    obtain ⟨f0, f1, f2, f3, f4, f5, f6, f7, f8, f9, f10, _⟩ := blk11 HP5.out.tail.tail.tail.blk0
    obtain ⟨z0, z1, z2, z3, z4, z5, z6, z7, z8, z9, z10, zf⟩ := blk11 HP5.out.tail.tail.tail.blk2
    rw [HV3.out]
    go_wp2_with fail
    have hW := (HP5.out.up5).set11 (.int .i64 a2.vis) (.int .i64 a2.ret) (.int .i64 a2.del) (.int .i64 a2.win) (.int .i64 a2.max) (.string a2.dead) (.bool a2.fifo) (.int .i64 now2) (.int .i64 next2) (.slice A3 n3 c3) (.slice B3 m3 d3)
    generalize (((((((((((w5.setCell ⟨rb, 0, none⟩ (.int .i64 a2.vis)).setCell ⟨rb, 1, none⟩ (.int .i64 a2.ret)).setCell ⟨rb, 2, none⟩ (.int .i64 a2.del)).setCell ⟨rb, 3, none⟩ (.int .i64 a2.win)).setCell ⟨rb, 4, none⟩ (.int .i64 a2.max)).setCell ⟨rb, 5, none⟩ (.string a2.dead)).setCell ⟨rb, 6, none⟩ (.bool a2.fifo)).setCell ⟨rb, 7, none⟩ (.int .i64 now2)).setCell ⟨rb, 8, none⟩ (.int .i64 next2)).setCell ⟨rb, 9, none⟩ (.slice A3 n3 c3)).setCell ⟨rb, 10, none⟩ (.slice B3 m3 d3)) = WW at *
    refine ⟨⟨j + 1, qb', a2, now2, next2, l2, k2, A3, n3, c3, B3, m3, d3, rfl, by simp, by omega, HI2.out, ?_⟩, ?_⟩
    · exact (hW.up4.tail).up4.tail
    · simp [intOf]
      omega
theorem does_law (a : QA) (A : Option Addr) (n cap : Nat) (xs : List QOp) (w : World) (hC : KQOp.C w A n xs) (_ : n ≤ cap) (hok : ∀ x ∈ xs, opWf x) :
    Calls Tryz.prog 11 #[a.val, .slice A n cap] w fun e w' => e = .returned (.bool true) ∧ Below w.heap.size w w' := does_at a A n cap xs w hC hok
end Go.Proofs.YtoclcmnphdgfpaaGreatDoor
