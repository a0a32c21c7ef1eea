/- The statement QueueFifo of layer 8: every call of it tells true and leaves what was there as it was. -/
import Derived.Test.YtoclcmnphdgfpaaGreatDoorG14
import Derived.Test.YtoclcmnphdgfpaaGreatDoorG13
import Derived.Test.YtoclcmnphdgfpaaGreatDoorQuLoad
set_option linter.unusedVariables false
set_option linter.unusedSimpArgs false
namespace Go.Proofs.YtoclcmnphdgfpaaGreatDoor
open Go.RowKit Go.Maps Go.Proofs.YtoclcmnphdgfpaaGreatDoorW.PrintWords Go.Proofs.YtoclcmnphdgfpaaGreatDoorW.PrintLast
theorem mput_len {α β : Type} [DecidableEq α] (l : List (α × β)) (a : α) (x : β) : (mput l a x).length ≤ l.length + 1 := by
  unfold mput mdel
  rw [List.length_cons]
  have := List.length_filter_le (fun p : α × β => decide (p.1 ≠ a)) l
  omega
section
variable {σ : Qs} {T : Nat}
theorem send_id (hi : QInv σ T) (body group key : ByteArray) (delay : Int) : 0 ≤ (qSend σ body group key delay).2.1 ∧ (qSend σ body group key delay).2.1 ≤ T + 1 ∧ σ.next ≤ (qSend σ body group key delay).1.next := by
  have hn := hi.nxt
  unfold qSend
  split
  · exact ⟨by dsimp only; omega, by dsimp only; omega, Int.le_refl _⟩
  · cases hm : mget σ.k key with
    | some x =>
      have := hi.kid _ (mget_some hm)
      dsimp only at this ⊢
      omega
    | none =>
      dsimp only
      split
      · exact ⟨by dsimp only; omega, by dsimp only; omega, Int.le_refl _⟩
      · refine ⟨by dsimp only; omega, by dsimp only; omega, ?_⟩
        show σ.next ≤ σ.next + 1
        omega
theorem rcv_mem {n vis : Int} {x : Tk} (h : x ∈ (qRcv σ n vis).2.1) : ∃ m ∈ σ.l, x = m.tk ∧ (σ.a.fifo = true → qFirst σ.l m = true) := by
  unfold qRcv at h
  split at h
  · obtain ⟨m, hm, rfl⟩ := List.mem_map.1 h
    have h1 := List.mem_of_mem_take hm
    unfold qReady at h1
    obtain ⟨h2, h3⟩ := List.mem_filter.1 h1
    refine ⟨m, h2, rfl, fun hf => ?_⟩
    rw [hf] at h3
    simpa using (Bool.and_eq_true_iff.1 h3).2
  · cases h
theorem rcv_len (n vis : Int) : (qRcv σ n vis).2.1.length ≤ 10 := by
  unfold qRcv
  split
  · rename_i h
    unfold qMayRecv at h
    rw [decide_eq_true_iff] at h
    rw [List.length_map]
    unfold qTook
    rw [List.length_take]
    omega
  · exact Nat.zero_le _
theorem rcv_ids (n vis : Int) : (qRcv σ n vis).1.l.map (·.id) = σ.l.map (·.id) := by
  unfold qRcv
  split
  · show (σ.l.map _).map _ = _
    rw [List.map_map]
    apply List.map_congr_left
    intro m _
    simp only [Function.comp]
    split <;> rfl
  · rfl
end
set_option maxHeartbeats 1600000 in
set_option maxRecDepth 100000 in
theorem fifo_at (a : QA) (A : Option Addr) (n cap : Nat) (xs : List QOp) (w : World) (hC : KQOp.C w A n xs) (hok : ∀ x ∈ xs, opWf x) :
    Calls Tryz.prog 6 #[a.val, .slice A n cap] w fun e w' => e = .returned (.bool true) ∧ Below w.heap.size w w' := by
  obtain ⟨av, ar, ad, ai, am, az, af⟩ := a
  rw [QA.mk_val]
  have HNW := Lib.hid (fun (w1 : World) (Ps : List Asn) (h : Hp w w1 Ps) => h.quNew ⟨av, ar, ad, ai, am, az, true⟩)
  have HLA := Lib.hid (fun w1 : World => lawAttr_any ⟨av, ar, ad, ai, am, az, true⟩ w1)
  have HRN := Lib.hid (fun w1 : World => refNew_any ⟨av, ar, ad, ai, am, az, true⟩ w1)
  rw [QA.mk_val] at HNW HLA HRN
  have HC := Lib.hid hC
  have HOK := Lib.hid hok
  have HLX := Lib.hid (show n = xs.length from (Kd.C_len hC).symm)
  have HFW := Lib.hid (fun (w1 : World) (h : Below w.heap.size w w1) => few_any A n cap xs w1 (Kd.C_below hC h) (Kd.C_len hC) hok)
  obtain ⟨fw, hfw⟩ : ∃ fw, fw = fewB xs := ⟨_, rfl⟩
  rw [← hfw] at HFW
  have HFB := Lib.hid hfw
  obtain ⟨r, hr⟩ : ∃ r, r = qRight ⟨av, ar, ad, ai, am, az, true⟩ := ⟨_, rfl⟩
  rw [← hr] at HNW
  have HR := Lib.hid hr
  have HR0 := Lib.hid (show Qs.val (qNew ⟨av, ar, ad, ai, am, az, true⟩) (.slice none 0 0) (.slice none 0 0) = .agg #[.int .i64 av, .int .i64 ar, .int .i64 ad, .int .i64 ai, .int .i64 am, .string az, .bool true, .int .i64 0, .int .i64 1, .slice none 0 0, .slice none 0 0] from rfl)
  clear hC hok hfw hr
  have hmm := @run_makeMap Tryz.prog
  have HA0 := Lib.hid ((Hp.nil w).alloc (.cells #[.int .i64 av, .int .i64 ar, .int .i64 ad, .int .i64 ai, .int .i64 am, .string az, .bool af] 23))
  have HA := Lib.hid ((Hp.nil w).alloc (.cells #[.int .i64 av, .int .i64 ar, .int .i64 ad, .int .i64 ai, .int .i64 am, .string az, .bool true] 23))
  obtain ⟨d0, d1, d2, d3, d4, d5, d6⟩ := box7 HA0.out.blk0
  obtain ⟨c0, c1, c2, c3, c4, c5, c6⟩ := box7 HA.out.blk0
  go_enter Tryz.func6, Tryz.ntmps6
  go_wp2_with fail
  refine Calls.mono (HNW.out _ _ HA.out) ?_
  clear c0 c1 c2 c3 c4 c5 c6 d0 d1 d2 d3 d4 d5 d6
  cases r
  case false =>
    rintro e w2 ⟨h1, _⟩
    obtain ⟨rfl, hP⟩ := h1 rfl
    have HP2 := Lib.hid hP
    clear hP h1
    go_wp2_with (go_at_call 13; refine Calls.mono (awake_any _) ?_; rintro e wz ⟨rfl, hB⟩)
    go_ret
    exact ⟨rfl, HP2.out.belowW.trans (hB.mono HP2.out.belowW.size)⟩
  case true =>
  rintro e w2 ⟨_, h2⟩
  obtain ⟨qb, rfl, hP⟩ := h2 rfl
  have HP2 := Lib.hid hP
  clear hP h2
  go_wp2_with fail
  refine Calls.mono (HFW.out w2 HP2.out.belowW) ?_
  rintro e w3 ⟨rfl, hB⟩
  have HP3 := Lib.hid (HP2.out.below hB)
  clear hB
  cases fw
  case false =>
    go_wp2_with (go_at_call 13; refine Calls.mono (awake_any _) ?_; rintro e wz ⟨rfl, hB⟩)
    go_ret
    exact ⟨rfl, HP3.out.belowW.trans (hB.mono HP3.out.belowW.size)⟩
  have hn60 : n ≤ 60 := by rw [HLX.out]; exact few_len HFB.out.symm
  have hg1 : Hp w (w3.alloc (.map #[] 0)) (AMap KI Value.string w3.heap.size [] :: AQu qb (qNew ⟨av, ar, ad, ai, am, az, true⟩) 0 :: ABlk w.heap.size (.cells #[.int .i64 av, .int .i64 ar, .int .i64 ad, .int .i64 ai, .int .i64 am, .string az, .bool true] 23) :: []) := (HP3.out.alloc (.map #[] 0)).asAMap
  have hl1 : Hp w ((w3.alloc (.map #[] 0)).alloc (.map #[] 0)) (AMap KG (Value.int .i64) (w3.alloc (.map #[] 0)).heap.size [] :: _) := (hg1.alloc (.map #[] 0)).asAMap
  obtain ⟨gm, hgm⟩ : ∃ g, g = w3.heap.size := ⟨_, rfl⟩
  obtain ⟨lm, hlm⟩ : ∃ g, g = (w3.alloc (.map #[] 0)).heap.size := ⟨_, rfl⟩
  rw [← hlm, ← hgm] at hl1
  have HM0 := Lib.hid (hl1.swap.up3.up3)
  have HGM := Lib.hid hgm
  have HLM := Lib.hid (hlm.trans (by simp : (w3.alloc (.map #[] 0)).heap.size = w3.heap.size + 1))
  clear hg1 hl1 hgm hlm
  go_wp2_with fail
  rw [← HLM.out, ← HGM.out]
  generalize (w3.alloc (.map #[] 0)).alloc (.map #[] 0) = W3 at *
  clear hmm
  go_loopw [35] (fun i wr => ∃ (j : Nat) (σ : Qs) (gs : List (Int × ByteArray)) (ls : List (ByteArray × Int)), i = .int .i64 j ∧ j ≤ n ∧ Hid (QInv σ j) ∧ Hid (FInv σ gs ls ∧ (∀ p ∈ ls, p.2 < σ.next ∧ p.1.size ≤ 256) ∧ gs.length ≤ j ∧ ls.length ≤ 20 * j) ∧ Hp w wr (AQu qb σ j :: ABlk w.heap.size (.cells #[.int .i64 av, .int .i64 ar, .int .i64 ad, .int .i64 ai, .int .i64 am, .string az, .bool true] 23) :: AMap KI Value.string gm gs :: AMap KG (Value.int .i64) lm ls :: [])) (fun i _ => n - (intOf i).toNat)
  case atStart => exact ⟨0, qNew ⟨av, ar, ad, ai, am, az, true⟩, [], [], rfl, Nat.zero_le _, Lib.hid (QInv.new HR.out.symm), Lib.hid ⟨FInv.new rfl, fun p hp => (by cases hp), Nat.le_refl _, Nat.zero_le _⟩, HM0.out⟩
  case round =>
    obtain ⟨j, σ, gs, ls, rfl, hj, hI, hF, hQ⟩ := hrel
    have HQ := Lib.hid hQ
    clear hQ
    by_cases hjn : j < n
    case neg =>
      have hj' : j = n := by omega
      subst hj'
      go_wp2_with (go_at_call 13; refine Calls.mono (awake_any _) ?_; rintro e wz ⟨rfl, hB⟩)
      go_ret
      exact ⟨rfl, HQ.out.belowW.trans (hB.mono HQ.out.belowW.size)⟩
    have i0 : (0 : Int) ≤ (j : Int) := by omega
    have i1 : (j : Int) < (n : Int) := by omega
    obtain ⟨oa, kind, num, num2, body, group, key, rec, qa, rfl, hgs, hks, e0, e1, e2, e3, e4, e5, e6, e7, e8, e9, e10, e11, e12, e13⟩ := C_nth_call (Kd.C_below HC.out HQ.out.belowW) HOK.out j hjn
    have HA := Lib.hid (HQ.out.alloc (.cells #[.int .i64 kind, .int .i64 num, .int .i64 num2, .string body, .string group, .string key, .string rec, .int .i64 qa.vis, .int .i64 qa.ret, .int .i64 qa.del, .int .i64 qa.win, .int .i64 qa.max, .string qa.dead, .bool qa.fifo] 52))
    obtain ⟨ob, hob⟩ : ∃ ob, ob = wr.heap.size := ⟨_, rfl⟩
    go_upto_region 10 with (fail)
    rw [← hob] at HA ⊢
    clear hob e0 e1 e2 e3 e4 e5 e6 e7 e8 e9 e10 e11 e12 e13
    generalize wr.alloc (.cells #[.int .i64 kind, .int .i64 num, .int .i64 num2, .string body, .string group, .string key, .string rec, .int .i64 qa.vis, .int .i64 qa.ret, .int .i64 qa.del, .int .i64 qa.win, .int .i64 qa.max, .string qa.dead, .bool qa.fifo] 52) = W at *
    obtain ⟨o0, o1, o2, o3, o4, o5, o6, o7, o8, o9, o10, o11, o12, o13⟩ := blk14 HA.out.blk0
    by_cases h1 : kind = 1
    case pos =>
      have he : (kind == 1) = true := by simpa using h1
      obtain ⟨x1, hx1⟩ : ∃ x, x = (qSend σ body group key (-1)).2.1 := ⟨_, rfl⟩
      obtain ⟨e1, he1⟩ : ∃ x, x = (qSend σ body group key (-1)).2.2 := ⟨_, rfl⟩
      obtain ⟨σ2, hσ2⟩ : ∃ s, s = (qSend σ body group key (-1)).1 := ⟨_, rfl⟩
      have hsi := send_id hI.out body group key (-1)
      have hfs := hF.out.1.send hI.out (fun p hp => (hF.out.2.1 p hp).1) body group key (-1)
      rw [← hx1, ← hσ2] at hsi
      rw [← hx1, ← he1, ← hσ2] at hfs
      have hwf : (Lit.int .i64 x1).wf = true := wf_id (by omega)
      have HFS := Lib.hid hfs
      have HSI := Lib.hid hsi
      have HI2 := Lib.hid (show QInv σ2 (j + 1) by rw [hσ2]; exact hI.out.send _ _ _ _)
      have HX := Lib.hid (And.intro hx1 (And.intro he1 hσ2))
      have hgl : gs.length < maxLen := by have := hF.out.2.2.1; simp [maxLen]; omega
      clear h1 hx1 he1 hσ2 hsi hfs
      go_wp2_with fail
      refine Calls.mono (HA.out.swap.quSend (by omega) body group key (-1) hgs hks) ?_
      rw [← HX.out.1, ← HX.out.2.1, ← HX.out.2.2]
      rintro e w6 ⟨rfl, hP⟩
      have HP6 := Lib.hid hP.up3
      clear hP o0 o1 o2 o3 o4 o5 o6 o7 o8 o9 o10 o11 o12 o13
      obtain ⟨o0, o1, o2, o3, o4, o5, o6, o7, o8, o9, o10, o11, o12, o13⟩ := blk14 HP6.out.tail.tail.blk0
      have lk := lookG2 HP6.out.aMap hwf
      by_cases h0 : e1 = 0
      case neg =>
        have hee : (e1 == 0) = false := by simpa using h0
        have HF2 := HFS.out.1 h0
        clear h0
        go_wp2_with fail
        refine ⟨⟨j + 1, σ2, gs, ls, by simp, by omega, HI2, Lib.hid ⟨HF2, fun p hp => ⟨by have := (hF.out.2.1 p hp).1; have := HSI.out.2.2; omega, (hF.out.2.1 p hp).2⟩, by have := hF.out.2.2.1; omega, by have := hF.out.2.2.2; omega⟩, HP6.out.down3.drop1⟩, ?_⟩
        simp [intOf]
        omega
      case pos =>
        have hee : (e1 == 0) = true := by simpa using h0
        have HF3 := Lib.hid (HFS.out.2 h0)
        clear h0
        cases hg : (mget gs x1)
        case some g =>
          rw [hg] at lk
          dsimp only [Option.getD, Option.isSome] at lk
          have HF2 := HF3.out.1 (by rw [hg]; rfl)
          clear hg
          go_wp2_with fail
          refine ⟨⟨j + 1, σ2, gs, ls, by simp, by omega, HI2, Lib.hid ⟨HF2, fun p hp => ⟨by have := (hF.out.2.1 p hp).1; have := HSI.out.2.2; omega, (hF.out.2.1 p hp).2⟩, by have := hF.out.2.2.1; omega, by have := hF.out.2.2.2; omega⟩, HP6.out.down3.drop1⟩, ?_⟩
          simp [intOf]
          omega
        case none =>
          rw [hg] at lk
          dsimp only [Option.getD, Option.isSome] at lk
          have HF2 := Lib.hid (HF3.out.2 hg)
          clear hg
          go_wp2_with (refine wpList_put_at (K := KI) (enc := Value.string) HP6.out.aMap (by rfl) (.tmp 65) (.tmp 66) (.tmp 68) 49 9 rfl under49 hgl rfl x1 group rfl rfl hwf ?_; intro w7 hM7 hB7; have HP7 := Lib.hid (HP6.out.aMapUse.2 w7 _ hM7 hB7); clear hM7 hB7)
          refine ⟨⟨j + 1, σ2, mput gs x1 group, ls, by simp, by omega, HI2, Lib.hid ⟨HF2.out, fun p hp => ⟨by have := (hF.out.2.1 p hp).1; have := HSI.out.2.2; omega, (hF.out.2.1 p hp).2⟩, by have := hF.out.2.2.1; have := mput_len gs x1 group; omega, by have := hF.out.2.2.2; omega⟩, HP7.out.down3.drop1⟩, ?_⟩
          simp [intOf]
          omega
    case neg =>
    have he : (kind == 1) = false := by simpa using h1
    have HK1 := Lib.hid h1
    clear h1
    by_cases h2 : kind = 2
    case neg =>
      have he2 : (kind != 2) = true := by simpa using h2
      clear h2
      obtain ⟨σ2, hσ2⟩ : ∃ s, s = qDoes σ kind num num2 body group key rec qa := ⟨_, rfl⟩
      have hdo := fun (w1 : World) (Ps : List Asn) (h : Hp w w1 (ABlk ob (.cells #[.int .i64 kind, .int .i64 num, .int .i64 num2, .string body, .string group, .string key, .string rec, .int .i64 qa.vis, .int .i64 qa.ret, .int .i64 qa.del, .int .i64 qa.win, .int .i64 qa.max, .string qa.dead, .bool qa.fifo] 52) :: AQu qb σ j :: Ps)) => h.doesFresh HR.out.symm (show RecOk w j by unfold RecOk; omega) (by omega) kind num num2 body group key rec qa hgs hks
      rw [HR0.out, show opVal kind num num2 body group key rec qa = .agg #[.int .i64 kind, .int .i64 num, .int .i64 num2, .string body, .string group, .string key, .string rec, .int .i64 qa.vis, .int .i64 qa.ret, .int .i64 qa.del, .int .i64 qa.win, .int .i64 qa.max, .string qa.dead, .bool qa.fifo] from rfl, ← hσ2] at hdo
      have HDO := Lib.hid hdo
      have HS2 := Lib.hid hσ2
      clear hdo hσ2
      go_wp2_with fail
      clear o0 o1 o2 o3 o4 o5 o6 o7 o8 o9 o10 o11 o12 o13
      have HPd := Lib.hid (HA.out.below (Below.refl _ _).drew)
      refine start_ (n := 6) (S := fun w' => w'.heap[ob]? = some (.cells #[.int .i64 kind, .int .i64 num, .int .i64 num2, .string body, .string group, .string key, .string rec, .int .i64 qa.vis, .int .i64 qa.ret, .int .i64 qa.del, .int .i64 qa.win, .int .i64 qa.max, .string qa.dead, .bool qa.fifo] 52) ∧ w'.heap[w.heap.size]? = some (.cells #[.int .i64 av, .int .i64 ar, .int .i64 ad, .int .i64 ai, .int .i64 am, .string az, .bool true] 23)) (ds := []) #[false, false, false, false, false, false] (by kernel_rfl) rfl rfl (⟨HPd.out.blk0, HPd.out.blk2⟩) (fun hHeld => ?_)
      generalize W.drew = wd at *
      refine pure_ (i := 0) (N := (some 72)) (v := ?_) (a' := ?_) #[true, false, false, false, false, false] rfl rfl (by kernel_rfl) (fun _ _ _ h => h) (Or.inl ⟨by rfl, ?_⟩) ?_ ?_
      rotate_left
      · intro w'
        go_simp
        with_reducible rfl
      rotate_left
      · simp only [Act.put, List.setIfInBounds_toArray, List.set_cons_zero, List.set_cons_succ, i64_w, i32_w]
        rfl
      refine take_ (i := 1) (N := (some 73)) (v := ?_) (a' := ?_) #[true, true, false, false, false, false] rfl rfl (by kernel_rfl) (fun _ _ _ h => h) (Or.inl ⟨by rfl, ?_⟩) hHeld ?_ ?_
      rotate_left
      · rintro w' ⟨so, sb⟩
        obtain ⟨g0, g1, g2, g3, g4, g5, g6⟩ := box7 sb
        go_simp
        with_reducible rfl
      rotate_left
      · simp only [Act.put, List.setIfInBounds_toArray, List.set_cons_zero, List.set_cons_succ, i64_w, i32_w]
        rfl
      refine take_ (i := 4) (N := (some 76)) (v := ?_) (a' := ?_) #[true, true, false, false, true, false] rfl rfl (by kernel_rfl) (fun _ _ _ h => h) (Or.inl ⟨by rfl, ?_⟩) hHeld ?_ ?_
      rotate_left
      · rintro w' ⟨so, sb⟩
        obtain ⟨g0, g1, g2, g3, g4, g5, g6, g7, g8, g9, g10, g11, g12, g13⟩ := blk14 so
        go_simp
        with_reducible rfl
      rotate_left
      · simp only [Act.put, List.setIfInBounds_toArray, List.set_cons_zero, List.set_cons_succ, i64_w, i32_w]
        rfl
      refine one_ (i := 2) (N := some 74) #[true, true, true, false, true, false] rfl rfl (by kernel_rfl) (by decide) (fun K hK => ?_)
      refine goes_ Tryz.func24 (by kernel_rfl) rfl #[.agg #[.int .i64 av, .int .i64 ar, .int .i64 ad, .int .i64 ai, .int .i64 am, .string az, .bool true]] (by rfl) rfl rfl (by first | rfl | (go_simp; done) | (simp [Act.eval]; done) | (simp [Act.eval]; rfl)) ?_
      refine Calls.mono (HLA.out wd) ?_
      rintro e w4 ⟨rfl, hB4⟩
      have HD4 := Lib.hid (HPd.out.below hB4)
      clear hB4
      refine ⟨_, rfl, ?_⟩
      refine hK.out _ _ ⟨HD4.out.blk0, HD4.out.blk2⟩ (fun hHeld => ?_)
      clear hK K
      refine norm_ (a' := ?_) ?_ ?_
      rotate_left
      · show Act.put _ (some 74) _ = _
        simp only [Act.put, List.setIfInBounds_toArray, List.set_cons_zero, List.set_cons_succ, i64_w, i32_w]
        rfl
      refine one_ (i := 3) (N := some 75) #[true, true, true, true, true, false] rfl rfl (by kernel_rfl) (by decide) (fun K hK => ?_)
      refine goes_ Tryz.func23 (by kernel_rfl) rfl #[.agg #[.int .i64 av, .int .i64 ar, .int .i64 ad, .int .i64 ai, .int .i64 am, .string az, .bool true]] (by rfl) rfl rfl (by first | rfl | (go_simp; done) | (simp [Act.eval]; done) | (simp [Act.eval]; rfl)) ?_
      refine Calls.mono (HRN.out w4) ?_
      rintro e w5 ⟨rfl, hB5⟩
      have HD5 := Lib.hid (HD4.out.below hB5)
      clear hB5
      rw [HR0.out]
      refine ⟨_, rfl, ?_⟩
      refine hK.out _ _ ⟨HD5.out.blk0, HD5.out.blk2⟩ (fun hHeld => ?_)
      clear hK K
      refine norm_ (a' := ?_) ?_ ?_
      rotate_left
      · show Act.put _ (some 75) _ = _
        simp only [Act.put, List.setIfInBounds_toArray, List.set_cons_zero, List.set_cons_succ, i64_w, i32_w]
        rfl
      refine one_ (i := 5) (N := some 77) #[true, true, true, true, true, true] rfl rfl (by kernel_rfl) (by decide) (fun K hK => ?_)
      refine goes_ Tryz.func22 (by kernel_rfl) rfl #[.pointer (some ⟨qb, 0, none⟩), .agg #[.int .i64 av, .int .i64 ar, .int .i64 ad, .int .i64 ai, .int .i64 am, .string az, .bool true, .int .i64 0, .int .i64 1, .slice none 0 0, .slice none 0 0], .agg #[.int .i64 kind, .int .i64 num, .int .i64 num2, .string body, .string group, .string key, .string rec, .int .i64 qa.vis, .int .i64 qa.ret, .int .i64 qa.del, .int .i64 qa.win, .int .i64 qa.max, .string qa.dead, .bool qa.fifo]] (by rfl) rfl rfl (by first | rfl | (go_simp; done) | (simp [Act.eval]; done) | (simp [Act.eval]; rfl)) ?_
      refine Calls.mono (HDO.out _ _ HD5.out) ?_
      rintro e w6 ⟨v, rfl, hP6⟩
      have HD6 := Lib.hid hP6
      clear hP6
      refine ⟨_, rfl, ?_⟩
      refine hK.out _ _ ⟨HD6.out.blk0, HD6.out.blk2⟩ (fun hHeld => ?_)
      clear hK K
      refine norm_ (a' := ?_) ?_ ?_
      rotate_left
      · show Act.put _ (some 77) _ = _
        simp only [Act.put, List.setIfInBounds_toArray, List.set_cons_zero, List.set_cons_succ, i64_w, i32_w]
        rfl
      refine done_ (by kernel_rfl) ?_
      have HSB := Lib.hid (show Sub σ2 σ by rw [HS2.out]; exact sub_does _ _ _ _ _ _ _ _ HK1.out)
      go_wp2_with fail
      refine ⟨⟨j + 1, σ2, gs, ls, by simp, by omega, Lib.hid (by rw [HS2.out]; exact hI.out.does _ _ _ _ _ _ _ _), Lib.hid ⟨hF.out.1.sub HSB.out, fun p hp => ⟨by have := (hF.out.2.1 p hp).1; rw [HSB.out.nxt]; exact this, (hF.out.2.1 p hp).2⟩, by have := hF.out.2.2.1; omega, by have := hF.out.2.2.2; omega⟩, HD6.out.tail⟩, ?_⟩
      simp [intOf]
      omega
    case pos =>
    have he2 : (kind != 2) = false := by simpa using h2
    clear h2
    obtain ⟨tks, htks⟩ : ∃ t, t = (qRcv σ num num2).2.1 := ⟨_, rfl⟩
    obtain ⟨er, her⟩ : ∃ t, t = (qRcv σ num num2).2.2 := ⟨_, rfl⟩
    obtain ⟨σ2, hσ2⟩ : ∃ s, s = (qRcv σ num num2).1 := ⟨_, rfl⟩
    have HTM := Lib.hid (show ∀ x ∈ tks, ∃ m ∈ σ.l, x = m.tk ∧ qFirst σ.l m = true from fun x hx => by
      rw [htks] at hx
      obtain ⟨m, h1, h2, h3⟩ := rcv_mem hx
      exact ⟨m, h1, h2, h3 hF.out.1.fifo⟩)
    have HIDS := Lib.hid (show σ2.l.map (·.id) = σ.l.map (·.id) by rw [hσ2]; exact rcv_ids num num2)
    have HSB := Lib.hid (show Sub σ2 σ by rw [hσ2]; exact sub_rcv num num2)
    have HI2 := Lib.hid (show QInv σ2 (j + 1) by rw [hσ2]; exact hI.out.rcv num num2)
    have hk10 : tks.length ≤ 10 := by rw [htks]; exact rcv_len num num2
    have HRW := Lib.hid (And.intro htks (And.intro her hσ2))
    clear htks her hσ2
    go_wp2_with fail
    refine Calls.mono (HA.out.swap.quRcv (show RecOk w j by unfold RecOk; omega) num num2) ?_
    rw [← HRW.out.1, ← HRW.out.2.1, ← HRW.out.2.2]
    rintro e w6 ⟨A6, k6, c6, hk6, rfl, hP⟩
    have HK6 := Lib.hid hk6
    have hk11 : k6 ≤ 10 := by rw [hk6]; exact hk10
    have HP6 := Lib.hid hP.up2.tail
    clear hP hk6 o0 o1 o2 o3 o4 o5 o6 o7 o8 o9 o10 o11 o12 o13
    go_wp2_with fail
    go_loopw [89] (fun i wr => ∃ (q : Nat) (ls2 : List (ByteArray × Int)), i = .int .i64 q ∧ q ≤ k6 ∧ Hid (FInv σ gs ls2 ∧ (∀ p ∈ ls2, p.2 < σ.next ∧ p.1.size ≤ 256) ∧ ls2.length ≤ 20 * j + q) ∧ Hp w wr (ATk (.slice A6 k6 c6) tks :: AQu qb σ2 (j + 1) :: ABlk w.heap.size (.cells #[.int .i64 av, .int .i64 ar, .int .i64 ad, .int .i64 ai, .int .i64 am, .string az, .bool true] 23) :: AMap KI Value.string gm gs :: AMap KG (Value.int .i64) lm ls2 :: [])) (fun i _ => k6 - (intOf i).toNat)
    case atStart => exact ⟨0, ls, rfl, Nat.zero_le _, Lib.hid ⟨hF.out.1, hF.out.2.1, by have := hF.out.2.2.2; omega⟩, HP6.out⟩
    case round =>
      obtain ⟨q, ls2, rfl, hq, hF2, hQ⟩ := hrel
      have HQ2 := Lib.hid hQ
      clear hQ
      by_cases hqk : q < k6
      case neg =>
        have hq' : q = k6 := by omega
        subst hq'
        go_wp2_with fail
        refine ⟨⟨j + 1, σ2, gs, ls2, by simp, by omega, HI2, Lib.hid ⟨hF2.out.1.sub HSB.out, fun p hp => ⟨by have := (hF2.out.2.1 p hp).1; rw [HSB.out.nxt]; exact this, (hF2.out.2.1 p hp).2⟩, by have := hF.out.2.2.1; omega, by have := hF2.out.2.2; omega⟩, HQ2.out.tail⟩, ?_⟩
        simp [intOf]
        omega
      case pos =>
      have j0 : (0 : Int) ≤ (q : Int) := by omega
      have j1 : (q : Int) < (k6 : Int) := by omega
      have hrT := Kd.R_reads' HQ2.out.head
      rw [← HK6.out] at hrT
      obtain ⟨adr, x, rfl, hx, d0, d1, d2, d3, d4⟩ := C_nth_tk hrT.2.2 q hqk
      obtain ⟨m, hm, rfl, hfm⟩ := HTM.out x (List.mem_of_getElem? hx)
      dsimp only [Msg.tk] at d0 d1 d2 d3 d4
      obtain ⟨rc, hrc⟩ : ∃ rc, rc = receipt m.id (m.count + 1) := ⟨_, rfl⟩
      rw [← hrc] at d2
      have HXB := Lib.hid (HQ2.out.alloc (.cells #[.int .i64 m.id, .int .i64 (m.count + 1), .string rc, .string m.body, .string m.group] 38))
      obtain ⟨xb, hxb⟩ : ∃ xb, xb = wr.heap.size := ⟨_, rfl⟩
      have HMM := Lib.hid (And.intro hm hfm)
      clear hrT hx hrc hm hfm
      go_upto_region 21 with (fail)
      rw [← hxb] at HXB ⊢
      clear hxb d0 d1 d2 d3 d4
      generalize wr.alloc (.cells #[.int .i64 m.id, .int .i64 (m.count + 1), .string rc, .string m.body, .string m.group] 38) = WX at *
      obtain ⟨ln, hln⟩ : ∃ ln, ln = σ2.l.length := ⟨_, rfl⟩
      have HLN := Lib.hid hln
      clear hln
      go_wp2_with fail
      refine Calls.mono (HXB.out.up2.quIds (by omega)) ?_
      rw [← HLN.out]
      rintro e w7 ⟨A7, c7, rfl, hP⟩
      have HP7 := Lib.hid hP
      clear hP
      have hln1 : ln ≤ 1024 := by rw [HLN.out]; exact HI2.out.len
      go_wp2_with fail
      go_loopw [96] (fun i wr => ∃ t : Nat, i = .int .i64 t ∧ t ≤ ln ∧ Hp w wr (AInt (.slice A7 ln c7) (σ2.l.map (·.id)) :: AQu qb σ2 (j + 1) :: ABlk xb (.cells #[.int .i64 m.id, .int .i64 (m.count + 1), .string rc, .string m.body, .string m.group] 38) :: ATk (.slice (some adr) k6 c6) tks :: ABlk w.heap.size (.cells #[.int .i64 av, .int .i64 ar, .int .i64 ad, .int .i64 ai, .int .i64 am, .string az, .bool true] 23) :: AMap KI Value.string gm gs :: AMap KG (Value.int .i64) lm ls2 :: [])) (fun i _ => ln - (intOf i).toNat)
      case atStart => exact ⟨0, rfl, Nat.zero_le _, HP7.out⟩
      case round =>
        obtain ⟨t, rfl, ht, hQ⟩ := hrel
        have HQ3 := Lib.hid hQ
        clear hQ
        have b0 := blk_cell HQ3.out.blk2 0
        have b4 := blk_cell HQ3.out.blk2 4
        simp only [List.getElem?_toArray, List.getElem?_cons_zero, List.getElem?_cons_succ] at b0 b4
        by_cases htl : t < ln
        case neg =>
          have ht' : t = ln := by omega
          subst ht'
          obtain ⟨hm, hfm⟩ := HMM.out
          have hids := hI.out.ids m hm
          have hnx := hI.out.nxt
          have hwf : (Lit.int .i64 m.id).wf = true := wf_id (by omega)
          have htx := hI.out.text m hm
          have hgz : m.group.size ≤ maxLen := Nat.le_trans htx.2 (by decide)
          have lk1 := lookG HQ3.out.up5.aMap hwf
          rw [hF2.out.1.gid m hm] at lk1
          dsimp only [Option.getD] at lk1
          have lk2 := lookL HQ3.out.up6.aMap hgz
          obtain ⟨v, hv⟩ : ∃ v, v = (mget ls2 m.group).getD 0 := ⟨_, rfl⟩
          have hvl : ¬ m.id < v := by have := hF2.out.1.last m hm; rw [hv]; omega
          rw [← hv] at lk2
          have hll : ls2.length < maxLen := by have := hF2.out.2.2; simp [maxLen]; omega
          have HF3 := Lib.hid (hF2.out.1.took hm hfm)
          have HMB := Lib.hid (And.intro hids.2 htx.2)
          have HQ6 := Lib.hid HQ3.out.up6
          clear hm hfm hids hnx htx hv
          go_wp2_with (refine wpList_put_at (K := KG) (enc := Value.int .i64) HQ6.out.aMap (by rfl) (.tmp 129) (.tmp 131) (.tmp 133) 50 3 rfl under50 hll rfl m.group m.id rfl rfl hgz ?_; intro w8 hM8 hB8; have HP8 := Lib.hid (HQ6.out.aMapUse.2 w8 _ hM8 hB8); clear hM8 hB8)
          refine ⟨⟨q + 1, mput ls2 m.group m.id, by simp, by omega, Lib.hid ⟨HF3.out, fun p hp => ?_, by have := hF2.out.2.2; have := mput_len ls2 m.group m.id; omega⟩, ?_⟩, ?_⟩
          · rcases List.mem_cons.1 hp with rfl | hp
            · exact HMB.out
            · exact hF2.out.2.1 p (List.mem_filter.1 hp).1
          · exact (HP8.out.swap.tail.up2.tail.down4.swap)
          · simp [intOf]
            omega
        case pos =>
        have k0 : (0 : Int) ≤ (t : Int) := by omega
        have k1 : (t : Int) < (ln : Int) := by omega
        have hrI := Kd.R_reads' HQ3.out.head
        rw [List.length_map, ← HLN.out] at hrI
        obtain ⟨ad7, y, rfl, hy, g0⟩ := C_nth_int hrI.2.2 t htl
        rw [HIDS.out, List.getElem?_map] at hy
        obtain ⟨m2, hm2, rfl⟩ := Option.map_eq_some_iff.1 hy
        have hml2 := List.mem_of_getElem? hm2
        have hids := hI.out.ids m2 hml2
        have hnx := hI.out.nxt
        have hwf : (Lit.int .i64 m2.id).wf = true := wf_id (by omega)
        have lk1 := lookG HQ3.out.up5.aMap hwf
        rw [hF2.out.1.gid m2 hml2] at lk1
        dsimp only [Option.getD] at lk1
        have HQF := Lib.hid (show m2.id < m.id → m2.group ≠ m.group from fun hlt e => by
          have h3 := HMM.out.2
          unfold qFirst at h3
          rw [Bool.not_eq_true', List.any_eq_false] at h3
          have := h3 m2 hml2
          rw [decide_eq_true_iff] at this
          exact this ⟨hlt, e⟩)
        clear hrI hy hm2 hml2 hids hnx
        by_cases hlt : m2.id < m.id
        case' pos =>
          have hsb : (m2.group.toList == m.group.toList) = false := by rw [str_beq, decide_eq_false (HQF.out hlt)]
        all_goals
          go_wp2_with fail
          refine ⟨⟨t + 1, by simp, by omega, HQ3.out⟩, ?_⟩
          simp [intOf]
          omega
theorem fifo_law (a : QA) (A : Option Addr) (n cap : Nat) (xs : List QOp) (w : World) (hC : KQOp.C w A n xs) (_ : n ≤ cap) (hok : ∀ x ∈ xs, opWf x) :
    Calls Tryz.prog 6 #[a.val, .slice A n cap] w fun e w' => e = .returned (.bool true) ∧ Below w.heap.size w w' := fifo_at a A n cap xs w hC hok
end Go.Proofs.YtoclcmnphdgfpaaGreatDoor
