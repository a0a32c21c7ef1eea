/- Put together: The document's WriteAnswer. · The document's RightAnswer. · law09.Answer: the document's form of an answer. · law09.Alike of two forms of one answer. · shop.Same of two forms of one answer. -/
import Derived.Test.YtidjapjidihbpaaDoorK12
import Derived.Test.YtidjapjidihbpaaDoorK4
import Derived.Test.YtidjapjidihbpaaDoorWLast
import Derived.Test.YtidjapjidihbpaaDoorK6
set_option linter.unusedVariables false
set_option linter.unusedSimpArgs false
set_option linter.unusedVariables false
set_option linter.unusedSimpArgs false
namespace Go.Proofs.YtidjapjidihbpaaDoor
open Go.RowKit Go.Proofs.YtidjapjidihbpaaDoorW.PrintWords Go.Proofs.YtidjapjidihbpaaDoorW.PrintLast
set_option maxHeartbeats 3200000 in
set_option maxRecDepth 100000 in
theorem refWriteA_any (a : An) (A : Option Addr) (n c : Nat) (B : Option Addr) (m d : Nat) (w : World) (hr : anRight a = true) (hC : (Kd.int .i64).C w A n a.ids) (hD : KTk.C w B m a.took) :
    Calls Tryd.prog 25 #[.agg #[.int .i64 a.code, .slice A n c, .slice B m d]] w fun e w' => ∃ A' n' c', e = .returned (.slice A' n' c') ∧ Hp w w' [ABy (.slice A' n' c') (encAns a)] := by
  have HC := Lib.hid hC
  have HD := Lib.hid hD
  have HN := Lib.hid (Kd.C_len hC)
  have HM := Lib.hid (Kd.C_len hD)
  obtain ⟨hcd, p2, p3, p4, p5⟩ := an_parts hr
  have hn10 : n ≤ 10 := by rw [← HN.out]; exact p2
  have hm10 : m ≤ 10 := by rw [← HM.out]; exact p3
  have HVS := Lib.hid (show ∀ y ∈ a.ids, 0 ≤ y ∧ y ≤ 9223372036854775807 from fun y hy => by have := p4 y hy; omega)
  have HTK := Lib.hid (show ∀ x ∈ a.took, TkOk x from p5)
  have HL1 := Lib.hid (encNum_len (v := a.code) (by omega))
  have HLI : Hid ((encNum n ++ (a.ids.map encNum).flatten).length ≤ 109) := Lib.hid (by
    have e1 := encNum_len (v := (n : Int)) (by omega)
    have e4 := flat_le (f := encNum) (b := 9) (xs := a.ids) (fun x hx => encNum_len (HVS.out x hx).2) a.ids.length
    rw [List.take_length] at e4
    simp only [List.length_append]
    omega)
  clear p2 p3 p4 p5 hC hD hr
  have HP0 := Lib.hid ((Hp.nil w).alloc (.cells #[.int .i64 a.code, .slice A n c, .slice B m d] 61))
  go_enter Tryd.func25, Tryd.ntmps25
  go_upto_region 1 with (fail)
  change Code.wp _ _ _ _ (w.alloc (.cells #[.int .i64 a.code, .slice A n c, .slice B m d] 61))
  generalize w.alloc (.cells #[.int .i64 a.code, .slice A n c, .slice B m d] 61) = W at *
  have HPd := Lib.hid (HP0.out.below (Below.refl _ _).drew)
  refine start_ (n := 8) (S := fun w' => w'.heap[w.heap.size]? = some (.cells #[.int .i64 a.code, .slice A n c, .slice B m d] 61 (0, 0))) (ds := []) #[false, false, false, false, false, false, false, false] (by kernel_rfl) rfl rfl (HPd.out.blk0) (fun hHeld => ?_)
  generalize W.drew = wd at *
  refine pure_ (i := 0) (N := (some 6)) (v := ?_) (a' := ?_) #[true, false, false, false, false, false, false, false] rfl rfl (by kernel_rfl) (fun _ _ _ h => h) (Or.inl ⟨by rfl, ?_⟩) ?_ ?_
  rotate_left
  · intro w'
    go_simp
    with_reducible rfl
  rotate_left
  · simp only [Act.put, List.setIfInBounds_toArray, List.set_cons_zero, List.set_cons_succ, i64_w, i32_w]
    rfl
  refine pure_ (i := 3) (N := (some 9)) (v := ?_) (a' := ?_) #[true, false, false, true, false, false, false, false] rfl rfl (by kernel_rfl) (fun _ _ _ h => h) (Or.inl ⟨by rfl, ?_⟩) ?_ ?_
  rotate_left
  · intro w'
    go_simp
    with_reducible rfl
  rotate_left
  · simp only [Act.put, List.setIfInBounds_toArray, List.set_cons_zero, List.set_cons_succ, i64_w, i32_w]
    rfl
  refine take_ (i := 1) (N := (some 7)) (v := ?_) (a' := ?_) #[true, true, false, true, false, false, false, false] rfl rfl (by kernel_rfl) (fun _ _ _ h => h) (Or.inl ⟨by rfl, ?_⟩) hHeld ?_ ?_
  rotate_left
  · rintro w' hh
    obtain ⟨g0, g1, g2, _⟩ := blk3c hh
    go_simp
    with_reducible rfl
  rotate_left
  · simp only [Act.put, List.setIfInBounds_toArray, List.set_cons_zero, List.set_cons_succ, i64_w, i32_w]
    rfl
  refine take_ (i := 4) (N := (some 10)) (v := ?_) (a' := ?_) #[true, true, false, true, true, false, false, false] rfl rfl (by kernel_rfl) (fun _ _ _ h => h) (Or.inl ⟨by rfl, ?_⟩) hHeld ?_ ?_
  rotate_left
  · rintro w' hh
    obtain ⟨g0, g1, g2, _⟩ := blk3c hh
    go_simp
    with_reducible rfl
  rotate_left
  · simp only [Act.put, List.setIfInBounds_toArray, List.set_cons_zero, List.set_cons_succ, i64_w, i32_w]
    rfl
  refine one_ (i := 2) (N := (some 8)) #[true, true, true, true, true, false, false, false] rfl rfl (by kernel_rfl) (by decide) (fun K hK => ?_)
  refine goes_ Tryd.func52 (by kernel_rfl) rfl #[.int .i64 a.code] (by rfl) rfl rfl (by first | rfl | (go_simp; done) | (simp [Act.eval]; done) | (simp [Act.eval]; rfl)) ?_
  refine Calls.mono (refNum_any hcd.1 (by omega) wd) ?_
  rintro e w4 ⟨A4, n4, c4, rfl, hP⟩
  have HP4 := Lib.hid (HPd.out.fresh hP.belowW hP.head)
  clear hP
  refine ⟨_, rfl, ?_⟩
  refine hK.out _ _ (HP4.out.blk1) (fun hHeld => ?_)
  clear hK K
  refine norm_ (a' := ?_) ?_ ?_
  rotate_left
  · show Act.put _ (some 8) _ = _
    simp only [Act.put, List.setIfInBounds_toArray, List.set_cons_zero, List.set_cons_succ, i64_w, i32_w]
    rfl
  refine one_ (i := 5) (N := (some 11)) #[true, true, true, true, true, true, false, false] rfl rfl (by kernel_rfl) (by decide) (fun K hK => ?_)
  refine goes_ Tryd.func59 (by kernel_rfl) rfl #[.slice A n c] (by rfl) rfl rfl (by first | rfl | (go_simp; done) | (simp [Act.eval]; done) | (simp [Act.eval]; rfl)) ?_
  refine Calls.mono (refNums_any A n c a.ids w4 (Kd.C_below HC.out HP4.out.belowW) (by omega) HVS.out) ?_
  rintro e w5 ⟨A5, n5, c5, rfl, hP⟩
  have HP5 := Lib.hid (HP4.out.fresh hP.belowW hP.head)
  clear hP
  refine ⟨_, rfl, ?_⟩
  refine hK.out _ _ (HP5.out.blk2) (fun hHeld => ?_)
  clear hK K
  refine norm_ (a' := ?_) ?_ ?_
  rotate_left
  · show Act.put _ (some 11) _ = _
    simp only [Act.put, List.setIfInBounds_toArray, List.set_cons_zero, List.set_cons_succ, i64_w, i32_w]
    rfl
  refine one_ (i := 6) (N := (some 12)) #[true, true, true, true, true, true, true, false] rfl rfl (by kernel_rfl) (by decide) (fun K hK => ?_)
  obtain ⟨okr, hR1, hR2, hR3⟩ := HP5.out.swap.appended
  have hCx := Kd.R_reads' HP5.out.head
  refine Kd.R_append_rows_step (Kd.int .u8) (w0 := w5) 0 (by rfl) (.tmp 8) (.tmp 11) 30 5 (.int .u8 0) 1 rfl Tryd.underlying30 info_byte rfl (by decide) (by omega) (.slice A4 n4 c4) (encNum a.code) (encNum n ++ (a.ids.map encNum).flatten) A5 n5 c5 okr (fun _ => False) rfl rfl hR1 (by rw [hCx.1]; exact hCx.2.2) (fun _ _ h => h) (fun _ h => h.elim) hR2 (Below.refl _ _) (Nat.zero_le _) (by rw [hCx.1]; have := HL1.out; have := HLI.out; omega) ?_
  intro v9 w6 hR9 _ hg9 _
  obtain ⟨A6, c6, hv9⟩ := Kd.R_slice hR9
  obtain ⟨n6, hn9⟩ : ∃ k, k = ((encNum a.code) ++ (encNum n ++ (a.ids.map encNum).flatten)).length := ⟨_, rfl⟩
  rw [← hn9] at hv9
  subst hv9
  have HP6 := Lib.hid (hR3 (.slice A6 n6 c6) w6 _ hR9 ⟨hg9.os, hg9.tape, hg9.output, hg9.size, hg9.block⟩).drop1
  clear hR9 hg9 hR1 hR2 hR3 hCx okr hn9
  refine hK.out _ _ (HP6.out.blk1) (fun hHeld => ?_)
  clear hK K
  refine norm_ (a' := ?_) ?_ ?_
  rotate_left
  · show Act.put _ (some 12) _ = _
    simp only [Act.put, List.setIfInBounds_toArray, List.set_cons_zero, List.set_cons_succ, i64_w, i32_w]
    rfl
  refine pure_ (i := 7) (N := (some 3)) (v := ?_) (a' := ?_) #[true, true, true, true, true, true, true, true] rfl rfl (by kernel_rfl) (fun _ _ _ h => h) (Or.inl ⟨by rfl, ?_⟩) ?_ ?_
  rotate_left
  · intro w'
    go_simp
    with_reducible rfl
  rotate_left
  · simp only [Act.put, List.setIfInBounds_toArray, List.set_cons_zero, List.set_cons_succ, i64_w, i32_w]
    rfl
  refine done_ (by kernel_rfl) ?_
  obtain ⟨E0, hE0⟩ : ∃ x, x = encNum a.code ++ (encNum n ++ (a.ids.map encNum).flatten) := ⟨_, rfl⟩
  rw [← hE0] at HP6
  have HE0 := Lib.hid hE0
  have HEL0 := Lib.hid (show E0.length ≤ 118 by rw [hE0, List.length_append]; have := HL1.out; have := HLI.out; omega)
  obtain ⟨x0, x1, x2, _⟩ := blk3c (by exact HP6.out.blk1)
  clear hE0
  go_wp2_with fail
  refine Calls.mono (refNum_any (v := (m : Int)) (by omega) (by omega) w6) ?_
  rintro e w7 ⟨A7, n7, c7, rfl, hP⟩
  have HP7 := Lib.hid (HP6.out.fresh hP.belowW hP.head)
  have HEM := Lib.hid (encNum_len (v := (m : Int)) (by omega))
  clear hP x0 x1 x2
  obtain ⟨okr, hR1, hR2, hR3⟩ := HP7.out.swap.appended
  have HC_ := Lib.hid (Kd.R_reads' HP7.out.head)
  have HR1_ := Lib.hid hR1
  have HR2_ := Lib.hid hR2
  have HR3_ := Lib.hid hR3
  clear hR1 hR2 hR3
  go_wp2_with (at_builtin; refine Kd.R_append_rows (Kd.int .u8) (w0 := w7) 0 rfl (.tmp 13) (.tmp 17) 30 5 (.int .u8 0) 1 rfl Tryd.underlying30 info_byte rfl (by decide) (by omega) (.slice A6 n6 c6) E0 (encNum m) A7 n7 c7 okr (fun _ => False) rfl rfl HR1_.out (by rw [HC_.out.1]; exact HC_.out.2.2) (fun _ _ h => h) (fun _ hk => hk.elim) HR2_.out (Below.refl _ _) (Nat.zero_le _) (by rw [HC_.out.1]; have := HEL0.out; have := HEM.out; omega) ?_; intro v8 w8 hR5 hB5 hg5 _; have HP8 := Lib.hid (HR3_.out _ _ _ hR5 hg5).drop1; clear hR5 hB5 hg5)
  clear HC_ HR1_ HR2_ HR3_ okr
  obtain ⟨E1, hE1⟩ : ∃ x, x = E0 ++ encNum m := ⟨_, rfl⟩
  rw [← hE1] at HP8
  have HEL1 := Lib.hid (show E1.length ≤ 127 by rw [hE1, List.length_append]; have := HEL0.out; have := HEM.out; omega)
  have HEE : Hid (encAns a = E1 ++ (a.took.map encTook).flatten) := Lib.hid (by
    unfold encAns
    rw [hE1, HE0.out, HN.out, HM.out]
    simp only [List.append_assoc])
  clear hE1
  go_loopw [3, 4] (fun o i wr => ∃ j : Nat, i = .int .i64 j ∧ j ≤ m ∧ Hp w wr [ABy o (E1 ++ ((a.took.take j).map encTook).flatten), ABlk w.heap.size (.cells #[.int .i64 a.code, .slice A n c, .slice B m d] 61 (0, 0))]) (fun _ i _ => m - (intOf i).toNat)
  case atStart => exact ⟨0, rfl, Nat.zero_le _, by simpa using HP8.out⟩
  case round =>
    obtain ⟨j, rfl, hj, hQ⟩ := hrel
    have HQ := Lib.hid hQ
    obtain ⟨x0, x1, x2, _⟩ := blk3c (by exact hQ.blk1)
    obtain ⟨A2, c2, hv2⟩ := Kd.R_slice hQ.head
    obtain ⟨n2, hn2⟩ : ∃ k, k = (E1 ++ ((a.took.take j).map encTook).flatten).length := ⟨_, rfl⟩
    rw [← hn2] at hv2
    subst hv2
    clear hQ hn2
    by_cases hjm : j < m
    case neg =>
      have hj' : j = m := by omega
      subst hj'
      have i1 : ¬ (j : Int) < (j : Int) := by omega
      have htk : a.took.take j = a.took := List.take_of_length_le (by rw [HM.out]; exact Nat.le_refl _)
      rw [htk, ← HEE.out] at HQ
      clear htk
      go_wp2_with fail
      go_ret
      exact ⟨A2, n2, c2, rfl, HQ.out.only1⟩
    case pos =>
      have j0 : (0 : Int) ≤ (j : Int) := by omega
      have j1 : (j : Int) < (m : Int) := by omega
      obtain ⟨adr, ⟨x1', x2', x3, x4, x5⟩, rfl, hx, d0, d1, d2, d3, d4⟩ := C_nth_tk (Kd.C_below HD.out HQ.out.belowW) j hjm
      clear x0
      have hok := HTK.out _ (List.mem_of_getElem? hx)
      have HNX := Lib.hid (flat_next (f := encTook) hx)
      have HX0 : Hid ((((a.took.take j).map encTook).flatten).length ≤ 8130) := Lib.hid (by
        have h2 := flat_le (f := encTook) (b := 813) (xs := a.took) (fun x hx => encTook_len (HTK.out x hx)) j
        rw [HM.out] at h2
        omega)
      clear hx
      obtain ⟨L0, hL0⟩ : ∃ x, x = E1 ++ ((a.took.take j).map encTook).flatten := ⟨_, rfl⟩
      rw [← hL0] at HQ
      have HLL := Lib.hid hL0
      have HXL := Lib.hid (show L0.length ≤ 9000 by rw [hL0, List.length_append]; have := HX0.out; have := HEL1.out; omega)
      clear hL0
      have HX := Lib.hid (HQ.out.alloc (.cells #[.int .i64 x1', .int .i64 x2', .string x3, .string x4, .string x5] 113))
      obtain ⟨xb, hxb⟩ : ∃ xb, xb = wr.heap.size := ⟨_, rfl⟩
      go_upto_region 7 with (fail)
      rw [← hxb] at HX ⊢
      clear hxb d0 d1 d2 d3 d4 x1 x2
      generalize wr.alloc (.cells #[.int .i64 x1', .int .i64 x2', .string x3, .string x4, .string x5] 113) = W2 at *
      obtain ⟨x1, rfl⟩ : ∃ z, z = x1' := ⟨x1', rfl⟩
      obtain ⟨x2, rfl⟩ : ∃ z, z = x2' := ⟨x2', rfl⟩
      obtain ⟨k1, k2, k3, k4, k5⟩ := hok
      dsimp only at k1 k2 k3 k4 k5
      have HE1 := Lib.hid (encNum_len (v := x1) (by omega))
      have HE2 := Lib.hid (encNum_len (v := x2) (by omega))
      have HE3 := Lib.hid (encText_len k3)
      have HE4 := Lib.hid (encText_len k4)
      have HE5 := Lib.hid (encText_len k5)
      have HPd := Lib.hid (HX.out.below (Below.refl _ _).drew)
      refine start_ (n := 10) (S := fun w' => w'.heap[xb]? = some (.cells #[.int .i64 x1, .int .i64 x2, .string x3, .string x4, .string x5] 113 (0, 0))) (ds := []) #[false, false, false, false, false, false, false, false, false, false] (by kernel_rfl) rfl rfl (HPd.out.blk0) (fun hHeld => ?_)
      generalize W2.drew = wd at *
      refine pure_ (i := 0) (N := (some 31)) (v := ?_) (a' := ?_) #[true, false, false, false, false, false, false, false, false, false] rfl rfl (by kernel_rfl) (fun _ _ _ h => h) (Or.inl ⟨by rfl, ?_⟩) ?_ ?_
      rotate_left
      · intro w'
        go_simp
        with_reducible rfl
      rotate_left
      · simp only [Act.put, List.setIfInBounds_toArray, List.set_cons_zero, List.set_cons_succ, i64_w, i32_w]
        rfl
      refine pure_ (i := 1) (N := (some 32)) (v := ?_) (a' := ?_) #[true, true, false, false, false, false, false, false, false, false] rfl rfl (by kernel_rfl) (fun _ _ _ h => h) (Or.inl ⟨by rfl, ?_⟩) ?_ ?_
      rotate_left
      · intro w'
        go_simp
        with_reducible rfl
      rotate_left
      · simp only [Act.put, List.setIfInBounds_toArray, List.set_cons_zero, List.set_cons_succ, i64_w, i32_w]
        rfl
      refine pure_ (i := 5) (N := (some 36)) (v := ?_) (a' := ?_) #[true, true, false, false, false, true, false, false, false, false] rfl rfl (by kernel_rfl) (fun _ _ _ h => h) (Or.inl ⟨by rfl, ?_⟩) ?_ ?_
      rotate_left
      · intro w'
        go_simp
        with_reducible rfl
      rotate_left
      · simp only [Act.put, List.setIfInBounds_toArray, List.set_cons_zero, List.set_cons_succ, i64_w, i32_w]
        rfl
      refine take_ (i := 2) (N := (some 33)) (v := ?_) (a' := ?_) #[true, true, true, false, false, true, false, false, false, false] rfl rfl (by kernel_rfl) (fun _ _ _ h => h) (Or.inl ⟨by rfl, ?_⟩) hHeld ?_ ?_
      rotate_left
      · rintro w' hh
        obtain ⟨g0, g1, g2, g3, g4⟩ := blk5 hh
        go_simp
        with_reducible rfl
      rotate_left
      · simp only [Act.put, List.setIfInBounds_toArray, List.set_cons_zero, List.set_cons_succ, i64_w, i32_w]
        rfl
      refine take_ (i := 6) (N := (some 37)) (v := ?_) (a' := ?_) #[true, true, true, false, false, true, true, false, false, false] rfl rfl (by kernel_rfl) (fun _ _ _ h => h) (Or.inl ⟨by rfl, ?_⟩) hHeld ?_ ?_
      rotate_left
      · rintro w' hh
        obtain ⟨g0, g1, g2, g3, g4⟩ := blk5 hh
        go_simp
        with_reducible rfl
      rotate_left
      · simp only [Act.put, List.setIfInBounds_toArray, List.set_cons_zero, List.set_cons_succ, i64_w, i32_w]
        rfl
      have HB0 := Lib.hid HPd.out.swap
      refine one_ (i := 3) (N := (some 34)) #[true, true, true, true, false, true, true, false, false, false] rfl rfl (by kernel_rfl) (by decide) (fun K hK => ?_)
      refine goes_ Tryd.func52 (by kernel_rfl) rfl #[.int .i64 x1] (by rfl) rfl rfl (by first | rfl | (go_simp; done) | (simp [Act.eval]; done) | (simp [Act.eval]; rfl)) ?_
      refine Calls.mono (refNum_any k1.1 (by omega) wd) ?_
      rintro e y1 ⟨P1, q1, r1, rfl, hP⟩
      have HC1 := Lib.hid (HB0.out.fresh hP.belowW hP.head)
      clear hP
      refine ⟨_, rfl, ?_⟩
      refine hK.out _ _ (HC1.out.blk2) (fun hHeld => ?_)
      clear hK K
      refine norm_ (a' := ?_) ?_ ?_
      rotate_left
      · show Act.put _ (some 34) _ = _
        simp only [Act.put, List.setIfInBounds_toArray, List.set_cons_zero, List.set_cons_succ, i64_w, i32_w]
        rfl
      refine one_ (i := 4) (N := (some 35)) #[true, true, true, true, true, true, true, false, false, false] rfl rfl (by kernel_rfl) (by decide) (fun K hK => ?_)
      obtain ⟨okr, hR1, hR2, hR3⟩ := HC1.out.swap.appended
      have hCx := Kd.R_reads' HC1.out.head
      refine Kd.R_append_rows_step (Kd.int .u8) (w0 := y1) 0 (by rfl) (.tmp 31) (.tmp 34) 30 5 (.int .u8 0) 1 rfl Tryd.underlying30 info_byte rfl (by decide) (by omega) (.slice A2 n2 c2) L0 (encNum x1) P1 q1 r1 okr (fun _ => False) rfl rfl hR1 (by rw [hCx.1]; exact hCx.2.2) (fun _ _ h => h) (fun _ h => h.elim) hR2 (Below.refl _ _) (Nat.zero_le _) (by rw [hCx.1]; (try simp only [List.length_append]); have := HXL.out; have := HE1.out; have := HE2.out; have := HE3.out; have := HE4.out; have := HE5.out; omega) ?_
      intro v9 z1 hR9 _ hg9 _
      obtain ⟨A21, c21, hv9⟩ := Kd.R_slice hR9
      obtain ⟨n21, hn9⟩ : ∃ k, k = (L0 ++ (encNum x1)).length := ⟨_, rfl⟩
      rw [← hn9] at hv9
      subst hv9
      have HD1 := Lib.hid (hR3 (.slice A21 n21 c21) z1 _ hR9 ⟨hg9.os, hg9.tape, hg9.output, hg9.size, hg9.block⟩).drop1
      clear hR9 hg9 hR1 hR2 hR3 hCx okr hn9
      refine hK.out _ _ (HD1.out.blk1) (fun hHeld => ?_)
      clear hK K
      refine norm_ (a' := ?_) ?_ ?_
      rotate_left
      · show Act.put _ (some 35) _ = _
        simp only [Act.put, List.setIfInBounds_toArray, List.set_cons_zero, List.set_cons_succ, i64_w, i32_w]
        rfl
      refine one_ (i := 7) (N := (some 38)) #[true, true, true, true, true, true, true, true, false, false] rfl rfl (by kernel_rfl) (by decide) (fun K hK => ?_)
      refine goes_ Tryd.func52 (by kernel_rfl) rfl #[.int .i64 x2] (by rfl) rfl rfl (by first | rfl | (go_simp; done) | (simp [Act.eval]; done) | (simp [Act.eval]; rfl)) ?_
      refine Calls.mono (refNum_any k2.1 (by omega) z1) ?_
      rintro e y2 ⟨P2, q2, r2, rfl, hP⟩
      have HC2 := Lib.hid (HD1.out.fresh hP.belowW hP.head)
      clear hP
      refine ⟨_, rfl, ?_⟩
      refine hK.out _ _ (HC2.out.blk2) (fun hHeld => ?_)
      clear hK K
      refine norm_ (a' := ?_) ?_ ?_
      rotate_left
      · show Act.put _ (some 38) _ = _
        simp only [Act.put, List.setIfInBounds_toArray, List.set_cons_zero, List.set_cons_succ, i64_w, i32_w]
        rfl
      refine one_ (i := 8) (N := (some 39)) #[true, true, true, true, true, true, true, true, true, false] rfl rfl (by kernel_rfl) (by decide) (fun K hK => ?_)
      obtain ⟨okr, hR1, hR2, hR3⟩ := HC2.out.swap.appended
      have hCx := Kd.R_reads' HC2.out.head
      refine Kd.R_append_rows_step (Kd.int .u8) (w0 := y2) 0 (by rfl) (.tmp 35) (.tmp 38) 30 5 (.int .u8 0) 1 rfl Tryd.underlying30 info_byte rfl (by decide) (by omega) (.slice A21 n21 c21) (L0 ++ encNum x1) (encNum x2) P2 q2 r2 okr (fun _ => False) rfl rfl hR1 (by rw [hCx.1]; exact hCx.2.2) (fun _ _ h => h) (fun _ h => h.elim) hR2 (Below.refl _ _) (Nat.zero_le _) (by rw [hCx.1]; (try simp only [List.length_append]); have := HXL.out; have := HE1.out; have := HE2.out; have := HE3.out; have := HE4.out; have := HE5.out; omega) ?_
      intro v9 z2 hR9 _ hg9 _
      obtain ⟨A22, c22, hv9⟩ := Kd.R_slice hR9
      obtain ⟨n22, hn9⟩ : ∃ k, k = ((L0 ++ encNum x1) ++ (encNum x2)).length := ⟨_, rfl⟩
      rw [← hn9] at hv9
      subst hv9
      have HD2 := Lib.hid (hR3 (.slice A22 n22 c22) z2 _ hR9 ⟨hg9.os, hg9.tape, hg9.output, hg9.size, hg9.block⟩).drop1
      clear hR9 hg9 hR1 hR2 hR3 hCx okr hn9
      refine hK.out _ _ (HD2.out.blk1) (fun hHeld => ?_)
      clear hK K
      refine norm_ (a' := ?_) ?_ ?_
      rotate_left
      · show Act.put _ (some 39) _ = _
        simp only [Act.put, List.setIfInBounds_toArray, List.set_cons_zero, List.set_cons_succ, i64_w, i32_w]
        rfl
      refine pure_ (i := 9) (N := (some 3)) (v := ?_) (a' := ?_) #[true, true, true, true, true, true, true, true, true, true] rfl rfl (by kernel_rfl) (fun _ _ _ h => h) (Or.inl ⟨by rfl, ?_⟩) ?_ ?_
      rotate_left
      · intro w'
        go_simp
        with_reducible rfl
      rotate_left
      · simp only [Act.put, List.setIfInBounds_toArray, List.set_cons_zero, List.set_cons_succ, i64_w, i32_w]
        rfl
      refine done_ (by kernel_rfl) ?_
      go_upto_region 8 with (fail)
      have HPe := Lib.hid (HD2.out.below (Below.refl _ _).drew)
      refine start_ (n := 14) (S := fun w' => w'.heap[xb]? = some (.cells #[.int .i64 x1, .int .i64 x2, .string x3, .string x4, .string x5] 113 (0, 0))) (ds := []) #[false, false, false, false, false, false, false, false, false, false, false, false, false, false] (by kernel_rfl) rfl rfl (HPe.out.blk1) (fun hHeld => ?_)
      generalize z2.drew = we at *
      refine pure_ (i := 0) (N := (some 40)) (v := ?_) (a' := ?_) #[true, false, false, false, false, false, false, false, false, false, false, false, false, false] rfl rfl (by kernel_rfl) (fun _ _ _ h => h) (Or.inl ⟨by rfl, ?_⟩) ?_ ?_
      rotate_left
      · intro w'
        go_simp
        with_reducible rfl
      rotate_left
      · simp only [Act.put, List.setIfInBounds_toArray, List.set_cons_zero, List.set_cons_succ, i64_w, i32_w]
        rfl
      refine pure_ (i := 1) (N := (some 41)) (v := ?_) (a' := ?_) #[true, true, false, false, false, false, false, false, false, false, false, false, false, false] rfl rfl (by kernel_rfl) (fun _ _ _ h => h) (Or.inl ⟨by rfl, ?_⟩) ?_ ?_
      rotate_left
      · intro w'
        go_simp
        with_reducible rfl
      rotate_left
      · simp only [Act.put, List.setIfInBounds_toArray, List.set_cons_zero, List.set_cons_succ, i64_w, i32_w]
        rfl
      refine pure_ (i := 5) (N := (some 45)) (v := ?_) (a' := ?_) #[true, true, false, false, false, true, false, false, false, false, false, false, false, false] rfl rfl (by kernel_rfl) (fun _ _ _ h => h) (Or.inl ⟨by rfl, ?_⟩) ?_ ?_
      rotate_left
      · intro w'
        go_simp
        with_reducible rfl
      rotate_left
      · simp only [Act.put, List.setIfInBounds_toArray, List.set_cons_zero, List.set_cons_succ, i64_w, i32_w]
        rfl
      refine pure_ (i := 9) (N := (some 49)) (v := ?_) (a' := ?_) #[true, true, false, false, false, true, false, false, false, true, false, false, false, false] rfl rfl (by kernel_rfl) (fun _ _ _ h => h) (Or.inl ⟨by rfl, ?_⟩) ?_ ?_
      rotate_left
      · intro w'
        go_simp
        with_reducible rfl
      rotate_left
      · simp only [Act.put, List.setIfInBounds_toArray, List.set_cons_zero, List.set_cons_succ, i64_w, i32_w]
        rfl
      refine take_ (i := 2) (N := (some 42)) (v := ?_) (a' := ?_) #[true, true, true, false, false, true, false, false, false, true, false, false, false, false] rfl rfl (by kernel_rfl) (fun _ _ _ h => h) (Or.inl ⟨by rfl, ?_⟩) hHeld ?_ ?_
      rotate_left
      · rintro w' hh
        obtain ⟨g0, g1, g2, g3, g4⟩ := blk5 hh
        go_simp
        with_reducible rfl
      rotate_left
      · simp only [Act.put, List.setIfInBounds_toArray, List.set_cons_zero, List.set_cons_succ, i64_w, i32_w]
        rfl
      refine take_ (i := 6) (N := (some 46)) (v := ?_) (a' := ?_) #[true, true, true, false, false, true, true, false, false, true, false, false, false, false] rfl rfl (by kernel_rfl) (fun _ _ _ h => h) (Or.inl ⟨by rfl, ?_⟩) hHeld ?_ ?_
      rotate_left
      · rintro w' hh
        obtain ⟨g0, g1, g2, g3, g4⟩ := blk5 hh
        go_simp
        with_reducible rfl
      rotate_left
      · simp only [Act.put, List.setIfInBounds_toArray, List.set_cons_zero, List.set_cons_succ, i64_w, i32_w]
        rfl
      refine take_ (i := 10) (N := (some 50)) (v := ?_) (a' := ?_) #[true, true, true, false, false, true, true, false, false, true, true, false, false, false] rfl rfl (by kernel_rfl) (fun _ _ _ h => h) (Or.inl ⟨by rfl, ?_⟩) hHeld ?_ ?_
      rotate_left
      · rintro w' hh
        obtain ⟨g0, g1, g2, g3, g4⟩ := blk5 hh
        go_simp
        with_reducible rfl
      rotate_left
      · simp only [Act.put, List.setIfInBounds_toArray, List.set_cons_zero, List.set_cons_succ, i64_w, i32_w]
        rfl
      refine one_ (i := 3) (N := (some 43)) #[true, true, true, true, false, true, true, false, false, true, true, false, false, false] rfl rfl (by kernel_rfl) (by decide) (fun K hK => ?_)
      refine goes_ Tryd.func53 (by kernel_rfl) rfl #[.string x3] (by rfl) rfl rfl (by first | rfl | (go_simp; done) | (simp [Act.eval]; done) | (simp [Act.eval]; rfl)) ?_
      refine Calls.mono (refText_any x3 (by omega) we) ?_
      rintro e y3 ⟨P3, q3, r3, rfl, hP⟩
      have HC3 := Lib.hid (HPe.out.fresh hP.belowW hP.head)
      clear hP
      refine ⟨_, rfl, ?_⟩
      refine hK.out _ _ (HC3.out.blk2) (fun hHeld => ?_)
      clear hK K
      refine norm_ (a' := ?_) ?_ ?_
      rotate_left
      · show Act.put _ (some 43) _ = _
        simp only [Act.put, List.setIfInBounds_toArray, List.set_cons_zero, List.set_cons_succ, i64_w, i32_w]
        rfl
      refine one_ (i := 4) (N := (some 44)) #[true, true, true, true, true, true, true, false, false, true, true, false, false, false] rfl rfl (by kernel_rfl) (by decide) (fun K hK => ?_)
      obtain ⟨okr, hR1, hR2, hR3⟩ := HC3.out.swap.appended
      have hCx := Kd.R_reads' HC3.out.head
      refine Kd.R_append_rows_step (Kd.int .u8) (w0 := y3) 0 (by rfl) (.tmp 40) (.tmp 43) 30 5 (.int .u8 0) 1 rfl Tryd.underlying30 info_byte rfl (by decide) (by omega) (.slice A22 n22 c22) (L0 ++ encNum x1 ++ encNum x2) (encText x3) P3 q3 r3 okr (fun _ => False) rfl rfl hR1 (by rw [hCx.1]; exact hCx.2.2) (fun _ _ h => h) (fun _ h => h.elim) hR2 (Below.refl _ _) (Nat.zero_le _) (by rw [hCx.1]; (try simp only [List.length_append]); have := HXL.out; have := HE1.out; have := HE2.out; have := HE3.out; have := HE4.out; have := HE5.out; omega) ?_
      intro v9 z3 hR9 _ hg9 _
      obtain ⟨A23, c23, hv9⟩ := Kd.R_slice hR9
      obtain ⟨n23, hn9⟩ : ∃ k, k = ((L0 ++ encNum x1 ++ encNum x2) ++ (encText x3)).length := ⟨_, rfl⟩
      rw [← hn9] at hv9
      subst hv9
      have HD3 := Lib.hid (hR3 (.slice A23 n23 c23) z3 _ hR9 ⟨hg9.os, hg9.tape, hg9.output, hg9.size, hg9.block⟩).drop1
      clear hR9 hg9 hR1 hR2 hR3 hCx okr hn9
      refine hK.out _ _ (HD3.out.blk1) (fun hHeld => ?_)
      clear hK K
      refine norm_ (a' := ?_) ?_ ?_
      rotate_left
      · show Act.put _ (some 44) _ = _
        simp only [Act.put, List.setIfInBounds_toArray, List.set_cons_zero, List.set_cons_succ, i64_w, i32_w]
        rfl
      refine one_ (i := 7) (N := (some 47)) #[true, true, true, true, true, true, true, true, false, true, true, false, false, false] rfl rfl (by kernel_rfl) (by decide) (fun K hK => ?_)
      refine goes_ Tryd.func53 (by kernel_rfl) rfl #[.string x4] (by rfl) rfl rfl (by first | rfl | (go_simp; done) | (simp [Act.eval]; done) | (simp [Act.eval]; rfl)) ?_
      refine Calls.mono (refText_any x4 (by omega) z3) ?_
      rintro e y4 ⟨P4, q4, r4, rfl, hP⟩
      have HC4 := Lib.hid (HD3.out.fresh hP.belowW hP.head)
      clear hP
      refine ⟨_, rfl, ?_⟩
      refine hK.out _ _ (HC4.out.blk2) (fun hHeld => ?_)
      clear hK K
      refine norm_ (a' := ?_) ?_ ?_
      rotate_left
      · show Act.put _ (some 47) _ = _
        simp only [Act.put, List.setIfInBounds_toArray, List.set_cons_zero, List.set_cons_succ, i64_w, i32_w]
        rfl
      refine one_ (i := 8) (N := (some 48)) #[true, true, true, true, true, true, true, true, true, true, true, false, false, false] rfl rfl (by kernel_rfl) (by decide) (fun K hK => ?_)
      obtain ⟨okr, hR1, hR2, hR3⟩ := HC4.out.swap.appended
      have hCx := Kd.R_reads' HC4.out.head
      refine Kd.R_append_rows_step (Kd.int .u8) (w0 := y4) 0 (by rfl) (.tmp 44) (.tmp 47) 30 5 (.int .u8 0) 1 rfl Tryd.underlying30 info_byte rfl (by decide) (by omega) (.slice A23 n23 c23) (L0 ++ encNum x1 ++ encNum x2 ++ encText x3) (encText x4) P4 q4 r4 okr (fun _ => False) rfl rfl hR1 (by rw [hCx.1]; exact hCx.2.2) (fun _ _ h => h) (fun _ h => h.elim) hR2 (Below.refl _ _) (Nat.zero_le _) (by rw [hCx.1]; (try simp only [List.length_append]); have := HXL.out; have := HE1.out; have := HE2.out; have := HE3.out; have := HE4.out; have := HE5.out; omega) ?_
      intro v9 z4 hR9 _ hg9 _
      obtain ⟨A24, c24, hv9⟩ := Kd.R_slice hR9
      obtain ⟨n24, hn9⟩ : ∃ k, k = ((L0 ++ encNum x1 ++ encNum x2 ++ encText x3) ++ (encText x4)).length := ⟨_, rfl⟩
      rw [← hn9] at hv9
      subst hv9
      have HD4 := Lib.hid (hR3 (.slice A24 n24 c24) z4 _ hR9 ⟨hg9.os, hg9.tape, hg9.output, hg9.size, hg9.block⟩).drop1
      clear hR9 hg9 hR1 hR2 hR3 hCx okr hn9
      refine hK.out _ _ (HD4.out.blk1) (fun hHeld => ?_)
      clear hK K
      refine norm_ (a' := ?_) ?_ ?_
      rotate_left
      · show Act.put _ (some 48) _ = _
        simp only [Act.put, List.setIfInBounds_toArray, List.set_cons_zero, List.set_cons_succ, i64_w, i32_w]
        rfl
      refine one_ (i := 11) (N := (some 51)) #[true, true, true, true, true, true, true, true, true, true, true, true, false, false] rfl rfl (by kernel_rfl) (by decide) (fun K hK => ?_)
      refine goes_ Tryd.func53 (by kernel_rfl) rfl #[.string x5] (by rfl) rfl rfl (by first | rfl | (go_simp; done) | (simp [Act.eval]; done) | (simp [Act.eval]; rfl)) ?_
      refine Calls.mono (refText_any x5 (by omega) z4) ?_
      rintro e y5 ⟨P5, q5, r5, rfl, hP⟩
      have HC5 := Lib.hid (HD4.out.fresh hP.belowW hP.head)
      clear hP
      refine ⟨_, rfl, ?_⟩
      refine hK.out _ _ (HC5.out.blk2) (fun hHeld => ?_)
      clear hK K
      refine norm_ (a' := ?_) ?_ ?_
      rotate_left
      · show Act.put _ (some 51) _ = _
        simp only [Act.put, List.setIfInBounds_toArray, List.set_cons_zero, List.set_cons_succ, i64_w, i32_w]
        rfl
      refine one_ (i := 12) (N := (some 52)) #[true, true, true, true, true, true, true, true, true, true, true, true, true, false] rfl rfl (by kernel_rfl) (by decide) (fun K hK => ?_)
      obtain ⟨okr, hR1, hR2, hR3⟩ := HC5.out.swap.appended
      have hCx := Kd.R_reads' HC5.out.head
      refine Kd.R_append_rows_step (Kd.int .u8) (w0 := y5) 0 (by rfl) (.tmp 48) (.tmp 51) 30 5 (.int .u8 0) 1 rfl Tryd.underlying30 info_byte rfl (by decide) (by omega) (.slice A24 n24 c24) (L0 ++ encNum x1 ++ encNum x2 ++ encText x3 ++ encText x4) (encText x5) P5 q5 r5 okr (fun _ => False) rfl rfl hR1 (by rw [hCx.1]; exact hCx.2.2) (fun _ _ h => h) (fun _ h => h.elim) hR2 (Below.refl _ _) (Nat.zero_le _) (by rw [hCx.1]; (try simp only [List.length_append]); have := HXL.out; have := HE1.out; have := HE2.out; have := HE3.out; have := HE4.out; have := HE5.out; omega) ?_
      intro v9 z5 hR9 _ hg9 _
      obtain ⟨A25, c25, hv9⟩ := Kd.R_slice hR9
      obtain ⟨n25, hn9⟩ : ∃ k, k = ((L0 ++ encNum x1 ++ encNum x2 ++ encText x3 ++ encText x4) ++ (encText x5)).length := ⟨_, rfl⟩
      rw [← hn9] at hv9
      subst hv9
      have HD5 := Lib.hid (hR3 (.slice A25 n25 c25) z5 _ hR9 ⟨hg9.os, hg9.tape, hg9.output, hg9.size, hg9.block⟩).drop1
      clear hR9 hg9 hR1 hR2 hR3 hCx okr hn9
      refine hK.out _ _ (HD5.out.blk1) (fun hHeld => ?_)
      clear hK K
      refine norm_ (a' := ?_) ?_ ?_
      rotate_left
      · show Act.put _ (some 52) _ = _
        simp only [Act.put, List.setIfInBounds_toArray, List.set_cons_zero, List.set_cons_succ, i64_w, i32_w]
        rfl
      refine pure_ (i := 13) (N := (some 3)) (v := ?_) (a' := ?_) #[true, true, true, true, true, true, true, true, true, true, true, true, true, true] rfl rfl (by kernel_rfl) (fun _ _ _ h => h) (Or.inl ⟨by rfl, ?_⟩) ?_ ?_
      rotate_left
      · intro w'
        go_simp
        with_reducible rfl
      rotate_left
      · simp only [Act.put, List.setIfInBounds_toArray, List.set_cons_zero, List.set_cons_succ, i64_w, i32_w]
        rfl
      refine done_ (by kernel_rfl) ?_
      go_wp2_with fail
      refine ⟨⟨j + 1, by simp, by omega, ?_⟩, ?_⟩
      · rw [HNX.out, ← List.append_assoc, ← HLL.out]
        unfold encTook
        simp only [← List.append_assoc]
        exact HD5.out.drop1
      · simp [intOf]
        omega
end Go.Proofs.YtidjapjidihbpaaDoor
set_option linter.unusedVariables false
set_option linter.unusedSimpArgs false
namespace Go.Proofs.YtidjapjidihbpaaDoor
open Go.RowKit Go.Proofs.YtidjapjidihbpaaDoorW.PrintWords
theorem anRight_bad {a : An} (h : ¬ (okNum a.code = true ∧ a.ids.length ≤ 10 ∧ a.took.length ≤ 10)) : anRight a = false := by
  unfold anRight
  by_cases h1 : okNum a.code = true
  · by_cases h2 : a.ids.length ≤ 10
    · have h3 : ¬ a.took.length ≤ 10 := fun h3 => h ⟨h1, h2, h3⟩
      simp [h3]
    · simp [h2]
  · simp [h1]
theorem anRight_all {a : An} (h1 : okNum a.code = true) (h2 : a.ids.length ≤ 10) (h3 : a.took.length ≤ 10) : anRight a = (a.ids.all okNum && a.took.all tkRight) := by
  unfold anRight
  simp [h1, h2, h3]
theorem okNum_no {v : Int} (h : v < 0 ∨ 4611686018427387904 < v) : okNum v = false := by unfold okNum; exact decide_eq_false (by omega)
theorem okNum_yes {v : Int} (h : 0 ≤ v ∧ v ≤ 4611686018427387904) : okNum v = true := by unfold okNum; exact decide_eq_true h
theorem okText_no {s : ByteArray} (h : 256 < s.size) : okText s = false := by unfold okText; exact decide_eq_false (by omega)
theorem okText_yes {s : ByteArray} (h : s.size ≤ 256) : okText s = true := by unfold okText; exact decide_eq_true h
set_option maxHeartbeats 8000000 in
set_option maxRecDepth 100000 in
theorem refRightA_any (a : An) (A : Option Addr) (n c : Nat) (B : Option Addr) (m d : Nat) (w : World) (hC : (Kd.int .i64).C w A n a.ids) (hD : KTk.C w B m a.took) :
    Calls Tryd.prog 27 #[.agg #[.int .i64 a.code, .slice A n c, .slice B m d]] w fun e w' => e = .returned (.bool (anRight a)) ∧ Below w.heap.size w w' := by
  have HC := Lib.hid hC
  have HD := Lib.hid hD
  have HN := Lib.hid (Kd.C_len hC)
  have HM := Lib.hid (Kd.C_len hD)
  have hmx := Kd.C_max hC
  have hmy := Kd.C_max hD
  have HB := Lib.hid (anRight_bad (a := a))
  have HA := Lib.hid (anRight_all (a := a))
  obtain ⟨R, hR⟩ : ∃ R, R = anRight a := ⟨_, rfl⟩
  rw [← hR] at HB HA ⊢
  rw [HN.out, HM.out] at HB HA
  clear hC hD hR
  have HP0 := Lib.hid ((Hp.nil w).alloc (.cells #[.int .i64 a.code, .slice A n c, .slice B m d] 61))
  obtain ⟨x0, x1, x2, _⟩ := blk3c (by exact HP0.out.blk0)
  by_cases h1 : a.code < 0
  case pos =>
    have HE := Lib.hid (HB.out (by intro h; rw [okNum_no (.inl h1)] at h; exact absurd h.1 (by decide)))
    go_enter Tryd.func27, Tryd.ntmps27
    go_wp2_with fail
    have hd1 : decide (a.code < 0) = true := decide_eq_true (by omega)
    go_quiet ((go_at_call 35; refine Calls.quiet_of_same (refmost_any _)))
    go_wp2_with fail
    go_ret
    rw [HE.out]
    exact ⟨rfl, (HP0.out.below (pw_below_drewN (Below.refl _ _) _)).belowW⟩
  case neg =>
  by_cases h2 : 4611686018427387904 < a.code
  case pos =>
    have HE := Lib.hid (HB.out (by intro h; rw [okNum_no (.inr h2)] at h; exact absurd h.1 (by decide)))
    go_enter Tryd.func27, Tryd.ntmps27
    go_wp2_with fail
    have hd1 : decide (a.code < 0) = false := decide_eq_false (by omega)
    have hd2 : decide (4611686018427387904 < a.code) = true := decide_eq_true (by omega)
    go_quiet ((go_at_call 35; refine Calls.quiet_of_same (refmost_any _)))
    go_wp2_with fail
    go_ret
    rw [HE.out]
    exact ⟨rfl, (HP0.out.below (pw_below_drewN (Below.refl _ _) _)).belowW⟩
  case neg =>
  by_cases h3 : 10 < n
  case pos =>
    have HE := Lib.hid (HB.out (by intro h; have := h.2.1; omega))
    go_enter Tryd.func27, Tryd.ntmps27
    go_wp2_with fail
    have hd1 : decide (a.code < 0) = false := decide_eq_false (by omega)
    have hd2 : decide (4611686018427387904 < a.code) = false := decide_eq_false (by omega)
    have hd3 : decide ((10 : Int) < (n : Int)) = true := decide_eq_true (by omega)
    go_quiet ((go_at_call 35; refine Calls.quiet_of_same (refmost_any _)))
    go_wp2_with fail
    go_ret
    rw [HE.out]
    exact ⟨rfl, (HP0.out.below (pw_below_drewN (Below.refl _ _) _)).belowW⟩
  case neg =>
  by_cases h4 : 10 < m
  case pos =>
    have HE := Lib.hid (HB.out (by intro h; have := h.2.2; omega))
    go_enter Tryd.func27, Tryd.ntmps27
    go_wp2_with fail
    have hd1 : decide (a.code < 0) = false := decide_eq_false (by omega)
    have hd2 : decide (4611686018427387904 < a.code) = false := decide_eq_false (by omega)
    have hd3 : decide ((10 : Int) < (n : Int)) = false := decide_eq_false (by omega)
    have hd4 : decide ((10 : Int) < (m : Int)) = true := decide_eq_true (by omega)
    go_quiet ((go_at_call 35; refine Calls.quiet_of_same (refmost_any _)))
    go_wp2_with fail
    go_ret
    rw [HE.out]
    exact ⟨rfl, (HP0.out.below (pw_below_drewN (Below.refl _ _) _)).belowW⟩
  case neg =>
  have HE := Lib.hid (HA.out (okNum_yes (by omega)) (by omega) (by omega))
  go_enter Tryd.func27, Tryd.ntmps27
  go_wp2_with fail
  have hd1 : decide (a.code < 0) = false := decide_eq_false (by omega)
  have hd2 : decide (4611686018427387904 < a.code) = false := decide_eq_false (by omega)
  have hd3 : decide ((10 : Int) < (n : Int)) = false := decide_eq_false (by omega)
  have hd4 : decide ((10 : Int) < (m : Int)) = false := decide_eq_false (by omega)
  go_quiet ((go_at_call 35; refine Calls.quiet_of_same (refmost_any _)))
  clear x0 x1 x2 hd1 hd2 hd3 hd4
  have HPd := Lib.hid (HP0.out.below (pw_below_drewN (Below.refl _ _) nq))
  generalize (w.alloc (.cells #[.int .i64 a.code, .slice A n c, .slice B m d] 61)).drewN nq = W1 at *
  obtain ⟨x0, x1, x2, _⟩ := blk3c (by exact HPd.out.blk0)
  clear HA HB
  go_wp2_with fail
  go_loopw [3] (fun i wr => ∃ j : Nat, i = .int .i64 j ∧ j ≤ n ∧ Hid ((a.ids.take j).all okNum = true) ∧ Hp w wr [ABlk w.heap.size (.cells #[.int .i64 a.code, .slice A n c, .slice B m d] 61 (0, 0))]) (fun i _ => n - (intOf i).toNat)
  case atStart => exact ⟨0, rfl, Nat.zero_le _, Lib.hid rfl, HPd.out⟩
  case round =>
    obtain ⟨j, rfl, hj, hall, hQ⟩ := hrel
    have HQ := Lib.hid hQ
    clear x0 x1 x2
    obtain ⟨x0, x1, x2, _⟩ := blk3c (by exact hQ.blk0)
    clear hQ
    by_cases hjn : j < n
    case pos =>
      have i0 : (0 : Int) ≤ (j : Int) := by omega
      have i1 : (j : Int) < (n : Int) := by omega
      obtain ⟨ad, x, rfl, hx, d0⟩ := C_nth_scalar (Kd.C_below HC.out HQ.out.belowW) j hjn
      have HX := Lib.hid hx
      clear hx
      by_cases hx0 : x < 0
      case pos =>
        have HBD := Lib.hid (all_bad (p := okNum) HX.out (okNum_no (.inl hx0)))
        go_wp2_with fail
        have hd1 : decide (x < 0) = true := decide_eq_true (by omega)
        go_quiet ((go_at_call 35; refine Calls.quiet_of_same (refmost_any _)))
        go_wp2_with fail
        go_ret
        rw [HE.out, HBD.out]
        exact ⟨rfl, (HQ.out.below (pw_below_drewN (Below.refl _ _) _)).belowW⟩
      case neg =>
      by_cases hx1 : 4611686018427387904 < x
      case pos =>
        have HBD := Lib.hid (all_bad (p := okNum) HX.out (okNum_no (.inr hx1)))
        go_wp2_with fail
        have hd1 : decide (x < 0) = false := decide_eq_false (by omega)
        have hd2 : decide (4611686018427387904 < x) = true := decide_eq_true (by omega)
        go_quiet ((go_at_call 35; refine Calls.quiet_of_same (refmost_any _)))
        go_wp2_with fail
        go_ret
        rw [HE.out, HBD.out]
        exact ⟨rfl, (HQ.out.below (pw_below_drewN (Below.refl _ _) _)).belowW⟩
      case neg =>
        have HBD := Lib.hid (all_next (p := okNum) HX.out hall.out (okNum_yes (by omega)))
        go_wp2_with fail
        have hd1 : decide (x < 0) = false := decide_eq_false (by omega)
        have hd2 : decide (4611686018427387904 < x) = false := decide_eq_false (by omega)
        go_quiet ((go_at_call 35; refine Calls.quiet_of_same (refmost_any _)))
        go_wp2_with fail
        refine ⟨⟨j + 1, by simp, by omega, HBD, HQ.out.below (pw_below_drewN (Below.refl _ _) _)⟩, ?_⟩
        simp [intOf]
        omega
    case neg =>
    have i1 : ¬ (j : Int) < (n : Int) := by omega
    have hj' : j = n := by omega
    have hIall : a.ids.all okNum = true := by
      have := hall.out
      rwa [hj', List.take_of_length_le (by rw [HN.out]; exact Nat.le_refl _)] at this
    rw [hIall, Bool.true_and] at HE
    have HP2 := Lib.hid HQ.out
    clear hIall hall HQ hj'
    go_wp2_with fail
    go_loopw [4] (fun i w3 => ∃ k : Nat, i = .int .i64 k ∧ k ≤ m ∧ Hid ((a.took.take k).all tkRight = true) ∧ Hp w w3 [ABlk w.heap.size (.cells #[.int .i64 a.code, .slice A n c, .slice B m d] 61 (0, 0))]) (fun i _ => m - (intOf i).toNat)
    case atStart => exact ⟨0, rfl, Nat.zero_le _, Lib.hid rfl, HP2.out⟩
    case round =>
      obtain ⟨k, rfl, hk, hall, hQ⟩ := hrel
      have HQ := Lib.hid hQ
      clear x0 x1 x2
      obtain ⟨x0, x1, x2, _⟩ := blk3c (by exact hQ.blk0)
      clear hQ
      by_cases hkm : k < m
      case neg =>
        have k1 : ¬ (k : Int) < (m : Int) := by omega
        have hk' : k = m := by omega
        have hTall : a.took.all tkRight = true := by
          have := hall.out
          rwa [hk', List.take_of_length_le (by rw [HM.out]; exact Nat.le_refl _)] at this
        rw [hTall] at HE
        clear hTall hk'
        go_wp2_with fail
        go_ret
        rw [HE.out]
        exact ⟨rfl, HQ.out.belowW⟩
      case pos =>
      have k0 : (0 : Int) ≤ (k : Int) := by omega
      have k1 : (k : Int) < (m : Int) := by omega
      clear x0 x1
      obtain ⟨adr, ⟨x0, x1, x3, x4, x5⟩, rfl, hx, d0, d1, d2, d3, d4⟩ := C_nth_tk (Kd.C_below HD.out HQ.out.belowW) k hkm
      dsimp only at d0 d1 d2 d3 d4
      have HX := Lib.hid hx
      have HXA := Lib.hid (HQ.out.alloc (.cells #[.int .i64 x0, .int .i64 x1, .string x3, .string x4, .string x5] 113))
      clear hx
      go_upto_region 12 with (fail)
      clear d0 d1 d2 d3 d4 x2
      obtain ⟨g0, g1, g2, g3, g4⟩ := blk5 HXA.out.blk0
      by_cases hq : x0 < 0
      case pos =>
        have HBD := Lib.hid (all_bad (p := tkRight) HX.out (by unfold tkRight; rw [okNum_no (.inl hq)]; rfl))
        have hd1 : decide (x0 < 0) = true := decide_eq_true (by omega)
        go_quiet ((go_at_call 35; refine Calls.quiet_of_same (refmost_any _)))
        go_wp2_with fail
        go_ret
        rw [HE.out, HBD.out]
        exact ⟨rfl, (HXA.out.below (pw_below_drewN (Below.refl _ _) _)).belowW⟩
      case neg =>
      have qhd1 := hq
      clear hq
      by_cases hq : 4611686018427387904 < x0
      case pos =>
        have HBD := Lib.hid (all_bad (p := tkRight) HX.out (by unfold tkRight; rw [okNum_no (.inr hq)]; rfl))
        have hd1 : decide (x0 < 0) = false := decide_eq_false (by omega)
        have hd2 : decide (4611686018427387904 < x0) = true := decide_eq_true (by omega)
        go_quiet ((go_at_call 35; refine Calls.quiet_of_same (refmost_any _)))
        go_wp2_with fail
        go_ret
        rw [HE.out, HBD.out]
        exact ⟨rfl, (HXA.out.below (pw_below_drewN (Below.refl _ _) _)).belowW⟩
      case neg =>
      have qhd2 := hq
      clear hq
      by_cases hq : x1 < 0
      case pos =>
        have HBD := Lib.hid (all_bad (p := tkRight) HX.out (by unfold tkRight; rw [show okNum x1 = false from okNum_no (.inl hq)]; simp))
        have hd1 : decide (x0 < 0) = false := decide_eq_false (by omega)
        have hd2 : decide (4611686018427387904 < x0) = false := decide_eq_false (by omega)
        have hd3 : decide (x1 < 0) = true := decide_eq_true (by omega)
        go_quiet ((go_at_call 35; refine Calls.quiet_of_same (refmost_any _)))
        go_wp2_with fail
        go_ret
        rw [HE.out, HBD.out]
        exact ⟨rfl, (HXA.out.below (pw_below_drewN (Below.refl _ _) _)).belowW⟩
      case neg =>
      have qhd3 := hq
      clear hq
      by_cases hq : 4611686018427387904 < x1
      case pos =>
        have HBD := Lib.hid (all_bad (p := tkRight) HX.out (by unfold tkRight; rw [show okNum x1 = false from okNum_no (.inr hq)]; simp))
        have hd1 : decide (x0 < 0) = false := decide_eq_false (by omega)
        have hd2 : decide (4611686018427387904 < x0) = false := decide_eq_false (by omega)
        have hd3 : decide (x1 < 0) = false := decide_eq_false (by omega)
        have hd4 : decide (4611686018427387904 < x1) = true := decide_eq_true (by omega)
        go_quiet ((go_at_call 35; refine Calls.quiet_of_same (refmost_any _)))
        go_wp2_with fail
        go_ret
        rw [HE.out, HBD.out]
        exact ⟨rfl, (HXA.out.below (pw_below_drewN (Below.refl _ _) _)).belowW⟩
      case neg =>
      have qhd4 := hq
      clear hq
      by_cases hq : 256 < x3.size
      case pos =>
        have HBD := Lib.hid (all_bad (p := tkRight) HX.out (by unfold tkRight; rw [show okText x3 = false from okText_no hq]; simp))
        have hd1 : decide (x0 < 0) = false := decide_eq_false (by omega)
        have hd2 : decide (4611686018427387904 < x0) = false := decide_eq_false (by omega)
        have hd3 : decide (x1 < 0) = false := decide_eq_false (by omega)
        have hd4 : decide (4611686018427387904 < x1) = false := decide_eq_false (by omega)
        have hd5 : decide ((256 : Int) < (x3.size : Int)) = true := decide_eq_true (by omega)
        go_quiet ((go_at_call 35; refine Calls.quiet_of_same (refmost_any _)))
        go_wp2_with fail
        go_ret
        rw [HE.out, HBD.out]
        exact ⟨rfl, (HXA.out.below (pw_below_drewN (Below.refl _ _) _)).belowW⟩
      case neg =>
      have qhd5 := hq
      clear hq
      by_cases hq : 256 < x4.size
      case pos =>
        have HBD := Lib.hid (all_bad (p := tkRight) HX.out (by unfold tkRight; rw [show okText x4 = false from okText_no hq]; simp))
        have hd1 : decide (x0 < 0) = false := decide_eq_false (by omega)
        have hd2 : decide (4611686018427387904 < x0) = false := decide_eq_false (by omega)
        have hd3 : decide (x1 < 0) = false := decide_eq_false (by omega)
        have hd4 : decide (4611686018427387904 < x1) = false := decide_eq_false (by omega)
        have hd5 : decide ((256 : Int) < (x3.size : Int)) = false := decide_eq_false (by omega)
        have hd6 : decide ((256 : Int) < (x4.size : Int)) = true := decide_eq_true (by omega)
        go_quiet ((go_at_call 35; refine Calls.quiet_of_same (refmost_any _)))
        go_wp2_with fail
        go_ret
        rw [HE.out, HBD.out]
        exact ⟨rfl, (HXA.out.below (pw_below_drewN (Below.refl _ _) _)).belowW⟩
      case neg =>
      have qhd6 := hq
      clear hq
      by_cases hq : 256 < x5.size
      case pos =>
        have HBD := Lib.hid (all_bad (p := tkRight) HX.out (by unfold tkRight; rw [show okText x5 = false from okText_no hq]; simp))
        have hd1 : decide (x0 < 0) = false := decide_eq_false (by omega)
        have hd2 : decide (4611686018427387904 < x0) = false := decide_eq_false (by omega)
        have hd3 : decide (x1 < 0) = false := decide_eq_false (by omega)
        have hd4 : decide (4611686018427387904 < x1) = false := decide_eq_false (by omega)
        have hd5 : decide ((256 : Int) < (x3.size : Int)) = false := decide_eq_false (by omega)
        have hd6 : decide ((256 : Int) < (x4.size : Int)) = false := decide_eq_false (by omega)
        have hd7 : decide ((256 : Int) < (x5.size : Int)) = true := decide_eq_true (by omega)
        go_quiet ((go_at_call 35; refine Calls.quiet_of_same (refmost_any _)))
        go_wp2_with fail
        go_ret
        rw [HE.out, HBD.out]
        exact ⟨rfl, (HXA.out.below (pw_below_drewN (Below.refl _ _) _)).belowW⟩
      case neg =>
      have qhd7 := hq
      clear hq
      have HBD := Lib.hid (all_next (p := tkRight) HX.out hall.out (by unfold tkRight; rw [show okNum x0 = true from okNum_yes (by omega), show okNum x1 = true from okNum_yes (by omega), show okText x3 = true from okText_yes (by omega), show okText x4 = true from okText_yes (by omega), show okText x5 = true from okText_yes (by omega)]; rfl))
      have hd1 : decide (x0 < 0) = false := decide_eq_false (by omega)
      have hd2 : decide (4611686018427387904 < x0) = false := decide_eq_false (by omega)
      have hd3 : decide (x1 < 0) = false := decide_eq_false (by omega)
      have hd4 : decide (4611686018427387904 < x1) = false := decide_eq_false (by omega)
      have hd5 : decide ((256 : Int) < (x3.size : Int)) = false := decide_eq_false (by omega)
      have hd6 : decide ((256 : Int) < (x4.size : Int)) = false := decide_eq_false (by omega)
      have hd7 : decide ((256 : Int) < (x5.size : Int)) = false := decide_eq_false (by omega)
      go_quiet ((go_at_call 35; refine Calls.quiet_of_same (refmost_any _)))
      go_wp2_with fail
      refine ⟨⟨k + 1, by simp, by omega, HBD, (HXA.out.below (pw_below_drewN (Below.refl _ _) _)).tail⟩, ?_⟩
      simp [intOf]
      omega
end Go.Proofs.YtidjapjidihbpaaDoor
set_option linter.unusedVariables false
set_option linter.unusedSimpArgs false
namespace Go.Proofs.YtidjapjidihbpaaDoor
open Go.RowKit Go.Proofs.YtidjapjidihbpaaDoorW.PrintWords
theorem info_took8 : (Tryd.prog.info? 113).map (fun i => (i.zero, i.size, i.bytes)) = some (some (.agg #[.int .i64 0, .int .i64 0, .string ⟨#[]⟩, .string ⟨#[]⟩, .string ⟨#[]⟩]), 5, 64) := by kernel_rfl
theorem info_rans : (Tryd.prog.info? 61).map (·.size) = some 3 := by kernel_rfl
theorem hp_first3 {w0 w : World} {P Q R S : Asn} (h : Hp w0 w [P, Q, R, S]) : Hp w0 w [P, Q, R] := (h.perm ((List.perm_append_comm (l₁ := [P, Q, R]) (l₂ := [S])))).tail
abbrev ATk8 (v : Value) (l : List Tk) : Asn := ARow KTk 113 v l
set_option maxHeartbeats 8000000 in
set_option maxRecDepth 100000 in
theorem lawAns_any (a : An) (A : Option Addr) (n c : Nat) (B : Option Addr) (m d : Nat) (w : World) (hD : KTk.C w B m a.took) (hm : m ≤ 1000000) :
    Calls Tryd.prog 24 #[.agg #[.int .i64 a.code, .slice A n c, .slice B m d]] w fun e w' => ∃ B2 d2, e = .returned (.agg #[.int .i64 a.code, .slice A n c, .slice B2 m d2]) ∧ Hp w w' [ATk8 (.slice B2 m d2) a.took] := by
  have HD := Lib.hid hD
  have HM := Lib.hid (Kd.C_len hD)
  clear hD
  have hp0 := ((Hp.nil w).alloc (.cells #[.int .i64 a.code, .slice A n c, .slice B m d] 56)).alloc (.cells #[.int .i64 0, .slice none 0 0, .slice none 0 0] 61)
  have hz : (w.alloc (.cells #[.int .i64 a.code, .slice A n c, .slice B m d] 56)).heap.size = w.heap.size + 1 := by simp
  rw [hz] at hp0
  have HP0 := Lib.hid hp0
  clear hp0 hz
  go_enter Tryd.func24, Tryd.ntmps24
  go_upto_region 1 with (fail)
  change Code.wp _ _ _ _ ((w.alloc (.cells #[.int .i64 a.code, .slice A n c, .slice B m d] 56)).alloc (.cells #[.int .i64 0, .slice none 0 0, .slice none 0 0] 61))
  generalize (w.alloc (.cells #[.int .i64 a.code, .slice A n c, .slice B m d] 56)).alloc (.cells #[.int .i64 0, .slice none 0 0, .slice none 0 0] 61) = W1 at *
  obtain ⟨x0, x1, x2, _⟩ := blk3c (by exact HP0.out.blk1)
  have HP1 := Lib.hid (HP0.out.alloc (.cells #[.int .i64 a.code, .slice A n c, .slice none 0 0] 61))
  have HP2 := Lib.hid ((HP1.out.fresh (Q := ATk8 (.slice none 0 0) []) (Below.refl _ _) (Kd.R_nil _ _ _ _ _)).swap)
  obtain ⟨y0, y1, y2, _⟩ := blk3c (by exact HP1.out.blk2)
  have HS := Lib.hid (show Hp w _ [ABlk W1.heap.size (.cells #[.int .i64 a.code, .slice A n c, .slice none 0 0] 61 (0, 0)), ATk8 (.slice none 0 0) [], ABlk (w.heap.size + 1) (.cells #[.int .i64 0, .slice none 0 0, .slice none 0 0] 61 (0, 0))] from hp_first3 HP2.out)
  go_wp2_with fail
  clear x0 x1 x2 y0 y1 y2
  go_loopw [14] (fun i wr => ∃ (j : Nat) (v : Value), i = .int .i64 j ∧ j ≤ m ∧ Hp w wr [ABlk W1.heap.size (.cells #[.int .i64 a.code, .slice A n c, v] 61 (0, 0)), ATk8 v (a.took.take j), ABlk (w.heap.size + 1) (.cells #[.int .i64 0, .slice none 0 0, .slice none 0 0] 61 (0, 0))]) (fun i _ => m - (intOf i).toNat)
  case atStart => exact ⟨0, .slice none 0 0, rfl, Nat.zero_le _, HS.out⟩
  case round =>
    obtain ⟨j, v, rfl, hj, hQ⟩ := hrel
    have HQ := Lib.hid hQ
    obtain ⟨y0, y1, y2, yf⟩ := blk3c (by exact hQ.blk0)
    clear hQ
    by_cases hjm : j < m
    case pos =>
      have i0 : (0 : Int) ≤ (j : Int) := by omega
      have i1 : (j : Int) < (m : Int) := by omega
      obtain ⟨adr, ⟨x0, x1, x2, x3, x4⟩, rfl, hx, d0, d1, d2, d3, d4⟩ := C_nth_tk (Kd.C_below HD.out HQ.out.belowW) j hjm
      dsimp only at d0 d1 d2 d3 d4
      have HX := Lib.hid (show a.took.take (j + 1) = a.took.take j ++ [(x0, (x1, (x2, (x3, x4))))] by rw [List.take_add_one, hx]; rfl)
      have HXA := Lib.hid (HQ.out.alloc (.cells #[.int .i64 x0, .int .i64 x1, .string x2, .string x3, .string x4] 68))
      clear hx
      go_upto_region 5 with (fail)
      clear d0 d1 d2 d3 d4 y0 y1 y2 yf
      obtain ⟨wb, hwb⟩ : ∃ k, k = wr.heap.size := ⟨_, rfl⟩
      rw [← hwb] at HXA ⊢
      clear hwb
      generalize wr.alloc (.cells #[.int .i64 x0, .int .i64 x1, .string x2, .string x3, .string x4] 68) = W4 at *
      obtain ⟨g0, g1, g2, g3, g4⟩ := blk5 HXA.out.blk0
      have y2 : W4.cell? ⟨W1.heap.size, 2, none⟩ = some v := blk_cell HXA.out.blk1 2
      obtain ⟨okr, hR1, hR2, hR3⟩ := HXA.out.up2.appended
      have HR1 := Lib.hid hR1
      have HR2 := Lib.hid hR2
      have HR3 := Lib.hid hR3
      clear hR1 hR2 hR3
      go_wp2_with (at_builtin; refine Kd.R_append KTk (w0 := W4) 0 rfl (.tmp 19) (.tmp 31) 59 113 (.agg #[.int .i64 0, .int .i64 0, .string ⟨#[]⟩, .string ⟨#[]⟩, .string ⟨#[]⟩]) 64 rfl Tryd.underlying59 info_took8 rfl (by decide) (by omega) v (a.took.take j) (x0, (x1, (x2, (x3, x4)))) [.int .i64 x0, .int .i64 x1, .string x2, .string x3, .string x4] okr (fun _ => False) rfl rfl (KTk_of _ _ _ (x0, (x1, (x2, (x3, x4))))) (fun _ hk => hk.elim) HR2.out HR1.out (Below.refl _ _) (Nat.zero_le _) (by rw [List.length_take]; omega) ?_; intro v6 w6 hR6 hB6 hg6 _; obtain ⟨A6, d6, hv6⟩ := Kd.R_slice hR6; obtain ⟨n6, hn6⟩ : ∃ k, k = (a.took.take j ++ [(x0, (x1, (x2, (x3, x4))))]).length := ⟨_, rfl⟩; rw [← hn6] at hv6; subst hv6; have HP6 := Lib.hid (HR3.out _ _ _ hR6 hg6); have c2 := blk_cell HP6.out.blk2 2; have f2 := blk_frozen HP6.out.blk2 2; have HPB := Lib.hid (HP6.out.up2.setBlk 2 (.slice A6 n6 d6)); simp only [List.setIfInBounds_toArray, List.set_cons_zero, List.set_cons_succ] at HPB; clear hR6 hB6 hg6 hn6)
      refine ⟨⟨j + 1, .slice A6 n6 d6, by simp, by omega, ?_⟩, ?_⟩
      · rw [HX.out]
        exact HPB.out.drop2
      · simp [intOf]
        omega
    case neg =>
      have i1 : ¬ (j : Int) < (m : Int) := by omega
      have hj' : j = m := by omega
      obtain ⟨A6, d6, hv6⟩ := Kd.R_slice HQ.out.tail.head
      have hl : (a.took.take j).length = m := by rw [List.length_take, HM.out]; omega
      rw [hl] at hv6
      subst hv6
      rw [List.take_of_length_le (by rw [HM.out]; omega)] at HQ
      clear hl
      have HPZ := Lib.hid (HQ.out.up2.setRowBlk #[.int .i64 a.code, .slice A n c, .slice A6 m d6])
      go_wp2_with ((with_reducible refine gate_store (t := 61) (p := 2) (v := .tmp 35) rfl ?_); refine wpList_store_row rfl 61 (.tmp 2) (.tmp 35) rfl (w.heap.size + 1) #[.int .i64 a.code, .slice A n c, .slice A6 m d6] rfl rfl 61 #[.int .i64 0, .slice none 0 0, .slice none 0 0] HQ.out.up2.blk0 info_rans rfl (by simp [Value.oneCell']) ?_)
      refine bodyPost_ret (results_cell_row rfl _ _ (w.heap.size + 1) 61 #[.int .i64 a.code, .slice A n c, .slice A6 m d6] (0, 0) _ rfl HPZ.out.blk0 Tryd.underlying61 rfl info_rans) rfl ?_
      exact ⟨A6, d6, rfl, HPZ.out.up2.only1⟩
end Go.Proofs.YtidjapjidihbpaaDoor
set_option linter.unusedVariables false
set_option linter.unusedSimpArgs false
namespace Go.Proofs.YtidjapjidihbpaaDoor
open Go.RowKit Go.Proofs.YtidjapjidihbpaaDoorW.PrintWords
set_option maxHeartbeats 8000000 in
set_option maxRecDepth 100000 in
theorem alike_one (a : An) (A : Option Addr) (n c : Nat) (B : Option Addr) (m d : Nat) (A2 : Option Addr) (c2 : Nat) (B2 : Option Addr) (d2 : Nat) (w : World) (h1 : (Kd.int .i64).C w A n a.ids) (h2 : KTk.C w B m a.took) (h3 : (Kd.int .i64).C w A2 n a.ids) (h4 : KTk.C w B2 m a.took) :
    Calls Tryd.prog 23 #[.agg #[.int .i64 a.code, .slice A n c, .slice B m d], .agg #[.int .i64 a.code, .slice A2 n c2, .slice B2 m d2]] w fun e w' => e = .returned (.bool true) ∧ Below w.heap.size w w' := by
  have H1 := Lib.hid h1
  have H2 := Lib.hid h2
  have H3 := Lib.hid h3
  have H4 := Lib.hid h4
  have hmx := Kd.C_max h1
  have hmy := Kd.C_max h2
  clear h1 h2 h3 h4
  have hp0 := ((Hp.nil w).alloc (.cells #[.int .i64 a.code, .slice A n c, .slice B m d] 61)).alloc (.cells #[.int .i64 a.code, .slice A2 n c2, .slice B2 m d2] 61)
  have hz : (w.alloc (.cells #[.int .i64 a.code, .slice A n c, .slice B m d] 61)).heap.size = w.heap.size + 1 := by simp
  rw [hz] at hp0
  have HP0 := Lib.hid hp0
  clear hp0 hz
  obtain ⟨x0, x1, x2, _⟩ := blk3c (by exact HP0.out.blk1)
  obtain ⟨y0, y1, y2, _⟩ := blk3c (by exact HP0.out.blk0)
  go_enter Tryd.func23, Tryd.ntmps23
  go_wp2_with fail
  go_loopw [33] (fun i wr => ∃ j : Nat, i = .int .i64 j ∧ j ≤ n ∧ Hp w wr [ABlk (w.heap.size + 1) (.cells #[.int .i64 a.code, .slice A2 n c2, .slice B2 m d2] 61 (0, 0)), ABlk w.heap.size (.cells #[.int .i64 a.code, .slice A n c, .slice B m d] 61 (0, 0))]) (fun i _ => n - (intOf i).toNat)
  case atStart => exact ⟨0, rfl, Nat.zero_le _, HP0.out⟩
  case round =>
    obtain ⟨j, rfl, hj, hQ⟩ := hrel
    have HQ := Lib.hid hQ
    clear x0 x1 x2 y0 y1 y2
    obtain ⟨x0, x1, x2, _⟩ := blk3c (by exact hQ.blk1)
    obtain ⟨y0, y1, y2, _⟩ := blk3c (by exact hQ.blk0)
    clear hQ
    by_cases hjn : j < n
    case pos =>
      obtain ⟨ad, x, rfl, hx, d0⟩ := C_nth_scalar (Kd.C_below H1.out HQ.out.belowW) j hjn
      obtain ⟨ae, y, rfl, hy, e0⟩ := C_nth_scalar (Kd.C_below H3.out HQ.out.belowW) j hjn
      obtain rfl : x = y := Option.some.inj (hx.symm.trans hy)
      have i0 : (0 : Int) ≤ (j : Int) := by omega
      have i1 : (j : Int) < (n : Int) := by omega
      clear hx hy
      go_wp2_with fail
      go_quiet (fail)
      go_wp2_with fail
      refine ⟨⟨j + 1, by simp, by omega, HQ.out.below (pw_below_drewN (Below.refl _ _) _)⟩, ?_⟩
      simp [intOf]
      omega
    case neg =>
      have i1 : ¬ (j : Int) < (n : Int) := by omega
      have HP2 := Lib.hid HQ.out
      clear HQ
      go_wp2_with fail
      go_loopw [51] (fun i w3 => ∃ k : Nat, i = .int .i64 k ∧ k ≤ m ∧ Hp w w3 [ABlk (w.heap.size + 1) (.cells #[.int .i64 a.code, .slice A2 n c2, .slice B2 m d2] 61 (0, 0)), ABlk w.heap.size (.cells #[.int .i64 a.code, .slice A n c, .slice B m d] 61 (0, 0))]) (fun i _ => m - (intOf i).toNat)
      case atStart => exact ⟨0, rfl, Nat.zero_le _, HP2.out⟩
      case round =>
        obtain ⟨k, rfl, hk, hQ⟩ := hrel
        have HQ := Lib.hid hQ
        clear x0 x1 x2 y0 y1 y2
        obtain ⟨x0, x1, x2, _⟩ := blk3c (by exact hQ.blk1)
        obtain ⟨y0, y1, y2, _⟩ := blk3c (by exact hQ.blk0)
        clear hQ
        by_cases hkm : k < m
        case pos =>
          obtain ⟨ad, ⟨t0, t1, t2, t3, t4⟩, rfl, hx, d0, d1, d2', d3, d4⟩ := C_nth_tk (Kd.C_below H2.out HQ.out.belowW) k hkm
          obtain ⟨ae, y, rfl, hy, e0, e1, e2, e3, e4⟩ := C_nth_tk (Kd.C_below H4.out HQ.out.belowW) k hkm
          obtain rfl : (t0, t1, t2, t3, t4) = y := Option.some.inj (hx.symm.trans hy)
          dsimp only at d0 d1 d2' d3 d4 e0 e1 e2 e3 e4
          have k0 : (0 : Int) ≤ (k : Int) := by omega
          have k1 : (k : Int) < (m : Int) := by omega
          clear hx hy
          go_wp2_with fail
          go_quiet (fail)
          go_wp2_with fail
          refine ⟨⟨k + 1, by simp, by omega, HQ.out.below (pw_below_drewN (Below.refl _ _) _)⟩, ?_⟩
          simp [intOf]
          omega
        case neg =>
          have k1 : ¬ (k : Int) < (m : Int) := by omega
          go_wp2_with fail
          go_ret
          exact ⟨rfl, HQ.out.belowW⟩
end Go.Proofs.YtidjapjidihbpaaDoor
set_option linter.unusedVariables false
set_option linter.unusedSimpArgs false
namespace Go.Proofs.YtidjapjidihbpaaDoor
open Go.RowKit Go.Proofs.YtidjapjidihbpaaDoorW.PrintWords
set_option maxHeartbeats 3200000 in
set_option maxRecDepth 100000 in
theorem eqInts_one (xs : List Int) (A : Option Addr) (n c : Nat) (A2 : Option Addr) (c2 : Nat) (w : World) (h1 : (Kd.int .i64).C w A n xs) (h3 : (Kd.int .i64).C w A2 n xs) :
    Calls Tryd.prog 65 #[.slice A n c, .slice A2 n c2] w fun e w' => e = .returned (.bool true) ∧ Below w.heap.size w w' := by
  have H1 := Lib.hid h1
  have H3 := Lib.hid h3
  have hmx := Kd.C_max h1
  clear h1 h3
  go_enter Tryd.func65, Tryd.ntmps65
  go_wp2_with fail
  go_loopw [13] (fun i wr => ∃ j : Nat, i = .int .i64 j ∧ j ≤ n ∧ Hp w wr []) (fun i _ => n - (intOf i).toNat)
  case atStart => exact ⟨0, rfl, Nat.zero_le _, Hp.nil w⟩
  case round =>
    obtain ⟨j, rfl, hj, hQ⟩ := hrel
    have HQ := Lib.hid hQ
    clear hQ
    by_cases hjn : j < n
    case pos =>
      obtain ⟨ad, x, rfl, hx, d0⟩ := C_nth_scalar (Kd.C_below H1.out HQ.out.belowW) j hjn
      obtain ⟨ae, y, rfl, hy, e0⟩ := C_nth_scalar (Kd.C_below H3.out HQ.out.belowW) j hjn
      obtain rfl : x = y := Option.some.inj (hx.symm.trans hy)
      have i0 : (0 : Int) ≤ (j : Int) := by omega
      have i1 : (j : Int) < (n : Int) := by omega
      clear hx hy
      go_wp2_with fail
      go_quiet (fail)
      go_wp2_with fail
      refine ⟨⟨j + 1, by simp, by omega, HQ.out.below (pw_below_drewN (Below.refl _ _) _)⟩, ?_⟩
      simp [intOf]
      omega
    case neg =>
      have i1 : ¬ (j : Int) < (n : Int) := by omega
      go_wp2_with fail
      go_ret
      exact ⟨rfl, HQ.out.belowW⟩
set_option maxHeartbeats 3200000 in
set_option maxRecDepth 100000 in
theorem eqTook_one (xs : List Tk) (A : Option Addr) (n c : Nat) (A2 : Option Addr) (c2 : Nat) (w : World) (h1 : (KTk).C w A n xs) (h3 : (KTk).C w A2 n xs) :
    Calls Tryd.prog 66 #[.slice A n c, .slice A2 n c2] w fun e w' => e = .returned (.bool true) ∧ Below w.heap.size w w' := by
  have H1 := Lib.hid h1
  have H3 := Lib.hid h3
  have hmx := Kd.C_max h1
  clear h1 h3
  go_enter Tryd.func66, Tryd.ntmps66
  go_wp2_with fail
  go_loopw [13] (fun i wr => ∃ j : Nat, i = .int .i64 j ∧ j ≤ n ∧ Hp w wr []) (fun i _ => n - (intOf i).toNat)
  case atStart => exact ⟨0, rfl, Nat.zero_le _, Hp.nil w⟩
  case round =>
    obtain ⟨j, rfl, hj, hQ⟩ := hrel
    have HQ := Lib.hid hQ
    clear hQ
    by_cases hjn : j < n
    case pos =>
      obtain ⟨ad, ⟨t0, t1, t2, t3, t4⟩, rfl, hx, d0, d1, d2, d3, d4⟩ := C_nth_tk (Kd.C_below H1.out HQ.out.belowW) j hjn
      obtain ⟨ae, y, rfl, hy, e0, e1, e2, e3, e4⟩ := C_nth_tk (Kd.C_below H3.out HQ.out.belowW) j hjn
      obtain rfl : (t0, t1, t2, t3, t4) = y := Option.some.inj (hx.symm.trans hy)
      dsimp only at d0 d1 d2 d3 d4 e0 e1 e2 e3 e4
      have i0 : (0 : Int) ≤ (j : Int) := by omega
      have i1 : (j : Int) < (n : Int) := by omega
      clear hx hy
      go_wp2_with fail
      go_quiet (fail)
      go_wp2_with fail
      refine ⟨⟨j + 1, by simp, by omega, HQ.out.below (pw_below_drewN (Below.refl _ _) _)⟩, ?_⟩
      simp [intOf]
      omega
    case neg =>
      have i1 : ¬ (j : Int) < (n : Int) := by omega
      go_wp2_with fail
      go_ret
      exact ⟨rfl, HQ.out.belowW⟩
set_option maxHeartbeats 3200000 in
set_option maxRecDepth 100000 in
theorem same_one (a : An) (A : Option Addr) (n c : Nat) (B : Option Addr) (m d : Nat) (A2 : Option Addr) (c2 : Nat) (B2 : Option Addr) (d2 : Nat) (w : World) (h1 : (Kd.int .i64).C w A n a.ids) (h2 : KTk.C w B m a.took) (h3 : (Kd.int .i64).C w A2 n a.ids) (h4 : KTk.C w B2 m a.took) :
    Calls Tryd.prog 29 #[.agg #[.int .i64 a.code, .slice A n c, .slice B m d], .agg #[.int .i64 a.code, .slice A2 n c2, .slice B2 m d2]] w fun e w' => e = .returned (.bool true) ∧ Below w.heap.size w w' := by
  have H1 := Lib.hid h1
  have H2 := Lib.hid h2
  have H3 := Lib.hid h3
  have H4 := Lib.hid h4
  clear h1 h2 h3 h4
  have hp0 := ((Hp.nil w).alloc (.cells #[.int .i64 a.code, .slice A n c, .slice B m d] 56)).alloc (.cells #[.int .i64 a.code, .slice A2 n c2, .slice B2 m d2] 56)
  have hz : (w.alloc (.cells #[.int .i64 a.code, .slice A n c, .slice B m d] 56)).heap.size = w.heap.size + 1 := by simp
  rw [hz] at hp0
  have HP0 := Lib.hid hp0
  clear hp0 hz
  obtain ⟨x0, x1, x2, _⟩ := blk3c (by exact HP0.out.blk1)
  obtain ⟨y0, y1, y2, _⟩ := blk3c (by exact HP0.out.blk0)
  have HE1 := Lib.hid (eqInts_one a.ids A n c A2 c2 _ (Kd.C_below H1.out HP0.out.belowW) (Kd.C_below H3.out HP0.out.belowW))
  go_enter Tryd.func29, Tryd.ntmps29
  go_wp2_with (first | (go_at_call 65; refine Calls.mono HE1.out ?_; rintro e w2 ⟨rfl, hB2⟩; have HP2 := Lib.hid (HP0.out.below hB2); clear x0 x1 x2 y0 y1 y2; obtain ⟨x0, x1, x2, _⟩ := blk3c (by exact HP2.out.blk1); obtain ⟨y0, y1, y2, _⟩ := blk3c (by exact HP2.out.blk0); have HE2 := Lib.hid (eqTook_one a.took B m d B2 d2 _ (Kd.C_below H2.out HP2.out.belowW) (Kd.C_below H4.out HP2.out.belowW)); clear hB2) | (go_at_call 66; refine Calls.mono HE2.out ?_; rintro e w3 ⟨rfl, hB3⟩; have HP3 := Lib.hid (HP2.out.below hB3); clear hB3))
  go_ret
  exact ⟨rfl, HP3.out.belowW⟩
end Go.Proofs.YtidjapjidihbpaaDoor
