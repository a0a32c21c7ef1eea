/- Put together: cmd.ReadAnswer by its contract. -/
import Derived.Test.YtidjapjidihbpaaDoorK5
set_option linter.unusedVariables false
set_option linter.unusedSimpArgs false
set_option linter.unusedVariables false
set_option linter.unusedSimpArgs false
namespace Go.Proofs.YtidjapjidihbpaaDoor
open Go.RowKit Go.Proofs.YtidjapjidihbpaaDoorW.PrintWords Go.Proofs.YtidjapjidihbpaaDoorW.PrintLast
theorem readAns_bad {bs : List Int} (h : rsDone bs (ra4 bs).1 ≠ 0) : readAns bs = (.zero, rsDone bs (ra4 bs).1) := by unfold readAns; rw [if_neg h]
theorem readAns_no {bs : List Int} (h : rsDone bs (ra4 bs).1 = 0) (h2 : ¬ (anRight (raAns bs) = true ∧ encAns (raAns bs) = bs)) : readAns bs = (.zero, 2) := by unfold readAns; rw [if_pos h, if_neg h2]
theorem readAns_yes {bs : List Int} (h : rsDone bs (ra4 bs).1 = 0) (h1 : anRight (raAns bs) = true) (h2 : encAns (raAns bs) = bs) : readAns bs = (raAns bs, 0) := by unfold readAns; rw [if_pos h, if_pos ⟨h1, h2⟩]
theorem encAns_ok (a : An) : ByOk (encAns a) := by
  have h1 : ∀ {α : Type} {f : α → List Int}, (∀ x, ByOk (f x)) → ∀ l : List α, ByOk ((l.map f).flatten) := by
    intro α f hf l x hx
    obtain ⟨y, hy, hx⟩ := List.mem_flatten.1 hx
    obtain ⟨z, _, rfl⟩ := List.mem_map.1 hy
    exact hf z x hx
  have h2 : ∀ {a b : List Int}, ByOk a → ByOk b → ByOk (a ++ b) := fun ha hb x hx => by
    rcases List.mem_append.1 hx with h | h
    · exact ha x h
    · exact hb x h
  have h3 : ∀ s, ByOk (encText s) := fun s => h2 (encNat_ok _) (bytesOf_ok s)
  have h4 : ∀ x, ByOk (encTook x) := fun x => h2 (h2 (h2 (h2 (encNat_ok _) (encNat_ok _)) (h3 _)) (h3 _)) (h3 _)
  unfold encAns
  exact h2 (h2 (h2 (h2 (encNat_ok _) (encNat_ok _)) (h1 (fun x => encNat_ok _) _)) (encNat_ok _)) (h1 h4 _)
theorem info_ans : (Tryd.prog.info? 56).map (·.size) = some 3 := by kernel_rfl
theorem zero_ans : (#[.int .i64 0, .slice none 0 0, .slice none 0 0] : Array Value).all (·.oneCell') = true := by simp [Value.oneCell']
section
variable {w0 w : World}
theorem Hp.up4 {P Q R S U : Asn} {Ps : List Asn} (h : Hp w0 w (P :: Q :: R :: S :: U :: Ps)) : Hp w0 w (U :: P :: Q :: R :: S :: Ps) := h.perm (List.perm_middle (l₁ := [P, Q, R, S]))
theorem Hp.up5 {P Q R S U V : Asn} {Ps : List Asn} (h : Hp w0 w (P :: Q :: R :: S :: U :: V :: Ps)) : Hp w0 w (V :: P :: Q :: R :: S :: U :: Ps) := h.perm (List.perm_middle (l₁ := [P, Q, R, S, U]))
theorem Hp.down3 {P Q R S : Asn} {Ps : List Asn} (h : Hp w0 w (P :: Q :: R :: S :: Ps)) : Hp w0 w (Q :: R :: S :: P :: Ps) := h.perm (List.perm_middle (l₁ := [Q, R, S])).symm
theorem blk5f {g t : Nat} {x0 x1 x2 x3 x4 : Value} (h : w.heap[g]? = some (.cells #[x0, x1, x2, x3, x4] t (0, 0))) : ∀ i, w.frozen? ⟨g, i, none⟩ = false := fun i => blk_frozen h i
end
set_option maxHeartbeats 3200000 in
set_option maxRecDepth 100000 in
theorem readAns_any (A : Option Addr) (n cap : Nat) (bs : List Int) (w : World) (hA : Rd w A n cap bs) (hn : n ≤ 1000000) (hb : ByOk bs) :
    Calls Tryd.prog 21 #[.slice A n cap] w fun e w' => ∃ B m d D k f ev, e = .returned (.tuple #[.agg (anCells (readAns bs).1 (.slice B m d) (.slice D k f)), ev]) ∧ (Kd.int .i64).C w' B m (readAns bs).1.ids ∧ m ≤ d ∧ KTk.C w' D k (readAns bs).1.took ∧ k ≤ f ∧ FaultV w' ev (readAns bs).2 ∧ Below w.heap.size w w' := by
  have HA := Lib.hid hA
  have HB := Lib.hid hb
  obtain ⟨R, hR⟩ : ∃ R, R = readAns bs := ⟨_, rfl⟩
  have HBAD := Lib.hid (readAns_bad (bs := bs))
  have HNO := Lib.hid (readAns_no (bs := bs))
  have HYES := Lib.hid (readAns_yes (bs := bs))
  rw [← hR] at HBAD HNO HYES ⊢
  clear hA hb hR
  have HP0 := Lib.hid ((Hp.nil w).alloc (.cells #[.int .i64 0, .slice none 0 0, .slice none 0 0] 56))
  go_enter Tryd.func21, Tryd.ntmps21
  go_upto_region 1 with (fail)
  generalize w.alloc (.cells #[.int .i64 0, .slice none 0 0, .slice none 0 0] 56) = W0 at *
  go_wp2_with fail
  refine Calls.mono (HP0.out.rdOf (HA.out.below HP0.out.belowW).1 HA.out.2 hn HB.out) ?_
  rintro e w2 ⟨rb, rfl, hP⟩
  have HP2 := Lib.hid hP
  obtain ⟨⟨s1, code⟩, hr1⟩ : ∃ r, r = rsNum bs ⟨0, 0⟩ := ⟨_, rfl⟩
  have HM1 := Lib.hid hr1
  obtain ⟨⟨s2, ids⟩, hr2⟩ : ∃ r, r = rsNums bs 10 s1 := ⟨_, rfl⟩
  have HM2 := Lib.hid hr2
  clear hP hr1 hr2
  go_wp2_with fail
  refine Calls.mono HP2.out.rdNum ?_
  rw [← HM1.out]
  rintro e w3 ⟨rfl, hP⟩
  have HP3 := Lib.hid hP
  clear hP
  go_wp2_with fail
  refine Calls.mono (HP3.out.rdNums 10 (by decide)) ?_
  rw [← HM2.out]
  rintro e w4 ⟨A4, d4, rfl, hP⟩
  obtain ⟨n4, hn4⟩ : ∃ n4, n4 = ids.length := ⟨_, rfl⟩
  dsimp only at hP
  rw [← hn4] at hP
  dsimp only
  rw [← hn4]
  have HN4 := Lib.hid hn4
  have HP4 := Lib.hid (hP.alloc (.cells #[.int .i64 code, .slice A4 n4 d4, .slice none 0 0] 56))
  obtain ⟨ab, hab⟩ : ∃ ab, ab = w4.heap.size := ⟨_, rfl⟩
  clear hP hn4
  go_upto_region 3 with (fail)
  rw [← hab] at HP4 ⊢
  clear hab
  generalize w4.alloc (.cells #[.int .i64 code, .slice A4 n4 d4, .slice none 0 0] 56) = W4 at *
  obtain ⟨⟨s3, mm⟩, hr3⟩ : ∃ r, r = rsNum bs s2 := ⟨_, rfl⟩
  have HM3 := Lib.hid hr3
  clear hr3
  go_wp2_with fail
  refine Calls.mono HP4.out.up2.rdNum ?_
  rw [← HM3.out]
  rintro e w5 ⟨rfl, hP⟩
  have HP5 := Lib.hid hP
  clear hP
  have e3 : ra1 bs = (s1, code) ∧ ra2 bs = (s2, ids) ∧ ra3 bs = (s3, mm) := by
    have e1 : ra1 bs = (s1, code) := HM1.out.symm
    have e2 : ra2 bs = (s2, ids) := by unfold ra2; rw [e1]; exact HM2.out.symm
    have e3 : ra3 bs = (s3, mm) := by unfold ra3; rw [e2]; exact HM3.out.symm
    exact ⟨e1, e2, e3⟩
  have hmm0 : 0 ≤ mm := by
    have h := (ra_fit HB.out).2
    rw [e3.2.2] at h
    exact h
  have HE3 := Lib.hid e3
  obtain ⟨rm, hrm⟩ : ∃ rm : Nat, rm = (min mm 10).toNat := ⟨_, rfl⟩
  have hmn : ∀ ts t W, (Builtin.min_ ts t #[.int .i64 mm, .int .i64 10]).run Tryd.prog W = .ok (.int .i64 rm) W := by
    intro ts t W
    simp [Builtin.min_, Builtin.min2]
    rw [hrm]
    split <;> omega
  have hrm10 : rm ≤ 10 := by omega
  have HRM := Lib.hid hrm
  have HV := Lib.hid (HP5.out.nilRow KTk 68)
  clear hrm e3
  go_wp2_with fail
  clear hmn
  go_loopw [20] (fun i wr => ∃ (j : Nat) (s5 : Rs) (l5 : List Tk) (v5 : Value), i = .int .i64 j ∧ j ≤ rm ∧ Hid ((s5, l5) = rsMany (rsTook bs) j s3) ∧ Hp w wr (ARd rb bs s5 :: ABlk ab (.cells #[.int .i64 code, .slice A4 n4 d4, v5] 56 (0, 0)) :: ATk v5 l5 :: AInt (.slice A4 n4 d4) ids :: ABlk w.heap.size (.cells #[.int .i64 0, .slice none 0 0, .slice none 0 0] 56 (0, 0)) :: [])) (fun i _ => rm - (intOf i).toNat)
  case atStart => exact ⟨0, s3, [], .slice none 0 0, rfl, Nat.zero_le _, Lib.hid rfl, HV.out.down2⟩
  case round =>
    obtain ⟨j, s5, l5, v5, rfl, hj, hM5, hQ⟩ := hrel
    have HQ := Lib.hid hQ
    have hl5 : l5.length = j := by
      have h := rsMany_len (rsTook bs) j s3
      rw [← hM5.out] at h
      exact h
    have HL5 := Lib.hid hl5
    clear hQ hl5
    by_cases hjr : j < rm
    case pos =>
      have i1 : (j : Int) < (rm : Int) := by omega
      have HSUC := Lib.hid (rsMany_succ (rsTook bs) j s3)
      rw [← hM5.out] at HSUC
      obtain ⟨⟨q1, y1⟩, h1⟩ : ∃ r, r = rsNum bs s5 := ⟨_, rfl⟩
      obtain ⟨⟨q2, y2⟩, h2⟩ : ∃ r, r = rsNum bs q1 := ⟨_, rfl⟩
      obtain ⟨⟨q3, y3⟩, h3⟩ : ∃ r, r = rsText bs 256 q2 := ⟨_, rfl⟩
      obtain ⟨⟨q4, y4⟩, h4⟩ : ∃ r, r = rsText bs 256 q3 := ⟨_, rfl⟩
      obtain ⟨⟨q5, y5⟩, h5⟩ : ∃ r, r = rsText bs 256 q4 := ⟨_, rfl⟩
      have htk : rsTook bs s5 = (q5, (y1, (y2, (y3, (y4, y5))))) := by
        have g1 : rt1 bs s5 = (q1, y1) := h1.symm
        have g2 : rt2 bs s5 = (q2, y2) := by unfold rt2; rw [g1]; exact h2.symm
        have g3 : rt3 bs s5 = (q3, y3) := by unfold rt3; rw [g2]; exact h3.symm
        have g4 : rt4 bs s5 = (q4, y4) := by unfold rt4; rw [g3]; exact h4.symm
        have g5 : rt5 bs s5 = (q5, y5) := by unfold rt5; rw [g4]; exact h5.symm
        unfold rsTook
        rw [g1, g2, g3, g4, g5]
      have HTK := Lib.hid htk
      have H1 := Lib.hid h1
      have H2 := Lib.hid h2
      have H3 := Lib.hid h3
      have H4 := Lib.hid h4
      have H5 := Lib.hid h5
      clear h1 h2 h3 h4 h5 htk
      go_wp2_with fail
      refine Calls.mono HQ.out.rdNum ?_
      rw [← H1.out]
      rintro e w6 ⟨rfl, hP⟩
      have HP6 := Lib.hid hP
      clear hP
      go_wp2_with fail
      refine Calls.mono HP6.out.rdNum ?_
      rw [← H2.out]
      rintro e w7 ⟨rfl, hP⟩
      have HX := Lib.hid (hP.alloc (.cells #[.int .i64 y1, .int .i64 y2, .string ⟨#[]⟩, .string ⟨#[]⟩, .string ⟨#[]⟩] 68))
      obtain ⟨xb, hxb⟩ : ∃ xb, xb = w7.heap.size := ⟨_, rfl⟩
      clear hP
      go_upto_region 6 with (fail)
      rw [← hxb] at HX ⊢
      clear hxb
      generalize w7.alloc (.cells #[.int .i64 y1, .int .i64 y2, .string ⟨#[]⟩, .string ⟨#[]⟩, .string ⟨#[]⟩] 68) = W7 at *
      go_wp2_with fail
      refine Calls.mono (HX.out.swap.rdText 256) ?_
      rw [← H3.out]
      rintro e w8 ⟨rfl, hP⟩
      have HP8 := Lib.hid (hP.swap.setBlk 2 (.string y3))
      have hx8 := (blk5 hP.blk1).2.2.1
      have hf8 := blk5f hP.blk1 2
      simp only [List.setIfInBounds_toArray, List.set_cons_zero, List.set_cons_succ] at HP8
      clear hP
      go_wp2_with fail
      clear hx8 hf8
      generalize w8.setCell ⟨xb, 2, none⟩ (.string y3) = W8 at *
      refine Calls.mono (HP8.out.swap.rdText 256) ?_
      rw [← H4.out]
      rintro e w9 ⟨rfl, hP⟩
      have HP9 := Lib.hid (hP.swap.setBlk 3 (.string y4))
      have hx9 := (blk5 hP.blk1).2.2.2.1
      have hf9 := blk5f hP.blk1 3
      simp only [List.setIfInBounds_toArray, List.set_cons_zero, List.set_cons_succ] at HP9
      clear hP
      go_wp2_with fail
      clear hx9 hf9
      generalize w9.setCell ⟨xb, 3, none⟩ (.string y4) = W9 at *
      refine Calls.mono (HP9.out.swap.rdText 256) ?_
      rw [← H5.out]
      rintro e wA ⟨rfl, hP⟩
      have HPA := Lib.hid (hP.swap.setBlk 4 (.string y5))
      have hxA := (blk5 hP.blk1).2.2.2.2
      have hfA := blk5f hP.blk1 4
      simp only [List.setIfInBounds_toArray, List.set_cons_zero, List.set_cons_succ] at HPA
      clear hP
      go_upto_region 9 with (fail)
      clear hxA hfA
      generalize wA.setCell ⟨xb, 4, none⟩ (.string y5) = WA at *
      obtain ⟨g0, g1, g2, g3, g4⟩ := blk5 HPA.out.blk0
      obtain ⟨z0, z1, z2, zf⟩ := blk3c (by exact HPA.out.blk2)
      obtain ⟨okr, hR1, hR2, hR3⟩ := HPA.out.up3.appended
      have HR1 := Lib.hid hR1
      have HR2 := Lib.hid hR2
      have HR3 := Lib.hid hR3
      clear hR1 hR2 hR3
      go_wp2_with (at_builtin; refine Kd.R_append KTk (w0 := WA) 0 rfl (.tmp 37) (.tmp 39) 54 68 (.agg #[.int .i64 0, .int .i64 0, .string ⟨#[]⟩, .string ⟨#[]⟩, .string ⟨#[]⟩]) 64 rfl Tryd.underlying54 info_took rfl (by decide) (by omega) v5 l5 (y1, (y2, (y3, (y4, y5)))) [.int .i64 y1, .int .i64 y2, .string y3, .string y4, .string y5] okr (fun _ => False) rfl rfl (KTk_of _ _ _ (y1, (y2, (y3, (y4, y5))))) (fun _ hk => hk.elim) HR2.out HR1.out (Below.refl _ _) (Nat.zero_le _) (by rw [HL5.out]; omega) ?_; intro v6 wB hRB hBB hgB _; obtain ⟨A6, d6, hv6⟩ := Kd.R_slice hRB; generalize (l5 ++ [(y1, (y2, (y3, (y4, y5))))]).length = n6 at hv6; subst hv6; have HPB := Lib.hid ((HR3.out _ _ _ hRB hgB).up3.setBlk 2 (.slice A6 n6 d6)); obtain ⟨p0, p1, p2, pf⟩ := blk3c (by exact (HR3.out _ _ _ hRB hgB).up3.blk0); clear hRB hBB hgB)
      simp only [List.setIfInBounds_toArray, List.set_cons_zero, List.set_cons_succ] at HPB
      refine ⟨⟨j + 1, q5, l5 ++ [(y1, (y2, (y3, (y4, y5))))], .slice A6 n6 d6, by simp, by omega, Lib.hid ?_, HPB.out.up2.tail.up2⟩, ?_⟩
      · rw [HSUC.out, HTK.out]
      · simp [intOf]
        omega
    case neg =>
    have hj' : j = rm := by omega
    subst hj'
    have he : ra4 bs = (s5, l5) ∧ raAns bs = ⟨code, ids, l5⟩ := by
      obtain ⟨e1, e2, e3⟩ := HE3.out
      have e4 : ra4 bs = (s5, l5) := by unfold ra4; rw [e3]; dsimp only; rw [← HRM.out]; exact hM5.out.symm
      exact ⟨e4, by unfold raAns; rw [e1, e2, e4]⟩
    rw [he.1, he.2] at HNO HYES
    rw [he.1] at HBAD
    dsimp only at HBAD HNO HYES
    obtain ⟨A6, d6, rfl⟩ := Kd.R_slice HQ.out.up2.head
    rw [HL5.out] at HQ
    obtain ⟨no, hno⟩ : ∃ no, no = rsDone bs s5 := ⟨_, rfl⟩
    have HD := Lib.hid HQ.out.rdDone
    rw [← hno] at HBAD HNO HYES HD
    clear hno he
    go_wp2_with fail
    refine Calls.mono HD.out ?_
    rintro e w9 ⟨ev, rfl, hFV, hP⟩
    have HP9 := Lib.hid hP
    have HFV := Lib.hid hFV
    clear hP
    rcases hFV with ⟨h0, rfl⟩ | ⟨h0, fb2, at2, rfl, hfb2⟩
    case inr =>
      have HE := Lib.hid (HBAD.out h0)
      have HFB2 := Lib.hid hfb2
      have H0 := Lib.hid h0
      clear hfb2 h0
      go_wp2_with ((with_reducible refine gate_store (t := 56) (p := 2) (v := .tmp 47) rfl ?_); refine wpList_store_row rfl 56 (.tmp 2) (.tmp 47) rfl w.heap.size #[.int .i64 0, .slice none 0 0, .slice none 0 0] rfl rfl 56 #[.int .i64 0, .slice none 0 0, .slice none 0 0] HP9.out.up4.blk0 info_ans rfl zero_ans ?_)
      have HPZ := Lib.hid (HP9.out.up4.setRowBlk #[.int .i64 0, .slice none 0 0, .slice none 0 0])
      refine bodyPost_ret (results_cell_slot rfl _ _ w.heap.size 56 #[.int .i64 0, .slice none 0 0, .slice none 0 0] (0, 0) _ rfl HPZ.out.blk0 Tryd.underlying56 rfl info_ans _ rfl) rfl ?_
      have hne : fb2 ≠ w.heap.size := by
        intro e
        have h1 := HFB2.out
        rw [e, HP9.out.up4.blk0] at h1
        have h2 := congrArg (fun o => match o with | some (Obj.cells cs _ _) => cs.size | _ => 0) h1
        exact absurd (show (3 : Nat) = 2 from h2) (by decide)
      rw [HE.out]
      exact ⟨none, 0, 0, none, 0, 0, _, rfl, Kd.C_nil _ _, Nat.le_refl _, Kd.C_nil _ _, Nat.le_refl _, .inr ⟨H0.out, fb2, at2, rfl, (setRow_other _ _ _ _ (by first | exact hne | exact Ne.symm hne)).trans HFB2.out⟩, HPZ.out.belowW⟩
    case inl =>
    have H0 := Lib.hid h0
    have hrdI := Kd.R_reads' HP9.out.up3.head
    have hrdT := Kd.R_reads' HP9.out.up2.head
    have HCI := Lib.hid (show (Kd.int .i64).C w9 A4 n4 ids by rw [hrdI.1]; exact hrdI.2.2)
    have HCT := Lib.hid (show KTk.C w9 A6 j l5 by rw [hrdT.1]; exact hrdT.2.2)
    have HW := Lib.hid (writeA_any ⟨code, ids, l5⟩ A4 n4 d4 A6 j d6 w9 HCI.out HCT.out)
    obtain ⟨rt, hrt⟩ : ∃ rt, rt = anRight ⟨code, ids, l5⟩ := ⟨_, rfl⟩
    rw [← hrt] at HW HNO HYES
    have HRT := Lib.hid hrt
    unfold anCells at HW
    obtain ⟨g0, g1, g2, g3⟩ := blk3c (by exact HP9.out.blk1)
    obtain ⟨z0, z1, z2, z3⟩ := blk3c (by exact HP9.out.up4.blk0)
    clear h0 hrdI hrdT hrt
    go_wp2_with fail
    refine Calls.mono HW.out ?_
    cases rt
    case false =>
      rintro e w10 ⟨_, hw2, hB10⟩
      obtain ⟨fb4, rfl, _, _⟩ := hw2 rfl
      have HPW := Lib.hid (HP9.out.below hB10)
      have HE := Lib.hid (HNO.out H0.out (fun h => absurd h.1 (by decide)))
      clear hw2 hB10
      go_wp2_with fail
      clear g0 g1 g2 g3 z0 z1 z2 z3
      have HPW0 := Lib.hid HPW.out.rdAt
      refine Calls.mono HPW0.out ?_
      rintro e w12 ⟨rfl, hP⟩
      have HP12 := Lib.hid hP
      clear hP
      go_wp2_with fail
      refine Calls.mono (refused_any 2 _ w12) ?_
      rintro e w13 ⟨fb3, rfl, hf1, hf2, hB13⟩
      have HP13 := Lib.hid (HP12.out.below hB13)
      have HF2 := Lib.hid hf2
      have hfne : fb3 ≠ w.heap.size := by
        have h3 := (Array.getElem?_eq_some_iff.1 HP12.out.up4.blk0).1
        omega
      have HFNE := Lib.hid hfne
      clear hf1 hf2 hB13 hfne
      go_wp2_with ((with_reducible refine gate_store (t := 56) (p := 2) (v := .tmp 62) rfl ?_); refine wpList_store_row rfl 56 (.tmp 2) (.tmp 62) rfl w.heap.size #[.int .i64 0, .slice none 0 0, .slice none 0 0] rfl rfl 56 #[.int .i64 0, .slice none 0 0, .slice none 0 0] HP13.out.up4.blk0 info_ans rfl zero_ans ?_)
      have HPZ := Lib.hid (HP13.out.up4.setRowBlk #[.int .i64 0, .slice none 0 0, .slice none 0 0])
      refine bodyPost_ret (results_cell_slot rfl _ _ w.heap.size 56 #[.int .i64 0, .slice none 0 0, .slice none 0 0] (0, 0) _ rfl HPZ.out.blk0 Tryd.underlying56 rfl info_ans _ rfl) rfl ?_
      rw [HE.out]
      exact ⟨none, 0, 0, none, 0, 0, _, rfl, Kd.C_nil _ _, Nat.le_refl _, Kd.C_nil _ _, Nat.le_refl _, .inr ⟨by decide, fb3, _, rfl, (setRow_other _ _ _ _ (by first | exact HFNE.out | exact Ne.symm HFNE.out)).trans HF2.out⟩, HPZ.out.belowW⟩
    case true =>
    rintro e w10 ⟨hw1, _, hB10⟩
    obtain ⟨A', n', c', rfl, hRd⟩ := hw1 rfl
    have HRD := Lib.hid hRd
    have HPX := Lib.hid (HP9.out.below hB10)
    obtain ⟨q, hq⟩ : ∃ q, q = decide (encAns ⟨code, ids, l5⟩ = bs) := ⟨_, rfl⟩
    have HQB := Lib.hid hq
    have HEQ := Lib.hid (eqBytes_any (encAns_ok ⟨code, ids, l5⟩) HB.out HRD.out (HA.out.below HPX.out.belowW))
    rw [← hq] at HEQ
    clear hw1 hRd hB10 hq g0 g1 g2 g3 z0 z1 z2 z3
    obtain ⟨g0, g1, g2, g3⟩ := blk3c (by exact HPX.out.blk1)
    obtain ⟨z0, z1, z2, z3⟩ := blk3c (by exact HPX.out.up4.blk0)
    cases q
    case false =>
      have HE := Lib.hid (HNO.out H0.out (fun h => absurd h.2 (of_decide_eq_false HQB.out.symm)))
      have HPW := Lib.hid HPX.out
      go_wp2_with (go_at_call 16; refine Calls.mono HEQ.out ?_; rintro e w11 ⟨rfl, rfl⟩)
      clear g0 g1 g2 g3 z0 z1 z2 z3
      have HPW0 := Lib.hid HPW.out.rdAt
      refine Calls.mono HPW0.out ?_
      rintro e w12 ⟨rfl, hP⟩
      have HP12 := Lib.hid hP
      clear hP
      go_wp2_with fail
      refine Calls.mono (refused_any 2 _ w12) ?_
      rintro e w13 ⟨fb3, rfl, hf1, hf2, hB13⟩
      have HP13 := Lib.hid (HP12.out.below hB13)
      have HF2 := Lib.hid hf2
      have hfne : fb3 ≠ w.heap.size := by
        have h3 := (Array.getElem?_eq_some_iff.1 HP12.out.up4.blk0).1
        omega
      have HFNE := Lib.hid hfne
      clear hf1 hf2 hB13 hfne
      go_wp2_with ((with_reducible refine gate_store (t := 56) (p := 2) (v := .tmp 62) rfl ?_); refine wpList_store_row rfl 56 (.tmp 2) (.tmp 62) rfl w.heap.size #[.int .i64 0, .slice none 0 0, .slice none 0 0] rfl rfl 56 #[.int .i64 0, .slice none 0 0, .slice none 0 0] HP13.out.up4.blk0 info_ans rfl zero_ans ?_)
      have HPZ := Lib.hid (HP13.out.up4.setRowBlk #[.int .i64 0, .slice none 0 0, .slice none 0 0])
      refine bodyPost_ret (results_cell_slot rfl _ _ w.heap.size 56 #[.int .i64 0, .slice none 0 0, .slice none 0 0] (0, 0) _ rfl HPZ.out.blk0 Tryd.underlying56 rfl info_ans _ rfl) rfl ?_
      rw [HE.out]
      exact ⟨none, 0, 0, none, 0, 0, _, rfl, Kd.C_nil _ _, Nat.le_refl _, Kd.C_nil _ _, Nat.le_refl _, .inr ⟨by decide, fb3, _, rfl, (setRow_other _ _ _ _ (by first | exact HFNE.out | exact Ne.symm HFNE.out)).trans HF2.out⟩, HPZ.out.belowW⟩
    case true =>
      have HE := Lib.hid (HYES.out H0.out rfl (of_decide_eq_true HQB.out.symm))
      have HPZ0 := Lib.hid (HPX.out.up4.setRowBlk #[.int .i64 code, .slice A4 n4 d4, .slice A6 j d6])
      have HB3 := Lib.hid HPX.out.up4.blk0
      go_wp2_with (first | (go_at_call 16; refine Calls.mono HEQ.out ?_; rintro e w11 ⟨rfl, rfl⟩) | ((with_reducible refine gate_store (t := 56) (p := 2) (v := .tmp 66) rfl ?_); refine wpList_store_row rfl 56 (.tmp 2) (.tmp 66) rfl w.heap.size #[.int .i64 code, .slice A4 n4 d4, .slice A6 j d6] rfl rfl 56 #[.int .i64 0, .slice none 0 0, .slice none 0 0] HB3.out info_ans rfl (by simp [Value.oneCell']) ?_))
      refine bodyPost_ret (results_cell_slot rfl _ _ w.heap.size 56 #[.int .i64 code, .slice A4 n4 d4, .slice A6 j d6] (0, 0) _ rfl HPZ0.out.blk0 Tryd.underlying56 rfl info_ans _ rfl) rfl ?_
      have hrdI := Kd.R_reads' HPZ0.out.up4.head
      have hrdT := Kd.R_reads' HPZ0.out.up3.head
      rw [HE.out]
      exact ⟨A4, n4, d4, A6, j, d6, .nilIface, rfl, by have h := hrdI.2.2; rw [← hrdI.1] at h; exact h, hrdI.2.1, by have h := hrdT.2.2; rw [← hrdT.1] at h; exact h, hrdT.2.1, .inl ⟨rfl, rfl⟩, HPZ0.out.belowW⟩
end Go.Proofs.YtidjapjidihbpaaDoor
