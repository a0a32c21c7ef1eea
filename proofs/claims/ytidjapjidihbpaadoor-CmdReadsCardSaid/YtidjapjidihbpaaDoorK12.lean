/- Put together: The document's Write. · law10.SameCmd of two forms of one command. · What the laws share: a fault stays, a command's bytes are few, bytes in a block. -/
import Derived.Test.YtidjapjidihbpaaDoorK10
import Derived.Test.YtidjapjidihbpaaDoorK11
set_option linter.unusedVariables false
set_option linter.unusedSimpArgs false
set_option linter.unusedVariables false
set_option linter.unusedSimpArgs false
namespace Go.Proofs.YtidjapjidihbpaaDoor
open Go.RowKit Go.Proofs.YtidjapjidihbpaaDoorW.PrintWords
theorem encHead_of (c : Cm) : encHead c = ((refNumsOf c c.n).map encNum).flatten := by
  unfold encHead refNumsOf
  simp
theorem encCmd_of' (c : Cm) : encCmd c = ((refNumsOf c c.n).map encNum).flatten ++ (c.texts.map encText).flatten ++ encNum c.bodies.length ++ (c.bodies.map encText).flatten := by
  unfold encCmd encMid
  rw [encHead_of]
theorem refNums_in {c : Cm} (h : cmRight c = true) : ∀ v ∈ refNumsOf c c.n, 0 ≤ v ∧ v ≤ 4611686018427387904 := by
  obtain ⟨_, h2, _⟩ := right_parts h
  intro v hv
  rcases List.mem_append.1 hv with hv | hv
  · exact h2 v hv
  · rw [List.mem_singleton.1 hv]
    unfold encFifo
    split <;> decide
set_option maxHeartbeats 3200000 in
set_option maxRecDepth 100000 in
theorem refWrite_any (c : Cm) (A : Option Addr) (nb cb : Nat) (w : World) (hr : cmRight c = true) (hD : Kd.string.C w A nb c.bodies) :
    Calls Tryd.prog 17 #[.agg (c.cells (.slice A nb cb) c.n)] w fun e w' => ∃ A' n' c', e = .returned (.slice A' n' c') ∧ Hp w w' [ABy (.slice A' n' c') (encCmd c)] := by
  have HD := Lib.hid hD
  have HNB := Lib.hid (Kd.C_len hD)
  obtain ⟨p1, _, p3, p4, p5⟩ := right_parts hr
  have HTX := Lib.hid (fun W => reftexts_any c A nb cb c.n W)
  have HNU := Lib.hid (fun W => refnumbers_any c A nb cb c.n p1 W)
  have HT3 := Lib.hid p3
  have HB5 := Lib.hid p5
  have hnb : nb ≤ 10 := by rw [← HNB.out]; exact p4
  have HNI := Lib.hid (refNums_in hr)
  have HENC := Lib.hid (encCmd_of' c)
  clear p1 p3 p4 p5 hD hr
  have HP0 := Lib.hid ((Hp.nil w).alloc (.cells (c.cells (.slice A nb cb) c.n) 37))
  obtain ⟨E, hE⟩ : ∃ E, E = encCmd c := ⟨_, rfl⟩
  rw [← hE] at HENC ⊢
  unfold Cm.cells at HP0 HTX HNU ⊢
  obtain ⟨N, hN⟩ : ∃ N, N = refNumsOf c c.n := ⟨_, rfl⟩
  have hNl : N.length = 11 := by rw [hN]; rfl
  rw [← hN] at HNU HNI HENC
  obtain ⟨X, hX⟩ : ∃ X, X = c.texts := ⟨_, rfl⟩
  have hXl : X.length = 6 := by rw [hX]; rfl
  rw [← hX] at HTX HT3 HENC
  obtain ⟨Y, hY⟩ : ∃ Y, Y = c.bodies := ⟨_, rfl⟩
  rw [← hY] at HD HNB HB5 HENC
  rw [HNB.out] at HENC
  have HNL := Lib.hid hNl
  have HXL := Lib.hid hXl
  clear hE hN hNl hX hXl hY
  have HFN := fun j => Lib.hid (flat_le (f := encNum) (b := 9) (xs := N) (fun x hx => encNum_len (by have := (HNI.out x hx).2; omega)) j)
  have HFX := fun j => Lib.hid (flat_le (f := encText) (b := 265) (xs := X) (fun x hx => encText_len (HT3.out x hx)) j)
  have HFY := fun j => Lib.hid (flat_le (f := encText) (b := 265) (xs := Y) (fun x hx => encText_len (HB5.out x hx)) j)
  have HEL := Lib.hid (encNum_len (v := (nb : Int)) (by omega))
  go_enter Tryd.func17, Tryd.ntmps17
  go_wp2_with ((with_reducible refine gate_dst (N := 9) rfl ?_); refine wpList_load_row rfl 37 (.tmp 1) rfl w.heap.size rfl 37 #[.int .i64 c.client, .int .i64 c.req, .int .i64 c.kind, .string c.queue, .int .i64 c.a.vis, .int .i64 c.a.ret, .int .i64 c.a.del, .int .i64 c.a.win, .int .i64 c.a.max, .string c.a.dead, .bool c.a.fifo, .string c.body, .string c.group, .string c.key, .string c.receipt, .slice A nb cb, .int .i64 c.n, .int .i64 c.m] (0, 0) _ HP0.out.blk0 Tryd.underlying37 rfl rcmd_info ?_)
  refine Calls.mono (HNU.out _) ?_
  rintro e w2 ⟨g, rfl, hP⟩
  obtain ⟨ad, had⟩ : ∃ ad : Addr, ad = ⟨g, 0, none⟩ := ⟨_, rfl⟩
  rw [← had]
  have HAD := Lib.hid had
  have HP2 := Lib.hid ((HP0.out.fresh hP.belowW hP.head).nilRow (Kd.int .u8) 5)
  clear hP had HNU
  go_wp2_with fail
  go_loopw [3, 5] (fun o i wr => ∃ j : Nat, i = .int .i64 j ∧ j ≤ 11 ∧ Hp w wr [ABy o ((N.take j).map encNum).flatten, ABlk g (.cells (N.map (Value.int .i64)).toArray 3 (0, 0)), ABlk w.heap.size (.cells #[.int .i64 c.client, .int .i64 c.req, .int .i64 c.kind, .string c.queue, .int .i64 c.a.vis, .int .i64 c.a.ret, .int .i64 c.a.del, .int .i64 c.a.win, .int .i64 c.a.max, .string c.a.dead, .bool c.a.fifo, .string c.body, .string c.group, .string c.key, .string c.receipt, .slice A nb cb, .int .i64 c.n, .int .i64 c.m] 37 (0, 0))]) (fun _ i _ => 11 - (intOf i).toNat)
  case atStart => exact ⟨0, rfl, Nat.zero_le _, HP2.out⟩
  case round =>
    obtain ⟨j, rfl, hj, hQ⟩ := hrel
    have HQ := Lib.hid hQ
    have HFL := HFN j
    clear hQ
    by_cases hj11 : j < 11
    case pos =>
      have i0 : (0 : Int) ≤ (j : Int) := by omega
      have i1 : (j : Int) < 11 := by omega
      have hC : (Kd.int .i64).C wr (some ad) 11 N := by
        rw [HAD.out, ← HNL.out]
        exact C_block HQ.out.blk1 N (by rw [List.toList_toArray]) (by rw [HNL.out]; decide)
      obtain ⟨ad', x, e, hx, d0⟩ := C_nth_scalar hC j hj11
      obtain rfl : ad = ad' := Option.some.inj e
      have hx1 := HNI.out x (List.mem_of_getElem? hx)
      have HT := Lib.hid (flat_next (f := encNum) hx)
      have HL := Lib.hid (encNum_len (v := x) (by omega))
      clear hC hx e
      go_wp2_with fail
      refine Calls.mono (refNum_any hx1.1 (by omega) wr) ?_
      rintro e w3 ⟨A3, n3, c3, rfl, hP⟩
      have HP3 := Lib.hid (HQ.out.fresh hP.belowW hP.head)
      clear hP
      obtain ⟨okr, hR1, hR2, hR3⟩ := HP3.out.swap.appended
      have HC_ := Lib.hid (Kd.R_reads' HP3.out.head)
      have HR1_ := Lib.hid hR1
      have HR2_ := Lib.hid hR2
      have HR3_ := Lib.hid hR3
      clear hR1 hR2 hR3
      go_wp2_with (at_builtin; refine Kd.R_append_rows (Kd.int .u8) (w0 := w3) 0 rfl (.tmp 17) (.tmp 22) 30 5 (.int .u8 0) 1 rfl Tryd.underlying30 info_byte rfl (by decide) (by omega) u3 ((N.take j).map encNum).flatten (encNum x) A3 n3 c3 okr (fun _ => False) rfl rfl HR1_.out (by rw [HC_.out.1]; exact HC_.out.2.2) (fun _ _ h => h) (fun _ hk => hk.elim) HR2_.out (Below.refl _ _) (Nat.zero_le _) (by rw [HC_.out.1]; have := HFL.out; have := HL.out; have := HNL.out; omega) ?_; intro v5 w5 hR5 hB5 hg5 _; have HP5 := Lib.hid (HR3_.out _ _ _ hR5 hg5).drop1; clear hR5 hB5 hg5)
      clear HC_ HR1_ HR2_ HR3_ okr
      refine ⟨⟨j + 1, by simp, by omega, ?_⟩, ?_⟩
      · rw [HT.out]
        exact HP5.out
      · simp [intOf]
        omega
    case neg =>
    have hj' : j = 11 := by omega
    subst hj'
    rw [List.take_of_length_le (by rw [HNL.out]; exact Nat.le_refl _)] at HQ HFL
    have HQ1 := Lib.hid HQ.out.drop1
    obtain ⟨EN, hEN⟩ : ∃ EN, EN = (N.map encNum).flatten := ⟨_, rfl⟩
    rw [← hEN] at HQ1 HFL HENC
    have hEL : EN.length ≤ 99 := by have := HFL.out; have := HNL.out; omega
    have HENL := Lib.hid hEL
    clear hEN hEL HFL HQ
    go_wp2_with ((with_reducible refine gate_dst (N := 24) rfl ?_); refine wpList_load_row rfl 37 (.tmp 1) rfl w.heap.size rfl 37 #[.int .i64 c.client, .int .i64 c.req, .int .i64 c.kind, .string c.queue, .int .i64 c.a.vis, .int .i64 c.a.ret, .int .i64 c.a.del, .int .i64 c.a.win, .int .i64 c.a.max, .string c.a.dead, .bool c.a.fifo, .string c.body, .string c.group, .string c.key, .string c.receipt, .slice A nb cb, .int .i64 c.n, .int .i64 c.m] (0, 0) _ HQ1.out.blk1 Tryd.underlying37 rfl rcmd_info ?_)
    refine Calls.mono (HTX.out _) ?_
    rintro e w6 ⟨g2, rfl, hP⟩
    obtain ⟨ae, hae⟩ : ∃ ae : Addr, ae = ⟨g2, 0, none⟩ := ⟨_, rfl⟩
    rw [← hae]
    have HAE := Lib.hid hae
    have HP6 := Lib.hid ((HQ1.out.fresh hP.belowW hP.head).swap)
    clear hP hae HTX
    go_wp2_with fail
    go_loopw [3, 7] (fun o i wr => ∃ j : Nat, i = .int .i64 j ∧ j ≤ 6 ∧ Hp w wr [ABy o (EN ++ ((X.take j).map encText).flatten), ABlk g2 (.cells (X.map Value.string).toArray 9 (0, 0)), ABlk w.heap.size (.cells #[.int .i64 c.client, .int .i64 c.req, .int .i64 c.kind, .string c.queue, .int .i64 c.a.vis, .int .i64 c.a.ret, .int .i64 c.a.del, .int .i64 c.a.win, .int .i64 c.a.max, .string c.a.dead, .bool c.a.fifo, .string c.body, .string c.group, .string c.key, .string c.receipt, .slice A nb cb, .int .i64 c.n, .int .i64 c.m] 37 (0, 0))]) (fun _ i _ => 6 - (intOf i).toNat)
    case atStart => exact ⟨0, rfl, Nat.zero_le _, by simpa using HP6.out⟩
    case round =>
      obtain ⟨j, rfl, hj, hQ⟩ := hrel
      have HQ := Lib.hid hQ
      have HFL := HFX j
      clear hQ
      by_cases hj6 : j < 6
      case pos =>
        have i0 : (0 : Int) ≤ (j : Int) := by omega
        have i1 : (j : Int) < 6 := by omega
        have hC : Kd.string.C wr (some ae) 6 X := by
          rw [HAE.out, ← HXL.out]
          exact C_block HQ.out.blk1 X (by rw [List.toList_toArray]) (by rw [HXL.out]; decide)
        obtain ⟨ad', x, e, hx, d0⟩ := C_nth_scalar hC j hj6
        obtain rfl : ae = ad' := Option.some.inj e
        have hx1 := HT3.out x (List.mem_of_getElem? hx)
        have HT := Lib.hid (flat_next (f := encText) hx)
        have HL := Lib.hid (encText_len hx1)
        clear hC hx e
        go_wp2_with fail
        refine Calls.mono (refText_any (s := x) (by omega) wr) ?_
        rintro e w3 ⟨A3, n3, c3, rfl, hP⟩
        have HP3 := Lib.hid (HQ.out.fresh hP.belowW hP.head)
        clear hP
        obtain ⟨okr, hR1, hR2, hR3⟩ := HP3.out.swap.appended
        have HC_ := Lib.hid (Kd.R_reads' HP3.out.head)
        have HR1_ := Lib.hid hR1
        have HR2_ := Lib.hid hR2
        have HR3_ := Lib.hid hR3
        clear hR1 hR2 hR3
        go_wp2_with (at_builtin; refine Kd.R_append_rows (Kd.int .u8) (w0 := w3) 0 rfl (.tmp 32) (.tmp 37) 30 5 (.int .u8 0) 1 rfl Tryd.underlying30 info_byte rfl (by decide) (by omega) u3 (EN ++ ((X.take j).map encText).flatten) (encText x) A3 n3 c3 okr (fun _ => False) rfl rfl HR1_.out (by rw [HC_.out.1]; exact HC_.out.2.2) (fun _ _ h => h) (fun _ hk => hk.elim) HR2_.out (Below.refl _ _) (Nat.zero_le _) (by rw [HC_.out.1]; simp only [List.length_append]; have := HFL.out; have := HL.out; have := HXL.out; have := HENL.out; omega) ?_; intro v5 w5 hR5 hB5 hg5 _; have HP5 := Lib.hid (HR3_.out _ _ _ hR5 hg5).drop1; clear hR5 hB5 hg5)
        clear HC_ HR1_ HR2_ HR3_ okr
        refine ⟨⟨j + 1, by simp, by omega, ?_⟩, ?_⟩
        · rw [HT.out, ← List.append_assoc]
          exact HP5.out
        · simp [intOf]
          omega
      case neg =>
      have hj' : j = 6 := by omega
      subst hj'
      rw [List.take_of_length_le (by rw [HXL.out]; exact Nat.le_refl _)] at HQ HFL
      have HQ2 := Lib.hid HQ.out.drop1
      obtain ⟨EX, hEX⟩ : ∃ EX, EX = EN ++ (X.map encText).flatten := ⟨_, rfl⟩
      rw [← hEX] at HQ2 HENC
      have HEXL := Lib.hid (show EX.length ≤ 1689 by rw [hEX, List.length_append]; have := HFL.out; have := HXL.out; have := HENL.out; omega)
      have g15 : wr.cell? ⟨w.heap.size, 15, none⟩ = some (.slice A nb cb) := blk_cell HQ2.out.blk1 15
      clear hEX HFL HQ
      go_wp2_with fail
      refine Calls.mono (refNum_any (v := (nb : Int)) (by omega) (by omega) wr) ?_
      rintro e w8 ⟨A8, n8, c8, rfl, hP⟩
      have HP8 := Lib.hid (HQ2.out.fresh hP.belowW hP.head)
      clear hP g15
      obtain ⟨okr, hR1, hR2, hR3⟩ := HP8.out.swap.appended
      have HC_ := Lib.hid (Kd.R_reads' HP8.out.head)
      have HR1_ := Lib.hid hR1
      have HR2_ := Lib.hid hR2
      have HR3_ := Lib.hid hR3
      clear hR1 hR2 hR3
      go_wp2_with (at_builtin; refine Kd.R_append_rows (Kd.int .u8) (w0 := w8) 0 rfl (.tmp 39) (.tmp 43) 30 5 (.int .u8 0) 1 rfl Tryd.underlying30 info_byte rfl (by decide) (by omega) u3 EX (encNum nb) A8 n8 c8 okr (fun _ => False) rfl rfl HR1_.out (by rw [HC_.out.1]; exact HC_.out.2.2) (fun _ _ h => h) (fun _ hk => hk.elim) HR2_.out (Below.refl _ _) (Nat.zero_le _) (by rw [HC_.out.1]; have := HEXL.out; have := HEL.out; omega) ?_; intro v9 w9 hR5 hB5 hg5 _; have HP9 := Lib.hid (HR3_.out _ _ _ hR5 hg5).drop1; clear hR5 hB5 hg5)
      clear HC_ HR1_ HR2_ HR3_ okr
      go_loopw [3, 8] (fun o i wr => ∃ j : Nat, i = .int .i64 j ∧ j ≤ nb ∧ Hp w wr [ABy o (EX ++ encNum nb ++ ((Y.take j).map encText).flatten), ABlk w.heap.size (.cells #[.int .i64 c.client, .int .i64 c.req, .int .i64 c.kind, .string c.queue, .int .i64 c.a.vis, .int .i64 c.a.ret, .int .i64 c.a.del, .int .i64 c.a.win, .int .i64 c.a.max, .string c.a.dead, .bool c.a.fifo, .string c.body, .string c.group, .string c.key, .string c.receipt, .slice A nb cb, .int .i64 c.n, .int .i64 c.m] 37 (0, 0))]) (fun _ i _ => nb - (intOf i).toNat)
      case atStart => exact ⟨0, rfl, Nat.zero_le _, by simpa using HP9.out⟩
      case round =>
        obtain ⟨j, rfl, hj, hQ⟩ := hrel
        have HQ := Lib.hid hQ
        have HFL := HFY j
        have g15 : wr.cell? ⟨w.heap.size, 15, none⟩ = some (.slice A nb cb) := blk_cell HQ.out.blk1 15
        clear hQ
        by_cases hjn : j < nb
        case pos =>
          have i0 : (0 : Int) ≤ (j : Int) := by omega
          have i1 : (j : Int) < (nb : Int) := by omega
          obtain ⟨ad', x, e, hx, d0⟩ := C_nth_scalar (Kd.C_below HD.out HQ.out.belowW) j hjn
          subst e
          have hx1 := HB5.out x (List.mem_of_getElem? hx)
          have HT := Lib.hid (flat_next (f := encText) hx)
          have HL := Lib.hid (encText_len hx1)
          clear hx
          go_wp2_with fail
          refine Calls.mono (refText_any (s := x) (by omega) wr) ?_
          rintro e w3 ⟨A3, n3, c3, rfl, hP⟩
          have HP3 := Lib.hid (HQ.out.fresh hP.belowW hP.head)
          clear hP
          obtain ⟨okr, hR1, hR2, hR3⟩ := HP3.out.swap.appended
          have HC_ := Lib.hid (Kd.R_reads' HP3.out.head)
          have HR1_ := Lib.hid hR1
          have HR2_ := Lib.hid hR2
          have HR3_ := Lib.hid hR3
          clear hR1 hR2 hR3
          go_wp2_with (at_builtin; refine Kd.R_append_rows (Kd.int .u8) (w0 := w3) 0 rfl (.tmp 52) (.tmp 58) 30 5 (.int .u8 0) 1 rfl Tryd.underlying30 info_byte rfl (by decide) (by omega) u3 (EX ++ encNum nb ++ ((Y.take j).map encText).flatten) (encText x) A3 n3 c3 okr (fun _ => False) rfl rfl HR1_.out (by rw [HC_.out.1]; exact HC_.out.2.2) (fun _ _ h => h) (fun _ hk => hk.elim) HR2_.out (Below.refl _ _) (Nat.zero_le _) (by rw [HC_.out.1]; simp only [List.length_append]; have := HFL.out; have := HL.out; have := HNB.out; have := HEXL.out; have := HEL.out; omega) ?_; intro v5 w5 hR5 hB5 hg5 _; have HP5 := Lib.hid (HR3_.out _ _ _ hR5 hg5).drop1; clear hR5 hB5 hg5)
          clear HC_ HR1_ HR2_ HR3_ okr
          refine ⟨⟨j + 1, by simp, by omega, ?_⟩, ?_⟩
          · rw [HT.out, ← List.append_assoc]
            exact HP5.out
          · simp [intOf]
            omega
        case neg =>
          have hj' : j = nb := by omega
          subst hj'
          have i1 : ¬ (j : Int) < (j : Int) := by omega
          rw [List.take_of_length_le (by rw [HNB.out]; exact Nat.le_refl _)] at HQ
          obtain ⟨A9, c9, hv⟩ := Kd.R_slice HQ.out.head
          generalize (EX ++ encNum j ++ (Y.map encText).flatten).length = n9 at hv
          subst hv
          go_wp2_with fail
          go_ret
          refine ⟨A9, n9, c9, rfl, ?_⟩
          rw [HENC.out]
          exact HQ.out.only1
end Go.Proofs.YtidjapjidihbpaaDoor
set_option linter.unusedVariables false
set_option linter.unusedSimpArgs false
namespace Go.Proofs.YtidjapjidihbpaaDoor
open Go.RowKit Go.Proofs.YtidjapjidihbpaaDoorW.PrintWords
set_option maxHeartbeats 3200000 in
set_option maxRecDepth 100000 in
theorem sameCmd_one (c : Cm) (A : Option Addr) (nb cb : Nat) (B : Option Addr) (db : Nat) (w : World) (hC : Kd.string.C w A nb c.bodies) (hD : Kd.string.C w B nb c.bodies) :
    Calls Tryd.prog 18 #[.agg (c.cells (.slice A nb cb) c.n), .agg (c.cells (.slice B nb db) c.n)] w fun e w' => e = .returned (.bool true) ∧ Below w.heap.size w w' := by
  have HC := Lib.hid hC
  have HD := Lib.hid hD
  have hmx := Kd.C_max hC
  clear hC hD
  have hp0 := ((Hp.nil w).alloc (.cells (c.cells (.slice A nb cb) c.n) 37)).alloc (.cells (c.cells (.slice B nb db) c.n) 37)
  have hz : (w.alloc (.cells (c.cells (.slice A nb cb) c.n) 37)).heap.size = w.heap.size + 1 := by simp
  rw [hz] at hp0
  unfold Cm.cells at hp0 ⊢
  have HP0 := Lib.hid hp0
  clear hz hp0
  have a0 : ((w.alloc (.cells #[.int .i64 c.client, .int .i64 c.req, .int .i64 c.kind, .string c.queue, .int .i64 c.a.vis, .int .i64 c.a.ret, .int .i64 c.a.del, .int .i64 c.a.win, .int .i64 c.a.max, .string c.a.dead, .bool c.a.fifo, .string c.body, .string c.group, .string c.key, .string c.receipt, .slice A nb cb, .int .i64 c.n, .int .i64 c.m] 37)).alloc (.cells #[.int .i64 c.client, .int .i64 c.req, .int .i64 c.kind, .string c.queue, .int .i64 c.a.vis, .int .i64 c.a.ret, .int .i64 c.a.del, .int .i64 c.a.win, .int .i64 c.a.max, .string c.a.dead, .bool c.a.fifo, .string c.body, .string c.group, .string c.key, .string c.receipt, .slice B nb db, .int .i64 c.n, .int .i64 c.m] 37)).cell? ⟨w.heap.size, 0, none⟩ = some (.int .i64 c.client) := blk_cell HP0.out.blk1 0
  have b0 : ((w.alloc (.cells #[.int .i64 c.client, .int .i64 c.req, .int .i64 c.kind, .string c.queue, .int .i64 c.a.vis, .int .i64 c.a.ret, .int .i64 c.a.del, .int .i64 c.a.win, .int .i64 c.a.max, .string c.a.dead, .bool c.a.fifo, .string c.body, .string c.group, .string c.key, .string c.receipt, .slice A nb cb, .int .i64 c.n, .int .i64 c.m] 37)).alloc (.cells #[.int .i64 c.client, .int .i64 c.req, .int .i64 c.kind, .string c.queue, .int .i64 c.a.vis, .int .i64 c.a.ret, .int .i64 c.a.del, .int .i64 c.a.win, .int .i64 c.a.max, .string c.a.dead, .bool c.a.fifo, .string c.body, .string c.group, .string c.key, .string c.receipt, .slice B nb db, .int .i64 c.n, .int .i64 c.m] 37)).cell? ⟨w.heap.size + 1, 0, none⟩ = some (.int .i64 c.client) := blk_cell HP0.out.blk0 0
  have a1 : ((w.alloc (.cells #[.int .i64 c.client, .int .i64 c.req, .int .i64 c.kind, .string c.queue, .int .i64 c.a.vis, .int .i64 c.a.ret, .int .i64 c.a.del, .int .i64 c.a.win, .int .i64 c.a.max, .string c.a.dead, .bool c.a.fifo, .string c.body, .string c.group, .string c.key, .string c.receipt, .slice A nb cb, .int .i64 c.n, .int .i64 c.m] 37)).alloc (.cells #[.int .i64 c.client, .int .i64 c.req, .int .i64 c.kind, .string c.queue, .int .i64 c.a.vis, .int .i64 c.a.ret, .int .i64 c.a.del, .int .i64 c.a.win, .int .i64 c.a.max, .string c.a.dead, .bool c.a.fifo, .string c.body, .string c.group, .string c.key, .string c.receipt, .slice B nb db, .int .i64 c.n, .int .i64 c.m] 37)).cell? ⟨w.heap.size, 1, none⟩ = some (.int .i64 c.req) := blk_cell HP0.out.blk1 1
  have b1 : ((w.alloc (.cells #[.int .i64 c.client, .int .i64 c.req, .int .i64 c.kind, .string c.queue, .int .i64 c.a.vis, .int .i64 c.a.ret, .int .i64 c.a.del, .int .i64 c.a.win, .int .i64 c.a.max, .string c.a.dead, .bool c.a.fifo, .string c.body, .string c.group, .string c.key, .string c.receipt, .slice A nb cb, .int .i64 c.n, .int .i64 c.m] 37)).alloc (.cells #[.int .i64 c.client, .int .i64 c.req, .int .i64 c.kind, .string c.queue, .int .i64 c.a.vis, .int .i64 c.a.ret, .int .i64 c.a.del, .int .i64 c.a.win, .int .i64 c.a.max, .string c.a.dead, .bool c.a.fifo, .string c.body, .string c.group, .string c.key, .string c.receipt, .slice B nb db, .int .i64 c.n, .int .i64 c.m] 37)).cell? ⟨w.heap.size + 1, 1, none⟩ = some (.int .i64 c.req) := blk_cell HP0.out.blk0 1
  have a2 : ((w.alloc (.cells #[.int .i64 c.client, .int .i64 c.req, .int .i64 c.kind, .string c.queue, .int .i64 c.a.vis, .int .i64 c.a.ret, .int .i64 c.a.del, .int .i64 c.a.win, .int .i64 c.a.max, .string c.a.dead, .bool c.a.fifo, .string c.body, .string c.group, .string c.key, .string c.receipt, .slice A nb cb, .int .i64 c.n, .int .i64 c.m] 37)).alloc (.cells #[.int .i64 c.client, .int .i64 c.req, .int .i64 c.kind, .string c.queue, .int .i64 c.a.vis, .int .i64 c.a.ret, .int .i64 c.a.del, .int .i64 c.a.win, .int .i64 c.a.max, .string c.a.dead, .bool c.a.fifo, .string c.body, .string c.group, .string c.key, .string c.receipt, .slice B nb db, .int .i64 c.n, .int .i64 c.m] 37)).cell? ⟨w.heap.size, 2, none⟩ = some (.int .i64 c.kind) := blk_cell HP0.out.blk1 2
  have b2 : ((w.alloc (.cells #[.int .i64 c.client, .int .i64 c.req, .int .i64 c.kind, .string c.queue, .int .i64 c.a.vis, .int .i64 c.a.ret, .int .i64 c.a.del, .int .i64 c.a.win, .int .i64 c.a.max, .string c.a.dead, .bool c.a.fifo, .string c.body, .string c.group, .string c.key, .string c.receipt, .slice A nb cb, .int .i64 c.n, .int .i64 c.m] 37)).alloc (.cells #[.int .i64 c.client, .int .i64 c.req, .int .i64 c.kind, .string c.queue, .int .i64 c.a.vis, .int .i64 c.a.ret, .int .i64 c.a.del, .int .i64 c.a.win, .int .i64 c.a.max, .string c.a.dead, .bool c.a.fifo, .string c.body, .string c.group, .string c.key, .string c.receipt, .slice B nb db, .int .i64 c.n, .int .i64 c.m] 37)).cell? ⟨w.heap.size + 1, 2, none⟩ = some (.int .i64 c.kind) := blk_cell HP0.out.blk0 2
  have a3 : ((w.alloc (.cells #[.int .i64 c.client, .int .i64 c.req, .int .i64 c.kind, .string c.queue, .int .i64 c.a.vis, .int .i64 c.a.ret, .int .i64 c.a.del, .int .i64 c.a.win, .int .i64 c.a.max, .string c.a.dead, .bool c.a.fifo, .string c.body, .string c.group, .string c.key, .string c.receipt, .slice A nb cb, .int .i64 c.n, .int .i64 c.m] 37)).alloc (.cells #[.int .i64 c.client, .int .i64 c.req, .int .i64 c.kind, .string c.queue, .int .i64 c.a.vis, .int .i64 c.a.ret, .int .i64 c.a.del, .int .i64 c.a.win, .int .i64 c.a.max, .string c.a.dead, .bool c.a.fifo, .string c.body, .string c.group, .string c.key, .string c.receipt, .slice B nb db, .int .i64 c.n, .int .i64 c.m] 37)).cell? ⟨w.heap.size, 3, none⟩ = some (.string c.queue) := blk_cell HP0.out.blk1 3
  have b3 : ((w.alloc (.cells #[.int .i64 c.client, .int .i64 c.req, .int .i64 c.kind, .string c.queue, .int .i64 c.a.vis, .int .i64 c.a.ret, .int .i64 c.a.del, .int .i64 c.a.win, .int .i64 c.a.max, .string c.a.dead, .bool c.a.fifo, .string c.body, .string c.group, .string c.key, .string c.receipt, .slice A nb cb, .int .i64 c.n, .int .i64 c.m] 37)).alloc (.cells #[.int .i64 c.client, .int .i64 c.req, .int .i64 c.kind, .string c.queue, .int .i64 c.a.vis, .int .i64 c.a.ret, .int .i64 c.a.del, .int .i64 c.a.win, .int .i64 c.a.max, .string c.a.dead, .bool c.a.fifo, .string c.body, .string c.group, .string c.key, .string c.receipt, .slice B nb db, .int .i64 c.n, .int .i64 c.m] 37)).cell? ⟨w.heap.size + 1, 3, none⟩ = some (.string c.queue) := blk_cell HP0.out.blk0 3
  have a4 : ((w.alloc (.cells #[.int .i64 c.client, .int .i64 c.req, .int .i64 c.kind, .string c.queue, .int .i64 c.a.vis, .int .i64 c.a.ret, .int .i64 c.a.del, .int .i64 c.a.win, .int .i64 c.a.max, .string c.a.dead, .bool c.a.fifo, .string c.body, .string c.group, .string c.key, .string c.receipt, .slice A nb cb, .int .i64 c.n, .int .i64 c.m] 37)).alloc (.cells #[.int .i64 c.client, .int .i64 c.req, .int .i64 c.kind, .string c.queue, .int .i64 c.a.vis, .int .i64 c.a.ret, .int .i64 c.a.del, .int .i64 c.a.win, .int .i64 c.a.max, .string c.a.dead, .bool c.a.fifo, .string c.body, .string c.group, .string c.key, .string c.receipt, .slice B nb db, .int .i64 c.n, .int .i64 c.m] 37)).cell? ⟨w.heap.size, 4, none⟩ = some (.int .i64 c.a.vis) := blk_cell HP0.out.blk1 4
  have b4 : ((w.alloc (.cells #[.int .i64 c.client, .int .i64 c.req, .int .i64 c.kind, .string c.queue, .int .i64 c.a.vis, .int .i64 c.a.ret, .int .i64 c.a.del, .int .i64 c.a.win, .int .i64 c.a.max, .string c.a.dead, .bool c.a.fifo, .string c.body, .string c.group, .string c.key, .string c.receipt, .slice A nb cb, .int .i64 c.n, .int .i64 c.m] 37)).alloc (.cells #[.int .i64 c.client, .int .i64 c.req, .int .i64 c.kind, .string c.queue, .int .i64 c.a.vis, .int .i64 c.a.ret, .int .i64 c.a.del, .int .i64 c.a.win, .int .i64 c.a.max, .string c.a.dead, .bool c.a.fifo, .string c.body, .string c.group, .string c.key, .string c.receipt, .slice B nb db, .int .i64 c.n, .int .i64 c.m] 37)).cell? ⟨w.heap.size + 1, 4, none⟩ = some (.int .i64 c.a.vis) := blk_cell HP0.out.blk0 4
  have a5 : ((w.alloc (.cells #[.int .i64 c.client, .int .i64 c.req, .int .i64 c.kind, .string c.queue, .int .i64 c.a.vis, .int .i64 c.a.ret, .int .i64 c.a.del, .int .i64 c.a.win, .int .i64 c.a.max, .string c.a.dead, .bool c.a.fifo, .string c.body, .string c.group, .string c.key, .string c.receipt, .slice A nb cb, .int .i64 c.n, .int .i64 c.m] 37)).alloc (.cells #[.int .i64 c.client, .int .i64 c.req, .int .i64 c.kind, .string c.queue, .int .i64 c.a.vis, .int .i64 c.a.ret, .int .i64 c.a.del, .int .i64 c.a.win, .int .i64 c.a.max, .string c.a.dead, .bool c.a.fifo, .string c.body, .string c.group, .string c.key, .string c.receipt, .slice B nb db, .int .i64 c.n, .int .i64 c.m] 37)).cell? ⟨w.heap.size, 5, none⟩ = some (.int .i64 c.a.ret) := blk_cell HP0.out.blk1 5
  have b5 : ((w.alloc (.cells #[.int .i64 c.client, .int .i64 c.req, .int .i64 c.kind, .string c.queue, .int .i64 c.a.vis, .int .i64 c.a.ret, .int .i64 c.a.del, .int .i64 c.a.win, .int .i64 c.a.max, .string c.a.dead, .bool c.a.fifo, .string c.body, .string c.group, .string c.key, .string c.receipt, .slice A nb cb, .int .i64 c.n, .int .i64 c.m] 37)).alloc (.cells #[.int .i64 c.client, .int .i64 c.req, .int .i64 c.kind, .string c.queue, .int .i64 c.a.vis, .int .i64 c.a.ret, .int .i64 c.a.del, .int .i64 c.a.win, .int .i64 c.a.max, .string c.a.dead, .bool c.a.fifo, .string c.body, .string c.group, .string c.key, .string c.receipt, .slice B nb db, .int .i64 c.n, .int .i64 c.m] 37)).cell? ⟨w.heap.size + 1, 5, none⟩ = some (.int .i64 c.a.ret) := blk_cell HP0.out.blk0 5
  have a6 : ((w.alloc (.cells #[.int .i64 c.client, .int .i64 c.req, .int .i64 c.kind, .string c.queue, .int .i64 c.a.vis, .int .i64 c.a.ret, .int .i64 c.a.del, .int .i64 c.a.win, .int .i64 c.a.max, .string c.a.dead, .bool c.a.fifo, .string c.body, .string c.group, .string c.key, .string c.receipt, .slice A nb cb, .int .i64 c.n, .int .i64 c.m] 37)).alloc (.cells #[.int .i64 c.client, .int .i64 c.req, .int .i64 c.kind, .string c.queue, .int .i64 c.a.vis, .int .i64 c.a.ret, .int .i64 c.a.del, .int .i64 c.a.win, .int .i64 c.a.max, .string c.a.dead, .bool c.a.fifo, .string c.body, .string c.group, .string c.key, .string c.receipt, .slice B nb db, .int .i64 c.n, .int .i64 c.m] 37)).cell? ⟨w.heap.size, 6, none⟩ = some (.int .i64 c.a.del) := blk_cell HP0.out.blk1 6
  have b6 : ((w.alloc (.cells #[.int .i64 c.client, .int .i64 c.req, .int .i64 c.kind, .string c.queue, .int .i64 c.a.vis, .int .i64 c.a.ret, .int .i64 c.a.del, .int .i64 c.a.win, .int .i64 c.a.max, .string c.a.dead, .bool c.a.fifo, .string c.body, .string c.group, .string c.key, .string c.receipt, .slice A nb cb, .int .i64 c.n, .int .i64 c.m] 37)).alloc (.cells #[.int .i64 c.client, .int .i64 c.req, .int .i64 c.kind, .string c.queue, .int .i64 c.a.vis, .int .i64 c.a.ret, .int .i64 c.a.del, .int .i64 c.a.win, .int .i64 c.a.max, .string c.a.dead, .bool c.a.fifo, .string c.body, .string c.group, .string c.key, .string c.receipt, .slice B nb db, .int .i64 c.n, .int .i64 c.m] 37)).cell? ⟨w.heap.size + 1, 6, none⟩ = some (.int .i64 c.a.del) := blk_cell HP0.out.blk0 6
  have a7 : ((w.alloc (.cells #[.int .i64 c.client, .int .i64 c.req, .int .i64 c.kind, .string c.queue, .int .i64 c.a.vis, .int .i64 c.a.ret, .int .i64 c.a.del, .int .i64 c.a.win, .int .i64 c.a.max, .string c.a.dead, .bool c.a.fifo, .string c.body, .string c.group, .string c.key, .string c.receipt, .slice A nb cb, .int .i64 c.n, .int .i64 c.m] 37)).alloc (.cells #[.int .i64 c.client, .int .i64 c.req, .int .i64 c.kind, .string c.queue, .int .i64 c.a.vis, .int .i64 c.a.ret, .int .i64 c.a.del, .int .i64 c.a.win, .int .i64 c.a.max, .string c.a.dead, .bool c.a.fifo, .string c.body, .string c.group, .string c.key, .string c.receipt, .slice B nb db, .int .i64 c.n, .int .i64 c.m] 37)).cell? ⟨w.heap.size, 7, none⟩ = some (.int .i64 c.a.win) := blk_cell HP0.out.blk1 7
  have b7 : ((w.alloc (.cells #[.int .i64 c.client, .int .i64 c.req, .int .i64 c.kind, .string c.queue, .int .i64 c.a.vis, .int .i64 c.a.ret, .int .i64 c.a.del, .int .i64 c.a.win, .int .i64 c.a.max, .string c.a.dead, .bool c.a.fifo, .string c.body, .string c.group, .string c.key, .string c.receipt, .slice A nb cb, .int .i64 c.n, .int .i64 c.m] 37)).alloc (.cells #[.int .i64 c.client, .int .i64 c.req, .int .i64 c.kind, .string c.queue, .int .i64 c.a.vis, .int .i64 c.a.ret, .int .i64 c.a.del, .int .i64 c.a.win, .int .i64 c.a.max, .string c.a.dead, .bool c.a.fifo, .string c.body, .string c.group, .string c.key, .string c.receipt, .slice B nb db, .int .i64 c.n, .int .i64 c.m] 37)).cell? ⟨w.heap.size + 1, 7, none⟩ = some (.int .i64 c.a.win) := blk_cell HP0.out.blk0 7
  have a8 : ((w.alloc (.cells #[.int .i64 c.client, .int .i64 c.req, .int .i64 c.kind, .string c.queue, .int .i64 c.a.vis, .int .i64 c.a.ret, .int .i64 c.a.del, .int .i64 c.a.win, .int .i64 c.a.max, .string c.a.dead, .bool c.a.fifo, .string c.body, .string c.group, .string c.key, .string c.receipt, .slice A nb cb, .int .i64 c.n, .int .i64 c.m] 37)).alloc (.cells #[.int .i64 c.client, .int .i64 c.req, .int .i64 c.kind, .string c.queue, .int .i64 c.a.vis, .int .i64 c.a.ret, .int .i64 c.a.del, .int .i64 c.a.win, .int .i64 c.a.max, .string c.a.dead, .bool c.a.fifo, .string c.body, .string c.group, .string c.key, .string c.receipt, .slice B nb db, .int .i64 c.n, .int .i64 c.m] 37)).cell? ⟨w.heap.size, 8, none⟩ = some (.int .i64 c.a.max) := blk_cell HP0.out.blk1 8
  have b8 : ((w.alloc (.cells #[.int .i64 c.client, .int .i64 c.req, .int .i64 c.kind, .string c.queue, .int .i64 c.a.vis, .int .i64 c.a.ret, .int .i64 c.a.del, .int .i64 c.a.win, .int .i64 c.a.max, .string c.a.dead, .bool c.a.fifo, .string c.body, .string c.group, .string c.key, .string c.receipt, .slice A nb cb, .int .i64 c.n, .int .i64 c.m] 37)).alloc (.cells #[.int .i64 c.client, .int .i64 c.req, .int .i64 c.kind, .string c.queue, .int .i64 c.a.vis, .int .i64 c.a.ret, .int .i64 c.a.del, .int .i64 c.a.win, .int .i64 c.a.max, .string c.a.dead, .bool c.a.fifo, .string c.body, .string c.group, .string c.key, .string c.receipt, .slice B nb db, .int .i64 c.n, .int .i64 c.m] 37)).cell? ⟨w.heap.size + 1, 8, none⟩ = some (.int .i64 c.a.max) := blk_cell HP0.out.blk0 8
  have a9 : ((w.alloc (.cells #[.int .i64 c.client, .int .i64 c.req, .int .i64 c.kind, .string c.queue, .int .i64 c.a.vis, .int .i64 c.a.ret, .int .i64 c.a.del, .int .i64 c.a.win, .int .i64 c.a.max, .string c.a.dead, .bool c.a.fifo, .string c.body, .string c.group, .string c.key, .string c.receipt, .slice A nb cb, .int .i64 c.n, .int .i64 c.m] 37)).alloc (.cells #[.int .i64 c.client, .int .i64 c.req, .int .i64 c.kind, .string c.queue, .int .i64 c.a.vis, .int .i64 c.a.ret, .int .i64 c.a.del, .int .i64 c.a.win, .int .i64 c.a.max, .string c.a.dead, .bool c.a.fifo, .string c.body, .string c.group, .string c.key, .string c.receipt, .slice B nb db, .int .i64 c.n, .int .i64 c.m] 37)).cell? ⟨w.heap.size, 9, none⟩ = some (.string c.a.dead) := blk_cell HP0.out.blk1 9
  have b9 : ((w.alloc (.cells #[.int .i64 c.client, .int .i64 c.req, .int .i64 c.kind, .string c.queue, .int .i64 c.a.vis, .int .i64 c.a.ret, .int .i64 c.a.del, .int .i64 c.a.win, .int .i64 c.a.max, .string c.a.dead, .bool c.a.fifo, .string c.body, .string c.group, .string c.key, .string c.receipt, .slice A nb cb, .int .i64 c.n, .int .i64 c.m] 37)).alloc (.cells #[.int .i64 c.client, .int .i64 c.req, .int .i64 c.kind, .string c.queue, .int .i64 c.a.vis, .int .i64 c.a.ret, .int .i64 c.a.del, .int .i64 c.a.win, .int .i64 c.a.max, .string c.a.dead, .bool c.a.fifo, .string c.body, .string c.group, .string c.key, .string c.receipt, .slice B nb db, .int .i64 c.n, .int .i64 c.m] 37)).cell? ⟨w.heap.size + 1, 9, none⟩ = some (.string c.a.dead) := blk_cell HP0.out.blk0 9
  have a10 : ((w.alloc (.cells #[.int .i64 c.client, .int .i64 c.req, .int .i64 c.kind, .string c.queue, .int .i64 c.a.vis, .int .i64 c.a.ret, .int .i64 c.a.del, .int .i64 c.a.win, .int .i64 c.a.max, .string c.a.dead, .bool c.a.fifo, .string c.body, .string c.group, .string c.key, .string c.receipt, .slice A nb cb, .int .i64 c.n, .int .i64 c.m] 37)).alloc (.cells #[.int .i64 c.client, .int .i64 c.req, .int .i64 c.kind, .string c.queue, .int .i64 c.a.vis, .int .i64 c.a.ret, .int .i64 c.a.del, .int .i64 c.a.win, .int .i64 c.a.max, .string c.a.dead, .bool c.a.fifo, .string c.body, .string c.group, .string c.key, .string c.receipt, .slice B nb db, .int .i64 c.n, .int .i64 c.m] 37)).cell? ⟨w.heap.size, 10, none⟩ = some (.bool c.a.fifo) := blk_cell HP0.out.blk1 10
  have b10 : ((w.alloc (.cells #[.int .i64 c.client, .int .i64 c.req, .int .i64 c.kind, .string c.queue, .int .i64 c.a.vis, .int .i64 c.a.ret, .int .i64 c.a.del, .int .i64 c.a.win, .int .i64 c.a.max, .string c.a.dead, .bool c.a.fifo, .string c.body, .string c.group, .string c.key, .string c.receipt, .slice A nb cb, .int .i64 c.n, .int .i64 c.m] 37)).alloc (.cells #[.int .i64 c.client, .int .i64 c.req, .int .i64 c.kind, .string c.queue, .int .i64 c.a.vis, .int .i64 c.a.ret, .int .i64 c.a.del, .int .i64 c.a.win, .int .i64 c.a.max, .string c.a.dead, .bool c.a.fifo, .string c.body, .string c.group, .string c.key, .string c.receipt, .slice B nb db, .int .i64 c.n, .int .i64 c.m] 37)).cell? ⟨w.heap.size + 1, 10, none⟩ = some (.bool c.a.fifo) := blk_cell HP0.out.blk0 10
  have a11 : ((w.alloc (.cells #[.int .i64 c.client, .int .i64 c.req, .int .i64 c.kind, .string c.queue, .int .i64 c.a.vis, .int .i64 c.a.ret, .int .i64 c.a.del, .int .i64 c.a.win, .int .i64 c.a.max, .string c.a.dead, .bool c.a.fifo, .string c.body, .string c.group, .string c.key, .string c.receipt, .slice A nb cb, .int .i64 c.n, .int .i64 c.m] 37)).alloc (.cells #[.int .i64 c.client, .int .i64 c.req, .int .i64 c.kind, .string c.queue, .int .i64 c.a.vis, .int .i64 c.a.ret, .int .i64 c.a.del, .int .i64 c.a.win, .int .i64 c.a.max, .string c.a.dead, .bool c.a.fifo, .string c.body, .string c.group, .string c.key, .string c.receipt, .slice B nb db, .int .i64 c.n, .int .i64 c.m] 37)).cell? ⟨w.heap.size, 11, none⟩ = some (.string c.body) := blk_cell HP0.out.blk1 11
  have b11 : ((w.alloc (.cells #[.int .i64 c.client, .int .i64 c.req, .int .i64 c.kind, .string c.queue, .int .i64 c.a.vis, .int .i64 c.a.ret, .int .i64 c.a.del, .int .i64 c.a.win, .int .i64 c.a.max, .string c.a.dead, .bool c.a.fifo, .string c.body, .string c.group, .string c.key, .string c.receipt, .slice A nb cb, .int .i64 c.n, .int .i64 c.m] 37)).alloc (.cells #[.int .i64 c.client, .int .i64 c.req, .int .i64 c.kind, .string c.queue, .int .i64 c.a.vis, .int .i64 c.a.ret, .int .i64 c.a.del, .int .i64 c.a.win, .int .i64 c.a.max, .string c.a.dead, .bool c.a.fifo, .string c.body, .string c.group, .string c.key, .string c.receipt, .slice B nb db, .int .i64 c.n, .int .i64 c.m] 37)).cell? ⟨w.heap.size + 1, 11, none⟩ = some (.string c.body) := blk_cell HP0.out.blk0 11
  have a12 : ((w.alloc (.cells #[.int .i64 c.client, .int .i64 c.req, .int .i64 c.kind, .string c.queue, .int .i64 c.a.vis, .int .i64 c.a.ret, .int .i64 c.a.del, .int .i64 c.a.win, .int .i64 c.a.max, .string c.a.dead, .bool c.a.fifo, .string c.body, .string c.group, .string c.key, .string c.receipt, .slice A nb cb, .int .i64 c.n, .int .i64 c.m] 37)).alloc (.cells #[.int .i64 c.client, .int .i64 c.req, .int .i64 c.kind, .string c.queue, .int .i64 c.a.vis, .int .i64 c.a.ret, .int .i64 c.a.del, .int .i64 c.a.win, .int .i64 c.a.max, .string c.a.dead, .bool c.a.fifo, .string c.body, .string c.group, .string c.key, .string c.receipt, .slice B nb db, .int .i64 c.n, .int .i64 c.m] 37)).cell? ⟨w.heap.size, 12, none⟩ = some (.string c.group) := blk_cell HP0.out.blk1 12
  have b12 : ((w.alloc (.cells #[.int .i64 c.client, .int .i64 c.req, .int .i64 c.kind, .string c.queue, .int .i64 c.a.vis, .int .i64 c.a.ret, .int .i64 c.a.del, .int .i64 c.a.win, .int .i64 c.a.max, .string c.a.dead, .bool c.a.fifo, .string c.body, .string c.group, .string c.key, .string c.receipt, .slice A nb cb, .int .i64 c.n, .int .i64 c.m] 37)).alloc (.cells #[.int .i64 c.client, .int .i64 c.req, .int .i64 c.kind, .string c.queue, .int .i64 c.a.vis, .int .i64 c.a.ret, .int .i64 c.a.del, .int .i64 c.a.win, .int .i64 c.a.max, .string c.a.dead, .bool c.a.fifo, .string c.body, .string c.group, .string c.key, .string c.receipt, .slice B nb db, .int .i64 c.n, .int .i64 c.m] 37)).cell? ⟨w.heap.size + 1, 12, none⟩ = some (.string c.group) := blk_cell HP0.out.blk0 12
  have a13 : ((w.alloc (.cells #[.int .i64 c.client, .int .i64 c.req, .int .i64 c.kind, .string c.queue, .int .i64 c.a.vis, .int .i64 c.a.ret, .int .i64 c.a.del, .int .i64 c.a.win, .int .i64 c.a.max, .string c.a.dead, .bool c.a.fifo, .string c.body, .string c.group, .string c.key, .string c.receipt, .slice A nb cb, .int .i64 c.n, .int .i64 c.m] 37)).alloc (.cells #[.int .i64 c.client, .int .i64 c.req, .int .i64 c.kind, .string c.queue, .int .i64 c.a.vis, .int .i64 c.a.ret, .int .i64 c.a.del, .int .i64 c.a.win, .int .i64 c.a.max, .string c.a.dead, .bool c.a.fifo, .string c.body, .string c.group, .string c.key, .string c.receipt, .slice B nb db, .int .i64 c.n, .int .i64 c.m] 37)).cell? ⟨w.heap.size, 13, none⟩ = some (.string c.key) := blk_cell HP0.out.blk1 13
  have b13 : ((w.alloc (.cells #[.int .i64 c.client, .int .i64 c.req, .int .i64 c.kind, .string c.queue, .int .i64 c.a.vis, .int .i64 c.a.ret, .int .i64 c.a.del, .int .i64 c.a.win, .int .i64 c.a.max, .string c.a.dead, .bool c.a.fifo, .string c.body, .string c.group, .string c.key, .string c.receipt, .slice A nb cb, .int .i64 c.n, .int .i64 c.m] 37)).alloc (.cells #[.int .i64 c.client, .int .i64 c.req, .int .i64 c.kind, .string c.queue, .int .i64 c.a.vis, .int .i64 c.a.ret, .int .i64 c.a.del, .int .i64 c.a.win, .int .i64 c.a.max, .string c.a.dead, .bool c.a.fifo, .string c.body, .string c.group, .string c.key, .string c.receipt, .slice B nb db, .int .i64 c.n, .int .i64 c.m] 37)).cell? ⟨w.heap.size + 1, 13, none⟩ = some (.string c.key) := blk_cell HP0.out.blk0 13
  have a14 : ((w.alloc (.cells #[.int .i64 c.client, .int .i64 c.req, .int .i64 c.kind, .string c.queue, .int .i64 c.a.vis, .int .i64 c.a.ret, .int .i64 c.a.del, .int .i64 c.a.win, .int .i64 c.a.max, .string c.a.dead, .bool c.a.fifo, .string c.body, .string c.group, .string c.key, .string c.receipt, .slice A nb cb, .int .i64 c.n, .int .i64 c.m] 37)).alloc (.cells #[.int .i64 c.client, .int .i64 c.req, .int .i64 c.kind, .string c.queue, .int .i64 c.a.vis, .int .i64 c.a.ret, .int .i64 c.a.del, .int .i64 c.a.win, .int .i64 c.a.max, .string c.a.dead, .bool c.a.fifo, .string c.body, .string c.group, .string c.key, .string c.receipt, .slice B nb db, .int .i64 c.n, .int .i64 c.m] 37)).cell? ⟨w.heap.size, 14, none⟩ = some (.string c.receipt) := blk_cell HP0.out.blk1 14
  have b14 : ((w.alloc (.cells #[.int .i64 c.client, .int .i64 c.req, .int .i64 c.kind, .string c.queue, .int .i64 c.a.vis, .int .i64 c.a.ret, .int .i64 c.a.del, .int .i64 c.a.win, .int .i64 c.a.max, .string c.a.dead, .bool c.a.fifo, .string c.body, .string c.group, .string c.key, .string c.receipt, .slice A nb cb, .int .i64 c.n, .int .i64 c.m] 37)).alloc (.cells #[.int .i64 c.client, .int .i64 c.req, .int .i64 c.kind, .string c.queue, .int .i64 c.a.vis, .int .i64 c.a.ret, .int .i64 c.a.del, .int .i64 c.a.win, .int .i64 c.a.max, .string c.a.dead, .bool c.a.fifo, .string c.body, .string c.group, .string c.key, .string c.receipt, .slice B nb db, .int .i64 c.n, .int .i64 c.m] 37)).cell? ⟨w.heap.size + 1, 14, none⟩ = some (.string c.receipt) := blk_cell HP0.out.blk0 14
  have a15 : ((w.alloc (.cells #[.int .i64 c.client, .int .i64 c.req, .int .i64 c.kind, .string c.queue, .int .i64 c.a.vis, .int .i64 c.a.ret, .int .i64 c.a.del, .int .i64 c.a.win, .int .i64 c.a.max, .string c.a.dead, .bool c.a.fifo, .string c.body, .string c.group, .string c.key, .string c.receipt, .slice A nb cb, .int .i64 c.n, .int .i64 c.m] 37)).alloc (.cells #[.int .i64 c.client, .int .i64 c.req, .int .i64 c.kind, .string c.queue, .int .i64 c.a.vis, .int .i64 c.a.ret, .int .i64 c.a.del, .int .i64 c.a.win, .int .i64 c.a.max, .string c.a.dead, .bool c.a.fifo, .string c.body, .string c.group, .string c.key, .string c.receipt, .slice B nb db, .int .i64 c.n, .int .i64 c.m] 37)).cell? ⟨w.heap.size, 15, none⟩ = some (.slice A nb cb) := blk_cell HP0.out.blk1 15
  have b15 : ((w.alloc (.cells #[.int .i64 c.client, .int .i64 c.req, .int .i64 c.kind, .string c.queue, .int .i64 c.a.vis, .int .i64 c.a.ret, .int .i64 c.a.del, .int .i64 c.a.win, .int .i64 c.a.max, .string c.a.dead, .bool c.a.fifo, .string c.body, .string c.group, .string c.key, .string c.receipt, .slice A nb cb, .int .i64 c.n, .int .i64 c.m] 37)).alloc (.cells #[.int .i64 c.client, .int .i64 c.req, .int .i64 c.kind, .string c.queue, .int .i64 c.a.vis, .int .i64 c.a.ret, .int .i64 c.a.del, .int .i64 c.a.win, .int .i64 c.a.max, .string c.a.dead, .bool c.a.fifo, .string c.body, .string c.group, .string c.key, .string c.receipt, .slice B nb db, .int .i64 c.n, .int .i64 c.m] 37)).cell? ⟨w.heap.size + 1, 15, none⟩ = some (.slice B nb db) := blk_cell HP0.out.blk0 15
  have a16 : ((w.alloc (.cells #[.int .i64 c.client, .int .i64 c.req, .int .i64 c.kind, .string c.queue, .int .i64 c.a.vis, .int .i64 c.a.ret, .int .i64 c.a.del, .int .i64 c.a.win, .int .i64 c.a.max, .string c.a.dead, .bool c.a.fifo, .string c.body, .string c.group, .string c.key, .string c.receipt, .slice A nb cb, .int .i64 c.n, .int .i64 c.m] 37)).alloc (.cells #[.int .i64 c.client, .int .i64 c.req, .int .i64 c.kind, .string c.queue, .int .i64 c.a.vis, .int .i64 c.a.ret, .int .i64 c.a.del, .int .i64 c.a.win, .int .i64 c.a.max, .string c.a.dead, .bool c.a.fifo, .string c.body, .string c.group, .string c.key, .string c.receipt, .slice B nb db, .int .i64 c.n, .int .i64 c.m] 37)).cell? ⟨w.heap.size, 16, none⟩ = some (.int .i64 c.n) := blk_cell HP0.out.blk1 16
  have b16 : ((w.alloc (.cells #[.int .i64 c.client, .int .i64 c.req, .int .i64 c.kind, .string c.queue, .int .i64 c.a.vis, .int .i64 c.a.ret, .int .i64 c.a.del, .int .i64 c.a.win, .int .i64 c.a.max, .string c.a.dead, .bool c.a.fifo, .string c.body, .string c.group, .string c.key, .string c.receipt, .slice A nb cb, .int .i64 c.n, .int .i64 c.m] 37)).alloc (.cells #[.int .i64 c.client, .int .i64 c.req, .int .i64 c.kind, .string c.queue, .int .i64 c.a.vis, .int .i64 c.a.ret, .int .i64 c.a.del, .int .i64 c.a.win, .int .i64 c.a.max, .string c.a.dead, .bool c.a.fifo, .string c.body, .string c.group, .string c.key, .string c.receipt, .slice B nb db, .int .i64 c.n, .int .i64 c.m] 37)).cell? ⟨w.heap.size + 1, 16, none⟩ = some (.int .i64 c.n) := blk_cell HP0.out.blk0 16
  have a17 : ((w.alloc (.cells #[.int .i64 c.client, .int .i64 c.req, .int .i64 c.kind, .string c.queue, .int .i64 c.a.vis, .int .i64 c.a.ret, .int .i64 c.a.del, .int .i64 c.a.win, .int .i64 c.a.max, .string c.a.dead, .bool c.a.fifo, .string c.body, .string c.group, .string c.key, .string c.receipt, .slice A nb cb, .int .i64 c.n, .int .i64 c.m] 37)).alloc (.cells #[.int .i64 c.client, .int .i64 c.req, .int .i64 c.kind, .string c.queue, .int .i64 c.a.vis, .int .i64 c.a.ret, .int .i64 c.a.del, .int .i64 c.a.win, .int .i64 c.a.max, .string c.a.dead, .bool c.a.fifo, .string c.body, .string c.group, .string c.key, .string c.receipt, .slice B nb db, .int .i64 c.n, .int .i64 c.m] 37)).cell? ⟨w.heap.size, 17, none⟩ = some (.int .i64 c.m) := blk_cell HP0.out.blk1 17
  have b17 : ((w.alloc (.cells #[.int .i64 c.client, .int .i64 c.req, .int .i64 c.kind, .string c.queue, .int .i64 c.a.vis, .int .i64 c.a.ret, .int .i64 c.a.del, .int .i64 c.a.win, .int .i64 c.a.max, .string c.a.dead, .bool c.a.fifo, .string c.body, .string c.group, .string c.key, .string c.receipt, .slice A nb cb, .int .i64 c.n, .int .i64 c.m] 37)).alloc (.cells #[.int .i64 c.client, .int .i64 c.req, .int .i64 c.kind, .string c.queue, .int .i64 c.a.vis, .int .i64 c.a.ret, .int .i64 c.a.del, .int .i64 c.a.win, .int .i64 c.a.max, .string c.a.dead, .bool c.a.fifo, .string c.body, .string c.group, .string c.key, .string c.receipt, .slice B nb db, .int .i64 c.n, .int .i64 c.m] 37)).cell? ⟨w.heap.size + 1, 17, none⟩ = some (.int .i64 c.m) := blk_cell HP0.out.blk0 17
  go_enter Tryd.func18, Tryd.ntmps18
  go_wp2_with fail
  go_loopw [17] (fun i wr => ∃ j : Nat, i = .int .i64 j ∧ j ≤ nb ∧ Hp w wr [ABlk (w.heap.size + 1) (.cells #[.int .i64 c.client, .int .i64 c.req, .int .i64 c.kind, .string c.queue, .int .i64 c.a.vis, .int .i64 c.a.ret, .int .i64 c.a.del, .int .i64 c.a.win, .int .i64 c.a.max, .string c.a.dead, .bool c.a.fifo, .string c.body, .string c.group, .string c.key, .string c.receipt, .slice B nb db, .int .i64 c.n, .int .i64 c.m] 37 (0, 0)), ABlk w.heap.size (.cells #[.int .i64 c.client, .int .i64 c.req, .int .i64 c.kind, .string c.queue, .int .i64 c.a.vis, .int .i64 c.a.ret, .int .i64 c.a.del, .int .i64 c.a.win, .int .i64 c.a.max, .string c.a.dead, .bool c.a.fifo, .string c.body, .string c.group, .string c.key, .string c.receipt, .slice A nb cb, .int .i64 c.n, .int .i64 c.m] 37 (0, 0))]) (fun i _ => nb - (intOf i).toNat)
  case atStart => exact ⟨0, rfl, Nat.zero_le _, HP0.out⟩
  case round =>
    obtain ⟨j, rfl, hj, hQ⟩ := hrel
    have HQ := Lib.hid hQ
    clear hQ
    clear a0 b0
    clear a1 b1
    clear a2 b2
    clear a3 b3
    clear a4 b4
    clear a5 b5
    clear a6 b6
    clear a7 b7
    clear a8 b8
    clear a9 b9
    clear a10 b10
    clear a11 b11
    clear a12 b12
    clear a13 b13
    clear a14 b14
    clear a15 b15
    clear a16 b16
    clear a17 b17
    have a0 : wr.cell? ⟨w.heap.size, 0, none⟩ = some (.int .i64 c.client) := blk_cell HQ.out.blk1 0
    have b0 : wr.cell? ⟨w.heap.size + 1, 0, none⟩ = some (.int .i64 c.client) := blk_cell HQ.out.blk0 0
    have a1 : wr.cell? ⟨w.heap.size, 1, none⟩ = some (.int .i64 c.req) := blk_cell HQ.out.blk1 1
    have b1 : wr.cell? ⟨w.heap.size + 1, 1, none⟩ = some (.int .i64 c.req) := blk_cell HQ.out.blk0 1
    have a2 : wr.cell? ⟨w.heap.size, 2, none⟩ = some (.int .i64 c.kind) := blk_cell HQ.out.blk1 2
    have b2 : wr.cell? ⟨w.heap.size + 1, 2, none⟩ = some (.int .i64 c.kind) := blk_cell HQ.out.blk0 2
    have a3 : wr.cell? ⟨w.heap.size, 3, none⟩ = some (.string c.queue) := blk_cell HQ.out.blk1 3
    have b3 : wr.cell? ⟨w.heap.size + 1, 3, none⟩ = some (.string c.queue) := blk_cell HQ.out.blk0 3
    have a4 : wr.cell? ⟨w.heap.size, 4, none⟩ = some (.int .i64 c.a.vis) := blk_cell HQ.out.blk1 4
    have b4 : wr.cell? ⟨w.heap.size + 1, 4, none⟩ = some (.int .i64 c.a.vis) := blk_cell HQ.out.blk0 4
    have a5 : wr.cell? ⟨w.heap.size, 5, none⟩ = some (.int .i64 c.a.ret) := blk_cell HQ.out.blk1 5
    have b5 : wr.cell? ⟨w.heap.size + 1, 5, none⟩ = some (.int .i64 c.a.ret) := blk_cell HQ.out.blk0 5
    have a6 : wr.cell? ⟨w.heap.size, 6, none⟩ = some (.int .i64 c.a.del) := blk_cell HQ.out.blk1 6
    have b6 : wr.cell? ⟨w.heap.size + 1, 6, none⟩ = some (.int .i64 c.a.del) := blk_cell HQ.out.blk0 6
    have a7 : wr.cell? ⟨w.heap.size, 7, none⟩ = some (.int .i64 c.a.win) := blk_cell HQ.out.blk1 7
    have b7 : wr.cell? ⟨w.heap.size + 1, 7, none⟩ = some (.int .i64 c.a.win) := blk_cell HQ.out.blk0 7
    have a8 : wr.cell? ⟨w.heap.size, 8, none⟩ = some (.int .i64 c.a.max) := blk_cell HQ.out.blk1 8
    have b8 : wr.cell? ⟨w.heap.size + 1, 8, none⟩ = some (.int .i64 c.a.max) := blk_cell HQ.out.blk0 8
    have a9 : wr.cell? ⟨w.heap.size, 9, none⟩ = some (.string c.a.dead) := blk_cell HQ.out.blk1 9
    have b9 : wr.cell? ⟨w.heap.size + 1, 9, none⟩ = some (.string c.a.dead) := blk_cell HQ.out.blk0 9
    have a10 : wr.cell? ⟨w.heap.size, 10, none⟩ = some (.bool c.a.fifo) := blk_cell HQ.out.blk1 10
    have b10 : wr.cell? ⟨w.heap.size + 1, 10, none⟩ = some (.bool c.a.fifo) := blk_cell HQ.out.blk0 10
    have a11 : wr.cell? ⟨w.heap.size, 11, none⟩ = some (.string c.body) := blk_cell HQ.out.blk1 11
    have b11 : wr.cell? ⟨w.heap.size + 1, 11, none⟩ = some (.string c.body) := blk_cell HQ.out.blk0 11
    have a12 : wr.cell? ⟨w.heap.size, 12, none⟩ = some (.string c.group) := blk_cell HQ.out.blk1 12
    have b12 : wr.cell? ⟨w.heap.size + 1, 12, none⟩ = some (.string c.group) := blk_cell HQ.out.blk0 12
    have a13 : wr.cell? ⟨w.heap.size, 13, none⟩ = some (.string c.key) := blk_cell HQ.out.blk1 13
    have b13 : wr.cell? ⟨w.heap.size + 1, 13, none⟩ = some (.string c.key) := blk_cell HQ.out.blk0 13
    have a14 : wr.cell? ⟨w.heap.size, 14, none⟩ = some (.string c.receipt) := blk_cell HQ.out.blk1 14
    have b14 : wr.cell? ⟨w.heap.size + 1, 14, none⟩ = some (.string c.receipt) := blk_cell HQ.out.blk0 14
    have a15 : wr.cell? ⟨w.heap.size, 15, none⟩ = some (.slice A nb cb) := blk_cell HQ.out.blk1 15
    have b15 : wr.cell? ⟨w.heap.size + 1, 15, none⟩ = some (.slice B nb db) := blk_cell HQ.out.blk0 15
    have a16 : wr.cell? ⟨w.heap.size, 16, none⟩ = some (.int .i64 c.n) := blk_cell HQ.out.blk1 16
    have b16 : wr.cell? ⟨w.heap.size + 1, 16, none⟩ = some (.int .i64 c.n) := blk_cell HQ.out.blk0 16
    have a17 : wr.cell? ⟨w.heap.size, 17, none⟩ = some (.int .i64 c.m) := blk_cell HQ.out.blk1 17
    have b17 : wr.cell? ⟨w.heap.size + 1, 17, none⟩ = some (.int .i64 c.m) := blk_cell HQ.out.blk0 17
    by_cases hjn : j < nb
    case pos =>
      obtain ⟨ad, x, rfl, hx, d0⟩ := C_nth_scalar (Kd.C_below HC.out HQ.out.belowW) j hjn
      obtain ⟨ae, y, rfl, hy, e0⟩ := C_nth_scalar (Kd.C_below HD.out HQ.out.belowW) j hjn
      obtain rfl : x = y := Option.some.inj (hx.symm.trans hy)
      have i0 : (0 : Int) ≤ (j : Int) := by omega
      have i1 : (j : Int) < (nb : Int) := by omega
      clear hx hy
      go_wp2_with fail
      go_quiet (fail)
      go_wp2_with fail
      refine ⟨⟨j + 1, by simp, by omega, HQ.out.below (pw_below_drewN (Below.refl _ _) _)⟩, ?_⟩
      simp [intOf]
      omega
    case neg =>
      have i1 : ¬ (j : Int) < (nb : Int) := by omega
      go_wp2_with fail
      go_ret
      exact ⟨rfl, HQ.out.belowW⟩
end Go.Proofs.YtidjapjidihbpaaDoor
set_option linter.unusedVariables false
set_option linter.unusedSimpArgs false
namespace Go.Proofs.YtidjapjidihbpaaDoor
open Go.RowKit Go.Proofs.YtidjapjidihbpaaDoorW.PrintWords
theorem FaultV.below {w w' : World} {v : Value} {no : Int} (h : FaultV w v no) (hB : Below w.heap.size w w') : FaultV w' v no := by
  rcases h with h | ⟨h, fb, at_, h1, h2⟩
  · exact .inl h
  · exact .inr ⟨h, fb, at_, h1, (hB.block fb (Array.getElem?_eq_some_iff.1 h2).1).trans h2⟩
theorem encCmd_len {c : Cm} (h : cmRight c = true) : (encCmd c).length ≤ 10000 := by
  obtain ⟨h1, h2, h3, h4, h5⟩ := right_parts h
  have e1 := flat_le (f := encNum) (b := 9) (xs := c.nums (c.n + 1)) (fun y hy => encNum_len (by have := (h2 y hy).2; omega)) 10
  have e2 := flat_le (f := encText) (b := 265) (xs := c.texts) (fun y hy => encText_len (h3 y hy)) 6
  have e3 := flat_le (f := encText) (b := 265) (xs := c.bodies) (fun y hy => encText_len (h5 y hy)) c.bodies.length
  have l1 : (c.nums (c.n + 1)).length = 10 := rfl
  have l2 : c.texts.length = 6 := rfl
  rw [List.take_of_length_le (by omega)] at e1 e2 e3
  have e4 := encNum_len (v := encFifo c.a) (by unfold encFifo; split <;> decide)
  have e5 := encNum_len (v := (c.bodies.length : Int)) (by omega)
  unfold encCmd encMid encHead
  simp only [List.length_append]
  omega
/-- Bytes in a block of their own. -/
theorem Hp.byteBlk {w0 w : World} {Ps : List Asn} {g : Nat} {xs : List Int} {cs : Array Value} (hcs : cs.toList = xs.map (Value.int .u8)) (hm : xs.length ≤ 1000000) (h : Hp w0 w (ABlk g (.cells cs 5 (0, 0)) :: Ps)) : Hp w0 w (ABy (.slice (some ⟨g, 0, none⟩) xs.length xs.length) xs :: Ps) := by
  obtain ⟨S1, h1, h2⟩ := h.use1
  have hl : cs.size = xs.length := by rw [← Array.length_toList, hcs, List.length_map]
  refine h2 w (ABy (.slice (some ⟨g, 0, none⟩) xs.length xs.length) xs) (Keep.refl _ _) (Kd.R_of_own ⟨by simp [encs], .inr ⟨g, xs.length, cs, rfl, Nat.zero_le _, h1.2, Nat.le_refl _, by simp only [maxLen]; omega, by omega, by rw [hcs]; simp only [encs, Nat.mul_one]; exact List.take_of_length_le (by simp)⟩⟩ (fun b hb => ?_))
  have : g = b := by simpa [Value.ownBlock] using hb
  exact .inl (this ▸ h1.1)
theorem u8_in {x : Int} (h : (Lit.int .u8 x).wf = true) : 0 ≤ x ∧ x < 256 := by
  simp [Lit.wf] at h
  have h1 : IntKind.u8.min = 0 := by decide
  have h2 : IntKind.u8.max = 255 := by decide
  omega
end Go.Proofs.YtidjapjidihbpaaDoor
