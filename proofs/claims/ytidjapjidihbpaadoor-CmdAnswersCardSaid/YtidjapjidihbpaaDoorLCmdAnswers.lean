/- CmdAnswers: an answer is written as the document writes it, and read back. -/
import Derived.Test.YtidjapjidihbpaaDoorK12
import Derived.Test.YtidjapjidihbpaaDoorK7
import Derived.Test.YtidjapjidihbpaaDoorK14
import Derived.Test.YtidjapjidihbpaaDoorK9
import Derived.Laws.Tables
set_option linter.unusedVariables false
set_option linter.unusedSimpArgs false
namespace Go.Proofs.YtidjapjidihbpaaDoor
open Go.RowKit Go.Proofs.YtidjapjidihbpaaDoorW.PrintWords
theorem encAns_len {a : An} (h : anRight a = true) : (encAns a).length ≤ 9000 := by
  have h1 := (encAns0_len h).1
  obtain ⟨_, _, h3, _, h5⟩ := an_parts h
  have h2 := flat_le (f := encTook) (b := 813) (xs := a.took) (fun x hx => encTook_len (h5 x hx)) a.took.length
  rw [List.take_length] at h2
  rw [encAns_at, List.length_append]
  omega
theorem encAns_pos (a : An) : 0 < (encAns a).length := by
  have : 0 < (encNum a.code).length := by
    unfold encNum
    rw [encNat]
    split <;> simp
  unfold encAns
  simp only [List.length_append]
  omega
set_option maxHeartbeats 8000000 in
set_option maxRecDepth 100000 in
theorem answers_law (a : An) (A : Option Addr) (n c : Nat) (B : Option Addr) (m d : Nat) (w : World) (hC : (Kd.int .i64).C w A n a.ids) (hD : KTk.C w B m a.took) (hg : w.cell? ⟨0, 0, none⟩ = some (.iface 154 (.agg #[.pointer (some ⟨1, 32, none⟩)]))) :
    Calls Tryd.prog 7 #[.agg #[.int .i64 a.code, .slice A n c, .slice B m d]] w fun e w' => e = .returned (.bool true) ∧ Below w.heap.size w w' := by
  have HC := Lib.hid hC
  have HD := Lib.hid hD
  have HG := Lib.hid hg
  have HNB := Lib.hid (Kd.C_len hC)
  have HMB := Lib.hid (Kd.C_len hD)
  have hmx := Kd.C_max hC
  have hmy := Kd.C_max hD
  clear hC hD hg
  have HP0 := Lib.hid ((Hp.nil w).alloc (.cells #[.int .i64 a.code, .slice A n c, .slice B m d] 56))
  obtain ⟨x0, x1, x2, _⟩ := blk3c (by exact HP0.out.blk0)
  by_cases hn : 30 < n
  case pos =>
    have i1 : (30 : Int) < (n : Int) := by omega
    go_enter Tryd.func7, Tryd.ntmps7
    go_wp2_with fail
    refine Calls.mono (awake_any _) ?_
    rintro e wz ⟨rfl, hBz⟩
    have HBZ := Lib.hid hBz
    clear hBz
    go_wp2_with fail
    go_ret
    exact ⟨rfl, HP0.out.belowW.trans (HBZ.out.mono HP0.out.belowW.size)⟩
  case neg =>
  have i1 : ¬ (30 : Int) < (n : Int) := by omega
  by_cases hm : 30 < m
  case pos =>
    have i2 : (30 : Int) < (m : Int) := by omega
    go_enter Tryd.func7, Tryd.ntmps7
    go_wp2_with fail
    refine Calls.mono (awake_any _) ?_
    rintro e wz ⟨rfl, hBz⟩
    have HBZ := Lib.hid hBz
    clear hBz
    go_wp2_with fail
    go_ret
    exact ⟨rfl, HP0.out.belowW.trans (HBZ.out.mono HP0.out.belowW.size)⟩
  case neg =>
  have i2 : ¬ (30 : Int) < (m : Int) := by omega
  go_enter Tryd.func7, Tryd.ntmps7
  go_wp2_with fail
  clear x0 x1 x2 i1 i2
  go_loopw [25] (fun i wr => ∃ j : Nat, i = .int .i64 j ∧ j ≤ m ∧ Hp w wr [ABlk w.heap.size (.cells #[.int .i64 a.code, .slice A n c, .slice B m d] 56 (0, 0))]) (fun i _ => m - (intOf i).toNat)
  case atStart => exact ⟨0, rfl, Nat.zero_le _, HP0.out⟩
  case round =>
    obtain ⟨j, rfl, hj, hQ⟩ := hrel
    have HQ := Lib.hid hQ
    obtain ⟨x0, x1, x2, _⟩ := blk3c (by exact hQ.blk0)
    clear hQ
    by_cases hjm : j < m
    case pos =>
      have k0 : (0 : Int) ≤ (j : Int) := by omega
      have k1 : (j : Int) < (m : Int) := by omega
      clear x0 x1 x2
      obtain ⟨adr, ⟨x0, x1, x2, x3, x4⟩, rfl, hx, d0, d1, d2, d3, d4⟩ := C_nth_tk (Kd.C_below HD.out HQ.out.belowW) j hjm
      dsimp only at d0 d1 d2 d3 d4
      have HXA := Lib.hid (HQ.out.alloc (.cells #[.int .i64 x0, .int .i64 x1, .string x2, .string x3, .string x4] 68))
      clear hx
      go_upto_region 6 with (fail)
      clear d0 d1 d2 d3 d4
      obtain ⟨g0, g1, g2, g3, g4⟩ := blk5 HXA.out.blk0
      by_cases hb : 3000 < wrap64 (wrap64 ((x2.size : Int) + (x3.size : Int)) + (x4.size : Int))
      case pos =>
        go_wp2_with fail
        refine Calls.mono (awake_any _) ?_
        rintro e wz ⟨rfl, hBz⟩
        have HBZ := Lib.hid hBz
        clear hBz
        go_wp2_with fail
        go_ret
        exact ⟨rfl, HXA.out.belowW.trans (HBZ.out.mono HXA.out.belowW.size)⟩
      case neg =>
        go_wp2_with fail
        refine ⟨⟨j + 1, by simp, by omega, HXA.out.tail⟩, ?_⟩
        simp [intOf]
        omega
    case neg =>
    have k1 : ¬ (j : Int) < (m : Int) := by omega
    have HW := Lib.hid (writeA_any a A n c B m d wr (Kd.C_below HC.out HQ.out.belowW) (Kd.C_below HD.out HQ.out.belowW))
    obtain ⟨R, hR⟩ : ∃ R, R = anRight a := ⟨_, rfl⟩
    rw [← hR] at HW
    have HR := Lib.hid hR
    unfold anCells at HW
    clear hR
    go_wp2_with fail
    refine Calls.mono HW.out ?_
    rintro e w2 ⟨hw1, hw2, hB⟩
    have HP2 := Lib.hid (HQ.out.below hB)
    clear x0 x1 x2
    obtain ⟨x0, x1, x2, _⟩ := blk3c (by exact HP2.out.blk0)
    have HCR := Lib.hid (fun W (h : Below w.heap.size w W) => rightA_any a A n c B m d W (Kd.C_below HC.out h) (Kd.C_below HD.out h))
    rw [← HR.out] at HCR
    unfold anCells at HCR
    have HLA := Lib.hid (lawAns_any a A n c B m d w2 (Kd.C_below HD.out HP2.out.belowW) (by omega))
    cases R
    case false =>
      obtain ⟨fb, rfl, _, hfb⟩ := hw2 rfl
      have HFB := Lib.hid (show FaultV w2 (.iface 121 (.pointer (some ⟨fb, 0, none⟩))) 1 from .inr ⟨by decide, fb, 0, rfl, hfb⟩)
      clear hw1 hw2 hB hfb
      go_wp2_with fail
      refine Calls.mono HLA.out ?_
      rintro e w3 ⟨B2, d2, rfl, hP⟩
      have HP3 := Lib.hid (HP2.out.fresh hP.belowW hP.head)
      have HF3 := Lib.hid (HFB.out.below hP.belowW)
      have HQ4 := Lib.hid ((Hp.nil w3).alloc (.cells #[.int .i64 0, .slice none 0 0, .slice none 0 0] 61))
      have HQ5 := Lib.hid (HQ4.out.setRowBlk #[.int .i64 a.code, .slice A n c, .slice B2 m d2])
      clear hP x0 x1 x2
      go_wp2_with ((with_reducible refine gate_store (t := 61) (p := 7) (v := .tmp 49) rfl ?_); refine wpList_store_row rfl 61 (.tmp 7) (.tmp 49) rfl w3.heap.size #[.int .i64 a.code, .slice A n c, .slice B2 m d2] rfl rfl 61 #[.int .i64 0, .slice none 0 0, .slice none 0 0] HQ4.out.blk0 info_rans rfl (by simp [Value.oneCell']) ?_; generalize (w3.alloc (.cells #[.int .i64 0, .slice none 0 0, .slice none 0 0] 61)).setRow w3.heap.size #[.int .i64 a.code, .slice A n c, .slice B2 m d2] = W5 at *; have HP5 := Lib.hid (HP3.out.fresh HQ5.out.belowW HQ5.out.head); obtain ⟨y0, y1, y2, _⟩ := blk3c (by exact HP5.out.blk0))
      have hct := Kd.R_reads' HP5.out.tail.head
      have hct2 : KTk.C W5 B2 m a.took := by have h := hct.2.2; rw [← hct.1] at h; exact h
      have HRR := Lib.hid (refRightA_any a A n c B2 m d2 W5 (Kd.C_below HC.out HP5.out.belowW) hct2)
      rw [← HR.out] at HRR
      clear hct hct2
      refine Calls.mono HRR.out ?_
      rintro e w6 ⟨rfl, hB6⟩
      have HP6 := Lib.hid (HP5.out.below hB6)
      have HF6 := Lib.hid ((HF3.out.below HQ5.out.belowW).below hB6)
      clear hB6 y0 y1 y2
      obtain ⟨x0, x1, x2, _⟩ := blk3c (by exact HP6.out.blk2)
      go_wp2_with fail
      refine Calls.mono (HCR.out w6 HP6.out.belowW) ?_
      rintro e w7 ⟨rfl, hB7⟩
      have HP7 := Lib.hid (HP6.out.below hB7)
      have HF7 := Lib.hid (HF6.out.below hB7)
      clear hB7 x0 x1 x2
      go_wp2_with fail
      refine Calls.mono (code_any (below_cell HP7.out.belowW HG.out) HF7.out) ?_
      rintro e w8 ⟨rfl, hB8⟩
      have HP8 := Lib.hid (HP7.out.below hB8)
      clear hB8
      go_wp2_with fail
      refine Calls.mono (awake_any _) ?_
      rintro e wz ⟨rfl, hBz⟩
      have HBZ := Lib.hid hBz
      clear hBz
      go_wp2_with fail
      go_ret
      exact ⟨rfl, HP8.out.belowW.trans (HBZ.out.mono HP8.out.belowW.size)⟩
    case true =>
    obtain ⟨A0, n0, c0, rfl, hRd⟩ := hw1 rfl
    have HRD := Lib.hid hRd
    have HN := Lib.hid hRd.len
    have hlen := encAns_len HR.out.symm
    rw [← HN.out] at hlen
    have hpos := encAns_pos a
    rw [← HN.out] at hpos
    clear hw1 hw2 hB hRd
    go_wp2_with fail
    refine Calls.mono HLA.out ?_
    rintro e w3 ⟨B2, d2, rfl, hP⟩
    have HP3 := Lib.hid (HP2.out.fresh hP.belowW hP.head)
    have HR3 := Lib.hid (HRD.out.below hP.belowW)
    have HQ4 := Lib.hid ((Hp.nil w3).alloc (.cells #[.int .i64 0, .slice none 0 0, .slice none 0 0] 61))
    have HQ5 := Lib.hid (HQ4.out.setRowBlk #[.int .i64 a.code, .slice A n c, .slice B2 m d2])
    clear hP x0 x1 x2
    go_wp2_with ((with_reducible refine gate_store (t := 61) (p := 7) (v := .tmp 49) rfl ?_); refine wpList_store_row rfl 61 (.tmp 7) (.tmp 49) rfl w3.heap.size #[.int .i64 a.code, .slice A n c, .slice B2 m d2] rfl rfl 61 #[.int .i64 0, .slice none 0 0, .slice none 0 0] HQ4.out.blk0 info_rans rfl (by simp [Value.oneCell']) ?_; generalize (w3.alloc (.cells #[.int .i64 0, .slice none 0 0, .slice none 0 0] 61)).setRow w3.heap.size #[.int .i64 a.code, .slice A n c, .slice B2 m d2] = W5 at *; have HP5 := Lib.hid (HP3.out.fresh HQ5.out.belowW HQ5.out.head); obtain ⟨y0, y1, y2, _⟩ := blk3c (by exact HP5.out.blk0))
    have hct := Kd.R_reads' HP5.out.tail.head
    have hct2 : KTk.C W5 B2 m a.took := by have h := hct.2.2; rw [← hct.1] at h; exact h
    have HCT := Lib.hid hct2
    have HRR := Lib.hid (refRightA_any a A n c B2 m d2 W5 (Kd.C_below HC.out HP5.out.belowW) hct2)
    rw [← HR.out] at HRR
    clear hct hct2
    refine Calls.mono HRR.out ?_
    rintro e w6 ⟨rfl, hB6⟩
    have HP6 := Lib.hid (HP5.out.below hB6)
    have HCT6 := Lib.hid (Kd.C_below HCT.out hB6)
    have HR6 := Lib.hid ((HR3.out.below HQ5.out.belowW).below hB6)
    clear hB6 y0 y1 y2
    obtain ⟨x0, x1, x2, _⟩ := blk3c (by exact HP6.out.blk2)
    go_wp2_with fail
    refine Calls.mono (HCR.out w6 HP6.out.belowW) ?_
    rintro e w7 ⟨rfl, hB7⟩
    have HP7 := Lib.hid (HP6.out.below hB7)
    have HCT7 := Lib.hid (Kd.C_below HCT6.out hB7)
    have HR7 := Lib.hid (HR6.out.below hB7)
    have hrd := readAns_any A0 n0 c0 (encAns a) w7 HR7.out (by omega) (encAns_ok a)
    rw [readA_enc HR.out.symm] at hrd
    have HRC := Lib.hid hrd
    clear hB7 x0 x1 x2 hrd
    go_wp2_with fail
    refine Calls.mono HRC.out ?_
    rintro e w8 ⟨A9, n9, d9, B9, m9, e9, ev, rfl, hc1, _, hc2, _, hFV, hB8⟩
    obtain rfl : ev = .nilIface := by
      rcases hFV with ⟨_, h⟩ | ⟨h, _⟩
      · exact h
      · exact absurd rfl h
    obtain rfl : n9 = n := (Kd.C_len hc1).symm.trans HNB.out
    obtain rfl : m9 = m := (Kd.C_len hc2).symm.trans HMB.out
    unfold anCells
    have HC9 := Lib.hid hc1
    have HD9 := Lib.hid hc2
    have HP8 := Lib.hid (HP7.out.below hB8)
    have HR8 := Lib.hid (HR7.out.below hB8)
    have HCT8 := Lib.hid (Kd.C_below HCT7.out hB8)
    have HQ8 := Lib.hid ((Hp.nil w8).alloc (.cells #[.int .i64 0, .slice none 0 0, .slice none 0 0] 56))
    have HQ9 := Lib.hid (HQ8.out.setRowBlk #[.int .i64 a.code, .slice A9 n9 d9, .slice B9 m9 e9])
    clear hc1 hc2 hFV hB8
    go_wp2_with (first | ((with_reducible refine gate_store (t := 56) (p := 9) (v := .tmp 72) rfl ?_); refine wpList_store_row rfl 56 (.tmp 9) (.tmp 72) rfl w8.heap.size #[.int .i64 a.code, .slice A9 n9 d9, .slice B9 m9 e9] rfl rfl 56 #[.int .i64 0, .slice none 0 0, .slice none 0 0] HQ8.out.blk0 info_ans rfl (by simp [Value.oneCell']) ?_; generalize (w8.alloc (.cells #[.int .i64 0, .slice none 0 0, .slice none 0 0] 56)).setRow w8.heap.size #[.int .i64 a.code, .slice A9 n9 d9, .slice B9 m9 e9] = W9 at *; have HP9 := Lib.hid (HP8.out.fresh HQ9.out.belowW HQ9.out.head); obtain ⟨x0, x1, x2, _⟩ := blk3c (by exact HP9.out.blk3); obtain ⟨y0, y1, y2, _⟩ := blk3c (by exact HP9.out.blk1); obtain ⟨z0, z1, z2, _⟩ := blk3c (by exact HP9.out.blk0); have HWA := Lib.hid (refWriteA_any a A n9 c B2 m9 d2 W9 HR.out.symm (Kd.C_below HC.out HP9.out.belowW) (Kd.C_below HCT8.out HQ9.out.belowW))) | (go_at_call 25; refine Calls.mono HWA.out ?_; rintro e we ⟨A7, n7, c7, rfl, hP⟩; have HPe := Lib.hid (HP9.out.below hP.belowW); clear x0 x1 x2 y0 y1 y2 z0 z1 z2; obtain ⟨x0, x1, x2, _⟩ := blk3c (by exact HPe.out.blk3); obtain ⟨z0, z1, z2, _⟩ := blk3c (by exact HPe.out.blk0); have heq := eqBytes_any (encAns_ok a) (encAns_ok a) ((HR8.out.below HQ9.out.belowW).below hP.belowW) (Rd.of hP.head); rw [decide_eq_true rfl] at heq; have HEQ := Lib.hid heq; have HSM := Lib.hid (same_one a A n9 c B m9 d A9 d9 B9 e9 we (Kd.C_below HC.out HPe.out.belowW) (Kd.C_below HD.out HPe.out.belowW) (Kd.C_below HC9.out (HQ9.out.below hP.belowW).belowW) (Kd.C_below HD9.out (HQ9.out.below hP.belowW).belowW)); clear hP heq) | (go_at_call 16; refine Calls.mono HEQ.out ?_; rintro e wf ⟨rfl, rfl⟩) | (go_at_call 29; refine Calls.mono HSM.out ?_; rintro e wg ⟨rfl, hB⟩; have HPg := Lib.hid (HPe.out.below hB); clear hB) | (go_at_call 9; refine Calls.mono (awake_any _) ?_; rintro e wz ⟨rfl, hBz⟩; have HPz := Lib.hid (HPg.out.below hBz); clear hBz))
    go_ret
    exact ⟨rfl, HPz.out.belowW⟩
def KAns := Kd.pair (Kd.int .i64) (Kd.pair (Kd.slice 3 (Kd.int .i64)) (Kd.slice 68 KTk))
set_option maxRecDepth 100000 in
theorem opens_took : Opens Tryd.prog 68 KTk (fun _ => True) :=
  opens_ok (opens_struct Tryd.underlying68 (by kernel_rfl) (Fields.cons (opens_int (k := .i64) Tryd.underlying3 (by kernel_rfl)) rfl (Fields.cons (opens_int (k := .i64) Tryd.underlying3 (by kernel_rfl)) rfl (Fields.cons (opens_string Tryd.underlying9 (by kernel_rfl)) rfl (Fields.cons (opens_string Tryd.underlying9 (by kernel_rfl)) rfl (Fields.last (opens_string Tryd.underlying9 (by kernel_rfl)) rfl) rfl) rfl) rfl) rfl))
set_option maxRecDepth 100000 in
theorem opens_ans : Opens Tryd.prog 56 KAns (fun _ => True) :=
  opens_ok (opens_struct Tryd.underlying56 (by kernel_rfl) (Fields.cons (opens_int (k := .i64) Tryd.underlying3 (by kernel_rfl)) rfl (Fields.cons (opens_slice Tryd.underlying53 (by kernel_rfl) (opens_int (k := .i64) Tryd.underlying3 (by kernel_rfl))) rfl (Fields.last (opens_slice Tryd.underlying54 (by kernel_rfl) opens_took) rfl) rfl) rfl))
/-- An answer handed over. -/
theorem arg_ans {H : Type} {enc : TypeId × Value → H} {w : World} {held : Bool} {cs : Array Value} {y : DataW H} {ps : List MemPlace} (h : DataW.Trod enc Tryd.prog w 0 (fun _ => true) held 56 (.agg cs) y ps) :
    ∃ (a : An) (A : Option Addr) (n c : Nat) (B : Option Addr) (m d : Nat), cs = #[.int .i64 a.code, .slice A n c, .slice B m d] ∧ (Kd.int .i64).C w A n a.ids ∧ KTk.C w B m a.took := by
  obtain ⟨fuel, hf⟩ := h
  obtain ⟨x, ⟨c0, d0, e, h0, c1, d1, rfl, h1, h2⟩, _⟩ := opens_ans.get hf
  have h0 : c0 = [.int .i64 x.1] := h0
  obtain ⟨A, c, h1, _, hC⟩ := h1
  obtain ⟨B, d, h2, _, hD⟩ := h2
  subst h0 h1 h2
  exact ⟨⟨x.1, x.2.1, x.2.2⟩, A, _, c, B, _, d, (agg_of e).trans (by simp), hC, hD⟩
end Go.Proofs.YtidjapjidihbpaaDoor
