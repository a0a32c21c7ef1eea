/- Put together: law10.awake. · law09.Few of one command: that it answers. -/
import Derived.Test.YtidjapjidihbpaaDoorK6
import Derived.Test.YtidjapjidihbpaaDoorK2
set_option linter.unusedVariables false
set_option linter.unusedSimpArgs false
set_option linter.unusedVariables false
set_option linter.unusedSimpArgs false
namespace Go.Proofs.YtidjapjidihbpaaDoor
open Go.RowKit Go.Proofs.YtidjapjidihbpaaDoorW.PrintWords
/-- The command that only asks for the time. -/
def Cm.five : Cm := ⟨0, 0, 0, ⟨#[]⟩, ⟨0, 0, 0, 0, 0, ⟨#[]⟩, false⟩, ⟨#[]⟩, ⟨#[]⟩, ⟨#[]⟩, ⟨#[]⟩, [], 5, 0⟩
def An.six : An := ⟨6, [], []⟩
theorem five_right : cmRight Cm.five = true := by decide +kernel
theorem six_right : anRight An.six = true := by decide +kernel
theorem encNat_lit {n : Nat} (h : n < 128) : encNum (n : Int) = [(n : Int)] := by
  unfold encNum
  rw [Int.toNat_natCast, encNat_small h]
theorem five_enc : encCmd Cm.five = [0, 0, 0, 6, 0, 0, 0, 0, 0, 0, 0, 0, 0, 0, 0, 0, 0, 0] := by
  have e0 := encNat_lit (n := 0) (by decide)
  have e6 := encNat_lit (n := 6) (by decide)
  have t0 : encText ⟨#[]⟩ = [0] := by
    show encNum ((0 : Nat) : Int) ++ [] = [0]
    rw [e0]; rfl
  have e0' : encNum 0 = [0] := e0
  have e6' : encNum 6 = [6] := e6
  show ([0, 0, 0, 6, 0, 0, 0, 0, 0, 0].map encNum).flatten ++ encNum 0 ++ ([⟨#[]⟩, ⟨#[]⟩, ⟨#[]⟩, ⟨#[]⟩, ⟨#[]⟩, ⟨#[]⟩].map encText).flatten ++ encNum 0 ++ (([] : List ByteArray).map encText).flatten = _
  simp [e0', e6', t0]
theorem six_enc : encAns An.six = [6, 0, 0] := by
  have e0 := encNat_lit (n := 0) (by decide)
  have e6 := encNat_lit (n := 6) (by decide)
  have e0' : encNum 0 = [0] := e0
  have e6' : encNum 6 = [6] := e6
  show encNum 6 ++ encNum 0 ++ (([] : List Int).map encNum).flatten ++ encNum 0 ++ (([] : List Tk).map encTook).flatten = _
  simp [e0', e6']
theorem five_write (w : World) : Calls Tryd.prog 10 #[.agg #[.int .i64 0, .int .i64 0, .int .i64 0, .string ⟨#[]⟩, .int .i64 0, .int .i64 0, .int .i64 0, .int .i64 0, .int .i64 0, .string ⟨#[]⟩, .bool false, .string ⟨#[]⟩, .string ⟨#[]⟩, .string ⟨#[]⟩, .string ⟨#[]⟩, .slice none 0 0, .int .i64 5, .int .i64 0]] w fun e w' => ∃ A n c, e = .returned (.tuple #[.slice A n c, .nilIface]) ∧ Rd w' A n c (encCmd Cm.five) ∧ Below w.heap.size w w' := by
  refine Calls.mono (write_any Cm.five none 0 0 w (Kd.C_nil _ _)) ?_
  rintro e w' ⟨h1, _, h3⟩
  obtain ⟨A, n, c, h4, h5⟩ := h1 five_right
  exact ⟨A, n, c, h4, h5, h3⟩
theorem six_write (w : World) : Calls Tryd.prog 26 #[.agg #[.int .i64 6, .slice none 0 0, .slice none 0 0]] w fun e w' => ∃ A n c, e = .returned (.tuple #[.slice A n c, .nilIface]) ∧ Rd w' A n c (encAns An.six) ∧ Below w.heap.size w w' := by
  refine Calls.mono (writeA_any An.six none 0 0 none 0 0 w (Kd.C_nil _ _) (Kd.C_nil _ _)) ?_
  rintro e w' ⟨h1, _, h3⟩
  obtain ⟨A, n, c, h4, h5⟩ := h1 six_right
  exact ⟨A, n, c, h4, h5, h3⟩
theorem five_read {A : Option Addr} {n c : Nat} {w : World} (hA : Rd w A n c (encCmd Cm.five)) : Calls Tryd.prog 15 #[.slice A n c] w fun e w' => ∃ B m d, e = .returned (.tuple #[.agg #[.int .i64 0, .int .i64 0, .int .i64 0, .string ⟨#[]⟩, .int .i64 0, .int .i64 0, .int .i64 0, .int .i64 0, .int .i64 0, .string ⟨#[]⟩, .bool false, .string ⟨#[]⟩, .string ⟨#[]⟩, .string ⟨#[]⟩, .string ⟨#[]⟩, .slice B m d, .int .i64 5, .int .i64 0], .nilIface]) ∧ Below w.heap.size w w' := by
  have hl : n = 18 := by rw [hA.len, five_enc]; rfl
  refine Calls.mono (readCmd_any A n c (encCmd Cm.five) w hA (by omega) (encCmd_ok _)) ?_
  rw [read_enc five_right]
  rintro e w' ⟨B, m, d, ev, rfl, _, _, hF, hB⟩
  rcases hF with ⟨_, rfl⟩ | ⟨h, _⟩
  · exact ⟨B, m, d, rfl, hB⟩
  · exact absurd rfl h
theorem eq_lit {W : World} {A : Option Addr} {n c g k : Nat} {xs : List Int} (hR : Rd W A n c xs) (hx : ByOk xs) {cs : Array Value} (hg : W.heap[g]? = some (.cells cs 5 (0, 0))) (hcs : cs.toList = xs.map (Value.int .u8)) (hk : xs.length = k) (hm : k ≤ 1000000) :
    Calls Tryd.prog 16 #[.slice A n c, .slice (some ⟨g, 0, none⟩) k k] W fun e w' => e = .returned (.bool true) ∧ W = w' := by
  have h2 : Rd W (some ⟨g, 0, none⟩) k k xs := ⟨by rw [← hk]; exact C_block hg xs hcs (by omega), Nat.le_refl _⟩
  have h := eqBytes_any hx hx hR h2
  rwa [decide_eq_true rfl] at h
set_option maxHeartbeats 1600000 in
set_option maxRecDepth 100000 in
theorem awake_any (w : World) : Calls Tryd.prog 9 #[] w fun e w' => e = .returned (.bool true) ∧ Below w.heap.size w w' := by
  go_enter Tryd.func9, Tryd.ntmps9
  go_wp2_with fail
  refine Calls.mono (five_write w) ?_
  rintro e w1 ⟨A, n, c, rfl, hR, hB⟩
  have HR1 := Lib.hid hR
  have HB1 := Lib.hid hB
  clear hR hB
  go_wp2_with fail
  refine Calls.mono (five_read HR1.out) ?_
  rintro e w2 ⟨B, m, d, rfl, hB⟩
  have HP2 := Lib.hid ((Hp.of hB).alloc (.cells #[.int .i64 0, .int .i64 0, .int .i64 0, .string ⟨#[]⟩, .int .i64 0, .int .i64 0, .int .i64 0, .int .i64 0, .int .i64 0, .string ⟨#[]⟩, .bool false, .string ⟨#[]⟩, .string ⟨#[]⟩, .string ⟨#[]⟩, .string ⟨#[]⟩, .slice none 0 0, .int .i64 0, .int .i64 0] 26))
  clear hB
  have HP3 := Lib.hid (HP2.out.setRowBlk #[.int .i64 0, .int .i64 0, .int .i64 0, .string ⟨#[]⟩, .int .i64 0, .int .i64 0, .int .i64 0, .int .i64 0, .int .i64 0, .string ⟨#[]⟩, .bool false, .string ⟨#[]⟩, .string ⟨#[]⟩, .string ⟨#[]⟩, .string ⟨#[]⟩, .slice B m d, .int .i64 5, .int .i64 0])
  go_wp2_with ((with_reducible refine gate_store (t := 26) (p := 3) (v := .tmp 15) rfl ?_); refine wpList_store_row rfl 26 (.tmp 3) (.tmp 15) rfl w2.heap.size #[.int .i64 0, .int .i64 0, .int .i64 0, .string ⟨#[]⟩, .int .i64 0, .int .i64 0, .int .i64 0, .int .i64 0, .int .i64 0, .string ⟨#[]⟩, .bool false, .string ⟨#[]⟩, .string ⟨#[]⟩, .string ⟨#[]⟩, .string ⟨#[]⟩, .slice B m d, .int .i64 5, .int .i64 0] rfl rfl 26 #[.int .i64 0, .int .i64 0, .int .i64 0, .string ⟨#[]⟩, .int .i64 0, .int .i64 0, .int .i64 0, .int .i64 0, .int .i64 0, .string ⟨#[]⟩, .bool false, .string ⟨#[]⟩, .string ⟨#[]⟩, .string ⟨#[]⟩, .string ⟨#[]⟩, .slice none 0 0, .int .i64 0, .int .i64 0] HP2.out.blk0 info_cmd rfl (by simp [Value.oneCell']) ?_; generalize (w2.alloc (.cells #[.int .i64 0, .int .i64 0, .int .i64 0, .string ⟨#[]⟩, .int .i64 0, .int .i64 0, .int .i64 0, .int .i64 0, .int .i64 0, .string ⟨#[]⟩, .bool false, .string ⟨#[]⟩, .string ⟨#[]⟩, .string ⟨#[]⟩, .string ⟨#[]⟩, .slice none 0 0, .int .i64 0, .int .i64 0] 26)).setRow w2.heap.size #[.int .i64 0, .int .i64 0, .int .i64 0, .string ⟨#[]⟩, .int .i64 0, .int .i64 0, .int .i64 0, .int .i64 0, .int .i64 0, .string ⟨#[]⟩, .bool false, .string ⟨#[]⟩, .string ⟨#[]⟩, .string ⟨#[]⟩, .string ⟨#[]⟩, .slice B m d, .int .i64 5, .int .i64 0] = W3 at *)
  refine Calls.mono (six_write W3) ?_
  rintro e w4 ⟨A4, n4, c4, rfl, hR, hB⟩
  have HP4 := Lib.hid (HP3.out.below hB)
  have HR4 := Lib.hid hR
  have HQ4 := Lib.hid (((Hp.nil w4).alloc (.cells #[.int .u8 0, .int .u8 0, .int .u8 0, .int .u8 6, .int .u8 0, .int .u8 0, .int .u8 0, .int .u8 0, .int .u8 0, .int .u8 0, .int .u8 0, .int .u8 0, .int .u8 0, .int .u8 0, .int .u8 0, .int .u8 0, .int .u8 0, .int .u8 0] 5)).alloc (.cells #[.int .u8 6, .int .u8 0, .int .u8 0] 5))
  have HQ3 := Lib.hid ((Hp.nil w4).alloc (.cells #[.int .u8 0, .int .u8 0, .int .u8 0, .int .u8 6, .int .u8 0, .int .u8 0, .int .u8 0, .int .u8 0, .int .u8 0, .int .u8 0, .int .u8 0, .int .u8 0, .int .u8 0, .int .u8 0, .int .u8 0, .int .u8 0, .int .u8 0, .int .u8 0] 5))
  have hz : (w4.alloc (.cells #[.int .u8 0, .int .u8 0, .int .u8 0, .int .u8 6, .int .u8 0, .int .u8 0, .int .u8 0, .int .u8 0, .int .u8 0, .int .u8 0, .int .u8 0, .int .u8 0, .int .u8 0, .int .u8 0, .int .u8 0, .int .u8 0, .int .u8 0, .int .u8 0] 5)).heap.size = w4.heap.size + 1 := by simp
  rw [hz] at HQ4
  have HP5 := Lib.hid ((HP4.out.alloc (.cells #[.int .u8 0, .int .u8 0, .int .u8 0, .int .u8 6, .int .u8 0, .int .u8 0, .int .u8 0, .int .u8 0, .int .u8 0, .int .u8 0, .int .u8 0, .int .u8 0, .int .u8 0, .int .u8 0, .int .u8 0, .int .u8 0, .int .u8 0, .int .u8 0] 5)).tail)
  have HP6 := Lib.hid ((HP5.out.alloc (.cells #[.int .u8 6, .int .u8 0, .int .u8 0] 5)).tail)
  have HE1 := Lib.hid (eq_lit (k := 18) (HR1.out.below HP5.out.belowW) (encCmd_ok _) HQ3.out.blk0 (by rw [five_enc]; rfl) (by rw [five_enc]; rfl) (by decide))
  have HE2 := Lib.hid (eq_lit (k := 3) (HR4.out.below HQ4.out.belowW) (encAns_ok _) HQ4.out.blk0 (by rw [six_enc]; rfl) (by rw [six_enc]; rfl) (by decide))
  have c16 := blk_cell HP5.out.blk0 16
  clear hR hB hz
  go_wp2_with (go_at_call 16; first | (refine Calls.mono HE1.out ?_; rintro e w7 ⟨rfl, rfl⟩) | (refine Calls.mono HE2.out ?_; rintro e w7 ⟨rfl, rfl⟩))
  go_ret
  exact ⟨rfl, HB1.out.trans (HP6.out.belowW.mono HB1.out.size)⟩
end Go.Proofs.YtidjapjidihbpaaDoor
set_option linter.unusedVariables false
set_option linter.unusedSimpArgs false
namespace Go.Proofs.YtidjapjidihbpaaDoor
open Go.RowKit Go.Proofs.YtidjapjidihbpaaDoorW.PrintWords
set_option maxHeartbeats 1600000 in
set_option maxRecDepth 100000 in
theorem few_one (c : Cm) (A : Option Addr) (nb cb : Nat) (n : Int) (g : Nat) (w : World) (hg : w.heap[g]? = some (.cells (c.cells (.slice A nb cb) n) 26 (0, 0))) (hD : Kd.string.C w A nb c.bodies) :
    Calls Tryd.prog 8 #[.slice (some ⟨g, 0, none⟩) 1 1] w fun e w' => ∃ b : Bool, e = .returned (.bool b) ∧ Below w.heap.size w w' := by
  have HG := Lib.hid hg
  have HD := Lib.hid hD
  clear hg hD
  unfold Cm.cells at HG
  have HPA := Lib.hid ((Hp.nil w).alloc (.cells #[.int .i64 0, .int .i64 0, .int .i64 0, .string ⟨#[]⟩, .int .i64 0, .int .i64 0, .int .i64 0, .int .i64 0, .int .i64 0, .string ⟨#[]⟩, .bool false, .string ⟨#[]⟩, .string ⟨#[]⟩, .string ⟨#[]⟩, .string ⟨#[]⟩, .slice none 0 0, .int .i64 0, .int .i64 0] 26))
  have HPS := Lib.hid (HPA.out.setRowBlk #[.int .i64 c.client, .int .i64 c.req, .int .i64 c.kind, .string c.queue, .int .i64 c.a.vis, .int .i64 c.a.ret, .int .i64 c.a.del, .int .i64 c.a.win, .int .i64 c.a.max, .string c.a.dead, .bool c.a.fifo, .string c.body, .string c.group, .string c.key, .string c.receipt, .slice A nb cb, .int .i64 n, .int .i64 c.m])
  go_enter Tryd.func8, Tryd.ntmps8
  go_wp2_with fail
  go_loopw [3, 4] (fun s i wr => ∃ z : Int, s = .int .i64 z ∧ ((i = .int .i64 0 ∧ wr = w) ∨ (i = .int .i64 1 ∧ Below w.heap.size w wr))) (fun _ i _ => 1 - (intOf i).toNat)
  case atStart => exact ⟨0, rfl, .inl ⟨rfl, rfl⟩⟩
  case round =>
    obtain ⟨z, rfl, ⟨rfl, rfl⟩ | ⟨rfl, hB⟩⟩ := hrel
    case inr =>
      have HB := Lib.hid hB
      clear hB
      by_cases hz : z ≤ 6000
      case pos =>
        go_wp2_with fail
        go_ret
        first | exact HB.out | exact ⟨_, rfl, HB.out⟩ | exact ⟨.inl rfl, HB.out⟩ | exact ⟨.inr rfl, HB.out⟩
      case neg =>
        go_wp2_with fail
        go_ret
        first | exact HB.out | exact ⟨_, rfl, HB.out⟩ | exact ⟨.inl rfl, HB.out⟩ | exact ⟨.inr rfl, HB.out⟩
    case inl =>
      go_wp2_with (first | ((with_reducible refine gate_dst (N := 20) rfl ?_); refine wpList_load_row rfl 26 (.tmp 19) rfl g rfl 26 #[.int .i64 c.client, .int .i64 c.req, .int .i64 c.kind, .string c.queue, .int .i64 c.a.vis, .int .i64 c.a.ret, .int .i64 c.a.del, .int .i64 c.a.win, .int .i64 c.a.max, .string c.a.dead, .bool c.a.fifo, .string c.body, .string c.group, .string c.key, .string c.receipt, .slice A nb cb, .int .i64 n, .int .i64 c.m] (0, 0) _ HG.out Tryd.underlying26 rfl info_cmd ?_) | ((with_reducible refine gate_store (t := 26) (p := 5) (v := .tmp 20) rfl ?_); refine wpList_store_row rfl 26 (.tmp 5) (.tmp 20) rfl wr.heap.size #[.int .i64 c.client, .int .i64 c.req, .int .i64 c.kind, .string c.queue, .int .i64 c.a.vis, .int .i64 c.a.ret, .int .i64 c.a.del, .int .i64 c.a.win, .int .i64 c.a.max, .string c.a.dead, .bool c.a.fifo, .string c.body, .string c.group, .string c.key, .string c.receipt, .slice A nb cb, .int .i64 n, .int .i64 c.m] rfl rfl 26 #[.int .i64 0, .int .i64 0, .int .i64 0, .string ⟨#[]⟩, .int .i64 0, .int .i64 0, .int .i64 0, .int .i64 0, .int .i64 0, .string ⟨#[]⟩, .bool false, .string ⟨#[]⟩, .string ⟨#[]⟩, .string ⟨#[]⟩, .string ⟨#[]⟩, .slice none 0 0, .int .i64 0, .int .i64 0] HPA.out.blk0 info_cmd rfl (by simp [Value.oneCell']) ?_; generalize (wr.alloc (.cells #[.int .i64 0, .int .i64 0, .int .i64 0, .string ⟨#[]⟩, .int .i64 0, .int .i64 0, .int .i64 0, .int .i64 0, .int .i64 0, .string ⟨#[]⟩, .bool false, .string ⟨#[]⟩, .string ⟨#[]⟩, .string ⟨#[]⟩, .string ⟨#[]⟩, .slice none 0 0, .int .i64 0, .int .i64 0] 26)).setRow wr.heap.size #[.int .i64 c.client, .int .i64 c.req, .int .i64 c.kind, .string c.queue, .int .i64 c.a.vis, .int .i64 c.a.ret, .int .i64 c.a.del, .int .i64 c.a.win, .int .i64 c.a.max, .string c.a.dead, .bool c.a.fifo, .string c.body, .string c.group, .string c.key, .string c.receipt, .slice A nb cb, .int .i64 n, .int .i64 c.m] = W3 at *; have g3 : W3.cell? ⟨wr.heap.size, 3, none⟩ = some (.string c.queue) := blk_cell HPS.out.blk0 3; have g9 : W3.cell? ⟨wr.heap.size, 9, none⟩ = some (.string c.a.dead) := blk_cell HPS.out.blk0 9; have g11 : W3.cell? ⟨wr.heap.size, 11, none⟩ = some (.string c.body) := blk_cell HPS.out.blk0 11; have g12 : W3.cell? ⟨wr.heap.size, 12, none⟩ = some (.string c.group) := blk_cell HPS.out.blk0 12; have g13 : W3.cell? ⟨wr.heap.size, 13, none⟩ = some (.string c.key) := blk_cell HPS.out.blk0 13; have g14 : W3.cell? ⟨wr.heap.size, 14, none⟩ = some (.string c.receipt) := blk_cell HPS.out.blk0 14; have g15 : W3.cell? ⟨wr.heap.size, 15, none⟩ = some (.slice A nb cb) := blk_cell HPS.out.blk0 15))
      go_loopw [3, 6] (fun s i w2 => ∃ (z : Int) (j : Nat), s = .int .i64 z ∧ i = .int .i64 j ∧ j ≤ nb ∧ w2 = W3) (fun _ i _ => nb - (intOf i).toNat)
      case atStart => exact ⟨_, 0, rfl, rfl, Nat.zero_le _, rfl⟩
      case round =>
        obtain ⟨z2, j, rfl, rfl, hj, rfl⟩ := hrel
        by_cases hjn : j < nb
        case neg =>
          have i1 : ¬ (j : Int) < (nb : Int) := by omega
          go_wp2_with fail
          first | refine ⟨⟨_, rfl, .inr ⟨by first | rfl | simp, HPS.out.belowW⟩⟩, ?_⟩
          simp [intOf]
        case pos =>
          obtain ⟨ad, x, rfl, hx, d0⟩ := C_nth_scalar (Kd.C_below HD.out HPS.out.belowW) j hjn
          have i0 : (0 : Int) ≤ (j : Int) := by omega
          have i1 : (j : Int) < (nb : Int) := by omega
          clear hx
          by_cases h20 : (j : Int) ≤ 20
          case neg =>
            go_wp2_with fail
            first | refine ⟨⟨_, rfl, .inr ⟨by first | rfl | simp, HPS.out.belowW⟩⟩, ?_⟩
            simp [intOf]
          case pos =>
            go_wp2_with fail
            refine ⟨⟨_, j + 1, rfl, by simp, by omega, by first | rfl | trivial⟩, ?_⟩
            simp [intOf]
            omega
end Go.Proofs.YtidjapjidihbpaaDoor
