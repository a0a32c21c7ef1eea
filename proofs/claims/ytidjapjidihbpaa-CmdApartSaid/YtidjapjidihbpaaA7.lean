/- Put together: law10.awake. -/
import Derived.Test.YtidjapjidihbpaaA6
import Derived.Test.YtidjapjidihbpaaA2
set_option linter.unusedVariables false
set_option linter.unusedSimpArgs false
set_option linter.unusedVariables false
set_option linter.unusedSimpArgs false
namespace Go.Proofs.Ytidjapjidihbpaa
open Go.RowKit Go.Proofs.YtidjapjidihbpaaW.PrintWords
/-- The command that only asks for the time. -/
def Cm.five : Cm := ⟨0, 0, 0, ⟨#[]⟩, ⟨0, 0, 0, 0, 0, ⟨#[]⟩, false⟩, ⟨#[]⟩, ⟨#[]⟩, ⟨#[]⟩, ⟨#[]⟩, [], 5, 0⟩
def An.six : An := ⟨6, [], []⟩
theorem five_right : cmRight Cm.five = true := by decide +kernel
theorem six_right : anRight An.six = true := by decide +kernel
theorem encNat_lit {n : Nat} (h : n < 128) : encNum (n : Int) = [(n : Int)] := by
  unfold encNum
  rw [Int.toNat_natCast, encNat_small h]
theorem five_enc : encCmd Cm.five = [0, 0, 0, 6, 0, 0, 0, 0, 0, 0, 0, 0, 0, 0, 0, 0, 0, 0] := by
  have e0 := encNat_lit (n := 0) (by decide)
  have e6 := encNat_lit (n := 6) (by decide)
  have t0 : encText ⟨#[]⟩ = [0] := by
    show encNum ((0 : Nat) : Int) ++ [] = [0]
    rw [e0]; rfl
  have e0' : encNum 0 = [0] := e0
  have e6' : encNum 6 = [6] := e6
  show ([0, 0, 0, 6, 0, 0, 0, 0, 0, 0].map encNum).flatten ++ encNum 0 ++ ([⟨#[]⟩, ⟨#[]⟩, ⟨#[]⟩, ⟨#[]⟩, ⟨#[]⟩, ⟨#[]⟩].map encText).flatten ++ encNum 0 ++ (([] : List ByteArray).map encText).flatten = _
  simp [e0', e6', t0]
theorem six_enc : encAns An.six = [6, 0, 0] := by
  have e0 := encNat_lit (n := 0) (by decide)
  have e6 := encNat_lit (n := 6) (by decide)
  have e0' : encNum 0 = [0] := e0
  have e6' : encNum 6 = [6] := e6
  show encNum 6 ++ encNum 0 ++ (([] : List Int).map encNum).flatten ++ encNum 0 ++ (([] : List Tk).map encTook).flatten = _
  simp [e0', e6']
theorem five_write (w : World) : Calls Try.prog 6 #[.agg #[.int .i64 0, .int .i64 0, .int .i64 0, .string ⟨#[]⟩, .int .i64 0, .int .i64 0, .int .i64 0, .int .i64 0, .int .i64 0, .string ⟨#[]⟩, .bool false, .string ⟨#[]⟩, .string ⟨#[]⟩, .string ⟨#[]⟩, .string ⟨#[]⟩, .slice none 0 0, .int .i64 5, .int .i64 0]] w fun e w' => ∃ A n c, e = .returned (.tuple #[.slice A n c, .nilIface]) ∧ Rd w' A n c (encCmd Cm.five) ∧ Below w.heap.size w w' := by
  refine Calls.mono (write_any Cm.five none 0 0 w (Kd.C_nil _ _)) ?_
  rintro e w' ⟨h1, _, h3⟩
  obtain ⟨A, n, c, h4, h5⟩ := h1 five_right
  exact ⟨A, n, c, h4, h5, h3⟩
theorem six_write (w : World) : Calls Try.prog 11 #[.agg #[.int .i64 6, .slice none 0 0, .slice none 0 0]] w fun e w' => ∃ A n c, e = .returned (.tuple #[.slice A n c, .nilIface]) ∧ Rd w' A n c (encAns An.six) ∧ Below w.heap.size w w' := by
  refine Calls.mono (writeA_any An.six none 0 0 none 0 0 w (Kd.C_nil _ _) (Kd.C_nil _ _)) ?_
  rintro e w' ⟨h1, _, h3⟩
  obtain ⟨A, n, c, h4, h5⟩ := h1 six_right
  exact ⟨A, n, c, h4, h5, h3⟩
theorem five_read {A : Option Addr} {n c : Nat} {w : World} (hA : Rd w A n c (encCmd Cm.five)) : Calls Try.prog 10 #[.slice A n c] w fun e w' => ∃ B m d, e = .returned (.tuple #[.agg #[.int .i64 0, .int .i64 0, .int .i64 0, .string ⟨#[]⟩, .int .i64 0, .int .i64 0, .int .i64 0, .int .i64 0, .int .i64 0, .string ⟨#[]⟩, .bool false, .string ⟨#[]⟩, .string ⟨#[]⟩, .string ⟨#[]⟩, .string ⟨#[]⟩, .slice B m d, .int .i64 5, .int .i64 0], .nilIface]) ∧ Below w.heap.size w w' := by
  have hl : n = 18 := by rw [hA.len, five_enc]; rfl
  refine Calls.mono (readCmd_any A n c (encCmd Cm.five) w hA (by omega) (encCmd_ok _)) ?_
  rw [read_enc five_right]
  rintro e w' ⟨B, m, d, ev, rfl, _, _, hF, hB⟩
  rcases hF with ⟨_, rfl⟩ | ⟨h, _⟩
  · exact ⟨B, m, d, rfl, hB⟩
  · exact absurd rfl h
theorem eq_lit {W : World} {A : Option Addr} {n c g k : Nat} {xs : List Int} (hR : Rd W A n c xs) (hx : ByOk xs) {cs : Array Value} (hg : W.heap[g]? = some (.cells cs 5 (0, 0))) (hcs : cs.toList = xs.map (Value.int .u8)) (hk : xs.length = k) (hm : k ≤ 1000000) :
    Calls Try.prog 7 #[.slice A n c, .slice (some ⟨g, 0, none⟩) k k] W fun e w' => e = .returned (.bool true) ∧ W = w' := by
  have h2 : Rd W (some ⟨g, 0, none⟩) k k xs := ⟨by rw [← hk]; exact C_block hg xs hcs (by omega), Nat.le_refl _⟩
  have h := eqBytes_any hx hx hR h2
  rwa [decide_eq_true rfl] at h
set_option maxHeartbeats 1600000 in
set_option maxRecDepth 100000 in
theorem awake_any (w : World) : Calls Try.prog 5 #[] w fun e w' => e = .returned (.bool true) ∧ Below w.heap.size w w' := by
  go_enter Try.func5, Try.ntmps5
  go_wp2_with fail
  refine Calls.mono (five_write w) ?_
  rintro e w1 ⟨A, n, c, rfl, hR, hB⟩
  have HR1 := Lib.hid hR
  have HB1 := Lib.hid hB
  clear hR hB
  go_wp2_with fail
  refine Calls.mono (five_read HR1.out) ?_
  rintro e w2 ⟨B, m, d, rfl, hB⟩
  have HP2 := Lib.hid ((Hp.of hB).alloc (.cells #[.int .i64 0, .int .i64 0, .int .i64 0, .string ⟨#[]⟩, .int .i64 0, .int .i64 0, .int .i64 0, .int .i64 0, .int .i64 0, .string ⟨#[]⟩, .bool false, .string ⟨#[]⟩, .string ⟨#[]⟩, .string ⟨#[]⟩, .string ⟨#[]⟩, .slice none 0 0, .int .i64 0, .int .i64 0] 26))
  clear hB
  have HP3 := Lib.hid (HP2.out.setRowBlk #[.int .i64 0, .int .i64 0, .int .i64 0, .string ⟨#[]⟩, .int .i64 0, .int .i64 0, .int .i64 0, .int .i64 0, .int .i64 0, .string ⟨#[]⟩, .bool false, .string ⟨#[]⟩, .string ⟨#[]⟩, .string ⟨#[]⟩, .string ⟨#[]⟩, .slice B m d, .int .i64 5, .int .i64 0])
  go_wp2_with ((with_reducible refine gate_store (t := 26) (p := 3) (v := .tmp 15) rfl ?_); refine wpList_store_row rfl 26 (.tmp 3) (.tmp 15) rfl w2.heap.size #[.int .i64 0, .int .i64 0, .int .i64 0, .string ⟨#[]⟩, .int .i64 0, .int .i64 0, .int .i64 0, .int .i64 0, .int .i64 0, .string ⟨#[]⟩, .bool false, .string ⟨#[]⟩, .string ⟨#[]⟩, .string ⟨#[]⟩, .string ⟨#[]⟩, .slice B m d, .int .i64 5, .int .i64 0] rfl rfl 26 #[.int .i64 0, .int .i64 0, .int .i64 0, .string ⟨#[]⟩, .int .i64 0, .int .i64 0, .int .i64 0, .int .i64 0, .int .i64 0, .string ⟨#[]⟩, .bool false, .string ⟨#[]⟩, .string ⟨#[]⟩, .string ⟨#[]⟩, .string ⟨#[]⟩, .slice none 0 0, .int .i64 0, .int .i64 0] HP2.out.blk0 info_cmd rfl (by simp [Value.oneCell']) ?_; generalize (w2.alloc (.cells #[.int .i64 0, .int .i64 0, .int .i64 0, .string ⟨#[]⟩, .int .i64 0, .int .i64 0, .int .i64 0, .int .i64 0, .int .i64 0, .string ⟨#[]⟩, .bool false, .string ⟨#[]⟩, .string ⟨#[]⟩, .string ⟨#[]⟩, .string ⟨#[]⟩, .slice none 0 0, .int .i64 0, .int .i64 0] 26)).setRow w2.heap.size #[.int .i64 0, .int .i64 0, .int .i64 0, .string ⟨#[]⟩, .int .i64 0, .int .i64 0, .int .i64 0, .int .i64 0, .int .i64 0, .string ⟨#[]⟩, .bool false, .string ⟨#[]⟩, .string ⟨#[]⟩, .string ⟨#[]⟩, .string ⟨#[]⟩, .slice B m d, .int .i64 5, .int .i64 0] = W3 at *)
  refine Calls.mono (six_write W3) ?_
  rintro e w4 ⟨A4, n4, c4, rfl, hR, hB⟩
  have HP4 := Lib.hid (HP3.out.below hB)
  have HR4 := Lib.hid hR
  have HQ4 := Lib.hid (((Hp.nil w4).alloc (.cells #[.int .u8 0, .int .u8 0, .int .u8 0, .int .u8 6, .int .u8 0, .int .u8 0, .int .u8 0, .int .u8 0, .int .u8 0, .int .u8 0, .int .u8 0, .int .u8 0, .int .u8 0, .int .u8 0, .int .u8 0, .int .u8 0, .int .u8 0, .int .u8 0] 5)).alloc (.cells #[.int .u8 6, .int .u8 0, .int .u8 0] 5))
  have HQ3 := Lib.hid ((Hp.nil w4).alloc (.cells #[.int .u8 0, .int .u8 0, .int .u8 0, .int .u8 6, .int .u8 0, .int .u8 0, .int .u8 0, .int .u8 0, .int .u8 0, .int .u8 0, .int .u8 0, .int .u8 0, .int .u8 0, .int .u8 0, .int .u8 0, .int .u8 0, .int .u8 0, .int .u8 0] 5))
  have hz : (w4.alloc (.cells #[.int .u8 0, .int .u8 0, .int .u8 0, .int .u8 6, .int .u8 0, .int .u8 0, .int .u8 0, .int .u8 0, .int .u8 0, .int .u8 0, .int .u8 0, .int .u8 0, .int .u8 0, .int .u8 0, .int .u8 0, .int .u8 0, .int .u8 0, .int .u8 0] 5)).heap.size = w4.heap.size + 1 := by simp
  rw [hz] at HQ4
  have HP5 := Lib.hid ((HP4.out.alloc (.cells #[.int .u8 0, .int .u8 0, .int .u8 0, .int .u8 6, .int .u8 0, .int .u8 0, .int .u8 0, .int .u8 0, .int .u8 0, .int .u8 0, .int .u8 0, .int .u8 0, .int .u8 0, .int .u8 0, .int .u8 0, .int .u8 0, .int .u8 0, .int .u8 0] 5)).tail)
  have HP6 := Lib.hid ((HP5.out.alloc (.cells #[.int .u8 6, .int .u8 0, .int .u8 0] 5)).tail)
  have HE1 := Lib.hid (eq_lit (k := 18) (HR1.out.below HP5.out.belowW) (encCmd_ok _) HQ3.out.blk0 (by rw [five_enc]; rfl) (by rw [five_enc]; rfl) (by decide))
  have HE2 := Lib.hid (eq_lit (k := 3) (HR4.out.below HQ4.out.belowW) (encAns_ok _) HQ4.out.blk0 (by rw [six_enc]; rfl) (by rw [six_enc]; rfl) (by decide))
  have c16 := blk_cell HP5.out.blk0 16
  clear hR hB hz
  go_wp2_with (go_at_call 7; first | (refine Calls.mono HE1.out ?_; rintro e w7 ⟨rfl, rfl⟩) | (refine Calls.mono HE2.out ?_; rintro e w7 ⟨rfl, rfl⟩))
  go_ret
  exact ⟨rfl, HB1.out.trans (HP6.out.belowW.mono HB1.out.size)⟩
end Go.Proofs.Ytidjapjidihbpaa
