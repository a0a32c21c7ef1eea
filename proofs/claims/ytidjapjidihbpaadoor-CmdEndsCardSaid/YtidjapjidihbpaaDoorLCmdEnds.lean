/- CmdEnds: a command's bytes cut short, or with one more behind them. -/
import Derived.Test.YtidjapjidihbpaaDoorK11
import Derived.Test.YtidjapjidihbpaaDoorK8
import Derived.Test.YtidjapjidihbpaaDoorK7
import Derived.Test.YtidjapjidihbpaaDoorK9
set_option linter.unusedVariables false
set_option linter.unusedSimpArgs false
namespace Go.Proofs.YtidjapjidihbpaaDoor
open Go.RowKit Go.Proofs.YtidjapjidihbpaaDoorW.PrintWords
theorem FaultV.below {w w' : World} {v : Value} {no : Int} (h : FaultV w v no) (hB : Below w.heap.size w w') : FaultV w' v no := by
  rcases h with h | ⟨h, fb, at_, h1, h2⟩
  · exact .inl h
  · exact .inr ⟨h, fb, at_, h1, (hB.block fb (Array.getElem?_eq_some_iff.1 h2).1).trans h2⟩
theorem encCmd_len {c : Cm} (h : cmRight c = true) : (encCmd c).length ≤ 10000 := by
  obtain ⟨h1, h2, h3, h4, h5⟩ := right_parts h
  have e1 := flat_le (f := encNum) (b := 9) (xs := c.nums (c.n + 1)) (fun y hy => encNum_len (by have := (h2 y hy).2; omega)) 10
  have e2 := flat_le (f := encText) (b := 265) (xs := c.texts) (fun y hy => encText_len (h3 y hy)) 6
  have e3 := flat_le (f := encText) (b := 265) (xs := c.bodies) (fun y hy => encText_len (h5 y hy)) c.bodies.length
  have l1 : (c.nums (c.n + 1)).length = 10 := rfl
  have l2 : c.texts.length = 6 := rfl
  rw [List.take_of_length_le (by omega)] at e1 e2 e3
  have e4 := encNum_len (v := encFifo c.a) (by unfold encFifo; split <;> decide)
  have e5 := encNum_len (v := (c.bodies.length : Int)) (by omega)
  unfold encCmd encMid encHead
  simp only [List.length_append]
  omega
/-- Bytes in a block of their own. -/
theorem Hp.byteBlk {w0 w : World} {Ps : List Asn} {g : Nat} {xs : List Int} {cs : Array Value} (hcs : cs.toList = xs.map (Value.int .u8)) (hm : xs.length ≤ 1000000) (h : Hp w0 w (ABlk g (.cells cs 5 (0, 0)) :: Ps)) : Hp w0 w (ABy (.slice (some ⟨g, 0, none⟩) xs.length xs.length) xs :: Ps) := by
  obtain ⟨S1, h1, h2⟩ := h.use1
  have hl : cs.size = xs.length := by rw [← Array.length_toList, hcs, List.length_map]
  refine h2 w (ABy (.slice (some ⟨g, 0, none⟩) xs.length xs.length) xs) (Keep.refl _ _) (Kd.R_of_own ⟨by simp [encs], .inr ⟨g, xs.length, cs, rfl, Nat.zero_le _, h1.2, Nat.le_refl _, by simp only [maxLen]; omega, by omega, by rw [hcs]; simp only [encs, Nat.mul_one]; exact List.take_of_length_le (by simp)⟩⟩ (fun b hb => ?_))
  have : g = b := by simpa [Value.ownBlock] using hb
  exact .inl (this ▸ h1.1)
set_option maxHeartbeats 1600000 in
set_option maxRecDepth 100000 in
theorem ends_law (c : Cm) (A : Option Addr) (nb cb : Nat) (at_ x : Int) (w : World) (hC : Kd.string.C w A nb c.bodies) (hx : 0 ≤ x ∧ x < 256) (hg : w.cell? ⟨0, 0, none⟩ = some (.iface 154 (.agg #[.pointer (some ⟨1, 32, none⟩)]))) :
    Calls Tryd.prog 5 #[.agg (c.cells (.slice A nb cb) c.n), .int .i64 at_, .int .u8 x] w fun e w' => e = .returned (.bool true) ∧ Below w.heap.size w w' := by
  have HC := Lib.hid hC
  have HG := Lib.hid hg
  have HX := Lib.hid hx
  clear hC hg
  have HPA := Lib.hid ((Hp.nil w).alloc (.cells (c.cells (.slice A nb cb) c.n) 26))
  have HPB := Lib.hid (HPA.out.alloc (.cells (c.cells (.slice A nb cb) c.n) 26))
  have hz : (w.alloc (.cells (c.cells (.slice A nb cb) c.n) 26)).heap.size = w.heap.size + 1 := by simp
  rw [hz] at HPB
  have HW := Lib.hid (fun W (h : Below w.heap.size w W) => write_any c A nb cb W (Kd.C_below HC.out h))
  have HF := Lib.hid (few_one c A nb cb c.n (w.heap.size + 1) _ HPB.out.blk0 (Kd.C_below HC.out HPB.out.belowW))
  unfold Cm.val at HW
  unfold Cm.cells at HPA HPB HW HF ⊢
  clear hz
  go_enter Tryd.func5, Tryd.ntmps5
  go_wp2_with ((with_reducible refine gate_dst (N := 13) rfl ?_); refine wpList_load_row rfl 26 (.tmp 3) rfl w.heap.size rfl 26 #[.int .i64 c.client, .int .i64 c.req, .int .i64 c.kind, .string c.queue, .int .i64 c.a.vis, .int .i64 c.a.ret, .int .i64 c.a.del, .int .i64 c.a.win, .int .i64 c.a.max, .string c.a.dead, .bool c.a.fifo, .string c.body, .string c.group, .string c.key, .string c.receipt, .slice A nb cb, .int .i64 c.n, .int .i64 c.m] (0, 0) _ (HPA.out.blk0) Tryd.underlying26 rfl info_cmd ?_)
  refine Calls.mono HF.out ?_
  rintro e w1 ⟨b, rfl, hB⟩
  have HP1 := Lib.hid ((HPB.out.below hB).tail)
  clear hB
  cases b
  case false =>
    go_wp2_with fail
    refine Calls.mono (awake_any _) ?_
    rintro e wz ⟨rfl, hBz⟩
    have HBZ := Lib.hid hBz
    clear hBz
    go_wp2_with fail
    go_ret
    exact ⟨rfl, HP1.out.belowW.trans (HBZ.out.mono HP1.out.belowW.size)⟩
  case true =>
  go_wp2_with ((with_reducible refine gate_dst (N := 19) rfl ?_); refine wpList_load_row rfl 26 (.tmp 3) rfl w.heap.size rfl 26 #[.int .i64 c.client, .int .i64 c.req, .int .i64 c.kind, .string c.queue, .int .i64 c.a.vis, .int .i64 c.a.ret, .int .i64 c.a.del, .int .i64 c.a.win, .int .i64 c.a.max, .string c.a.dead, .bool c.a.fifo, .string c.body, .string c.group, .string c.key, .string c.receipt, .slice A nb cb, .int .i64 c.n, .int .i64 c.m] (0, 0) _ (HP1.out.blk0) Tryd.underlying26 rfl info_cmd ?_)
  refine Calls.mono (HW.out w1 HP1.out.belowW) ?_
  obtain ⟨R, hR⟩ : ∃ R, R = cmRight c := ⟨_, rfl⟩
  rw [← hR]
  have HR := Lib.hid hR
  clear hR
  cases R
  case false =>
    rintro e w2 ⟨_, hw2, hB⟩
    obtain ⟨fb, rfl, _, _⟩ := hw2 rfl
    have HP2 := Lib.hid (HP1.out.below hB)
    clear hw2 hB
    go_wp2_with fail
    refine Calls.mono (awake_any _) ?_
    rintro e wz ⟨rfl, hBz⟩
    have HBZ := Lib.hid hBz
    clear hBz
    go_wp2_with fail
    go_ret
    exact ⟨rfl, HP2.out.belowW.trans (HBZ.out.mono HP2.out.belowW.size)⟩
  case true =>
  rintro e w2 ⟨hw1, _, hB⟩
  obtain ⟨A0, n0, c0, rfl, hRd⟩ := hw1 rfl
  have HP2 := Lib.hid (HP1.out.below hB)
  have HRD := Lib.hid hRd
  have HN := Lib.hid hRd.len
  have hlen := encCmd_len HR.out.symm
  rw [← HN.out] at hlen
  have hnc := hRd.2
  clear hw1 hB hRd
  by_cases h1 : at_ < 0
  case pos =>
    go_wp2_with fail
    refine Calls.mono (awake_any _) ?_
    rintro e wz ⟨rfl, hBz⟩
    have HBZ := Lib.hid hBz
    clear hBz
    go_wp2_with fail
    go_ret
    exact ⟨rfl, HP2.out.belowW.trans (HBZ.out.mono HP2.out.belowW.size)⟩
  case neg =>
  by_cases h2 : (n0 : Int) ≤ at_
  case pos =>
    go_wp2_with fail
    refine Calls.mono (awake_any _) ?_
    rintro e wz ⟨rfl, hBz⟩
    have HBZ := Lib.hid hBz
    clear hBz
    go_wp2_with fail
    go_ret
    exact ⟨rfl, HP2.out.belowW.trans (HBZ.out.mono HP2.out.belowW.size)⟩
  case neg =>
  obtain ⟨k, rfl⟩ : ∃ k : Nat, at_ = (k : Int) := ⟨at_.toNat, by omega⟩
  have hk : k < n0 := by omega
  obtain ⟨inf, hin1, hin2⟩ := info_at5
  obtain ⟨hsl, hCk⟩ := take_row 30 5 Tryd.underlying30 hin1 k (Nat.le_of_lt hk) hnc HRD.out.1
  have hrk := readCmd_any A0 k c0 ((encCmd c).take k) w2 ⟨hCk, by omega⟩ (by omega) (fun y hy => encCmd_ok c y (List.take_subset _ _ hy))
  rw [read_cut HR.out.symm (List.take_prefix _ _) (by rw [List.length_take, ← HN.out]; omega)] at hrk
  have HRK := Lib.hid hrk
  clear hin1 hin2 hCk hrk
  go_wp2_with fail
  refine Calls.mono HRK.out ?_
  rintro e w5 ⟨B, m, d, ev1, rfl, _, _, hF1, hB5⟩
  have HP5 := Lib.hid (HP2.out.below hB5)
  have HRD5 := Lib.hid (HRD.out.below hB5)
  have HF1 := Lib.hid hF1
  have HQ5 := Lib.hid ((Hp.nil w5).alloc (.cells #[.int .i64 0, .int .i64 0, .int .i64 0, .string ⟨#[]⟩, .int .i64 0, .int .i64 0, .int .i64 0, .int .i64 0, .int .i64 0, .string ⟨#[]⟩, .bool false, .string ⟨#[]⟩, .string ⟨#[]⟩, .string ⟨#[]⟩, .string ⟨#[]⟩, .slice none 0 0, .int .i64 0, .int .i64 0] 26))
  have HQ9 := Lib.hid (HQ5.out.setRowBlk #[.int .i64 0, .int .i64 0, .int .i64 0, .string ⟨#[]⟩, .int .i64 0, .int .i64 0, .int .i64 0, .int .i64 0, .int .i64 0, .string ⟨#[]⟩, .bool false, .string ⟨#[]⟩, .string ⟨#[]⟩, .string ⟨#[]⟩, .string ⟨#[]⟩, .slice B m d, .int .i64 0, .int .i64 0])
  clear hF1 hB5 hsl
  have HQA := Lib.hid (Hp.byteBlk (xs := []) (cs := #[]) rfl (by decide) (HQ9.out.alloc (.cells #[] 5)))
  obtain ⟨okr, hR1, hR2, hR3⟩ := HQA.out.appended
  have HR1 := Lib.hid hR1
  have HR2 := Lib.hid hR2
  have HR3 := Lib.hid hR3
  clear hR1 hR2 hR3
  go_wp2_with (first | ((with_reducible refine gate_store (t := 26) (p := 9) (v := .tmp 41) rfl ?_); refine wpList_store_row rfl 26 (.tmp 9) (.tmp 41) rfl w5.heap.size #[.int .i64 0, .int .i64 0, .int .i64 0, .string ⟨#[]⟩, .int .i64 0, .int .i64 0, .int .i64 0, .int .i64 0, .int .i64 0, .string ⟨#[]⟩, .bool false, .string ⟨#[]⟩, .string ⟨#[]⟩, .string ⟨#[]⟩, .string ⟨#[]⟩, .slice B m d, .int .i64 0, .int .i64 0] rfl rfl 26 #[.int .i64 0, .int .i64 0, .int .i64 0, .string ⟨#[]⟩, .int .i64 0, .int .i64 0, .int .i64 0, .int .i64 0, .int .i64 0, .string ⟨#[]⟩, .bool false, .string ⟨#[]⟩, .string ⟨#[]⟩, .string ⟨#[]⟩, .string ⟨#[]⟩, .slice none 0 0, .int .i64 0, .int .i64 0] HQ5.out.blk0 info_cmd rfl (by simp [Value.oneCell']) ?_; generalize (w5.alloc (.cells #[.int .i64 0, .int .i64 0, .int .i64 0, .string ⟨#[]⟩, .int .i64 0, .int .i64 0, .int .i64 0, .int .i64 0, .int .i64 0, .string ⟨#[]⟩, .bool false, .string ⟨#[]⟩, .string ⟨#[]⟩, .string ⟨#[]⟩, .string ⟨#[]⟩, .slice none 0 0, .int .i64 0, .int .i64 0] 26)).setRow w5.heap.size #[.int .i64 0, .int .i64 0, .int .i64 0, .string ⟨#[]⟩, .int .i64 0, .int .i64 0, .int .i64 0, .int .i64 0, .int .i64 0, .string ⟨#[]⟩, .bool false, .string ⟨#[]⟩, .string ⟨#[]⟩, .string ⟨#[]⟩, .string ⟨#[]⟩, .slice B m d, .int .i64 0, .int .i64 0] = W9 at *) | (at_builtin; refine Kd.R_append_rows (Kd.int .u8) (w0 := W9.alloc (.cells #[] 5)) 0 rfl (.tmp 44) (.tmp 45) 30 5 (.int .u8 0) 1 rfl Tryd.underlying30 info_byte rfl (by decide) (by omega) (.slice (some ⟨W9.heap.size, 0, none⟩) 0 0) [] (encCmd c) A0 n0 c0 okr (fun _ => False) rfl rfl HR1.out (HRD5.out.below HQA.out.belowW).1 (fun _ _ h => h) (fun _ hk => hk.elim) HR2.out (Below.refl _ _) (Nat.zero_le _) (by have := HN.out; simp only [List.length_nil]; omega) ?_; intro v7 w7 hR7 hB7 hg7 _; have HP7 := Lib.hid (HR3.out _ _ _ hR7 hg7); clear hR7 hB7 hg7) | (at_builtin; obtain ⟨okr2, hR1, hR2, hR3⟩ := HP7.out.appended; refine Kd.R_append (Kd.int .u8) (w0 := w7) 0 rfl (.tmp 46) (.tmp 48) 30 5 (.int .u8 0) 1 rfl Tryd.underlying30 info_byte rfl (by decide) (by omega) v7 ([] ++ encCmd c) x [.int .u8 x] okr2 (fun _ => False) rfl rfl rfl (fun _ hk => hk.elim) hR2 hR1 (Below.refl _ _) (Nat.zero_le _) (by have := HN.out; simp only [List.nil_append]; omega) ?_; intro v8 w8 hR8 hB8 hg8 _; have HP8 := Lib.hid (hR3 _ _ _ hR8 hg8); clear hR8 hB8 hg8 hR1 hR2 hR3))
  obtain ⟨A8, c8, hv8⟩ := Kd.R_slice HP8.out.head
  have h8 : ([] ++ encCmd c ++ [x]).length = n0 + 1 := by have := HN.out; simp; omega
  rw [h8] at hv8
  subst hv8
  have hr8 := readCmd_any A8 (n0 + 1) c8 (encCmd c ++ [x]) w8 (by have h := Rd.of HP8.out.head; rwa [List.nil_append] at h) (by omega) (fun y hy => by rcases List.mem_append.1 hy with hy | hy; exact encCmd_ok c y hy; rw [List.mem_singleton.1 hy]; exact HX.out)
  rw [read_more HR.out.symm [x] (by simp)] at hr8
  refine Calls.mono hr8 ?_
  clear hr8 h8
  rintro e w10 ⟨B2, m2, d2, ev2, rfl, _, _, hF2, hB10⟩
  have HP10 := Lib.hid (HP8.out.below hB10)
  have HF2 := Lib.hid hF2
  have HQ10 := Lib.hid ((Hp.nil w10).alloc (.cells #[.int .i64 0, .int .i64 0, .int .i64 0, .string ⟨#[]⟩, .int .i64 0, .int .i64 0, .int .i64 0, .int .i64 0, .int .i64 0, .string ⟨#[]⟩, .bool false, .string ⟨#[]⟩, .string ⟨#[]⟩, .string ⟨#[]⟩, .string ⟨#[]⟩, .slice none 0 0, .int .i64 0, .int .i64 0] 26))
  have HQ11 := Lib.hid (HQ10.out.setRowBlk #[.int .i64 0, .int .i64 0, .int .i64 0, .string ⟨#[]⟩, .int .i64 0, .int .i64 0, .int .i64 0, .int .i64 0, .int .i64 0, .string ⟨#[]⟩, .bool false, .string ⟨#[]⟩, .string ⟨#[]⟩, .string ⟨#[]⟩, .string ⟨#[]⟩, .slice B2 m2 d2, .int .i64 0, .int .i64 0])
  clear hF2 hB10
  go_wp2_with ((with_reducible refine gate_store (t := 26) (p := 11) (v := .tmp 51) rfl ?_); refine wpList_store_row rfl 26 (.tmp 11) (.tmp 51) rfl w10.heap.size #[.int .i64 0, .int .i64 0, .int .i64 0, .string ⟨#[]⟩, .int .i64 0, .int .i64 0, .int .i64 0, .int .i64 0, .int .i64 0, .string ⟨#[]⟩, .bool false, .string ⟨#[]⟩, .string ⟨#[]⟩, .string ⟨#[]⟩, .string ⟨#[]⟩, .slice B2 m2 d2, .int .i64 0, .int .i64 0] rfl rfl 26 #[.int .i64 0, .int .i64 0, .int .i64 0, .string ⟨#[]⟩, .int .i64 0, .int .i64 0, .int .i64 0, .int .i64 0, .int .i64 0, .string ⟨#[]⟩, .bool false, .string ⟨#[]⟩, .string ⟨#[]⟩, .string ⟨#[]⟩, .string ⟨#[]⟩, .slice none 0 0, .int .i64 0, .int .i64 0] HQ10.out.blk0 info_cmd rfl (by simp [Value.oneCell']) ?_; generalize (w10.alloc (.cells #[.int .i64 0, .int .i64 0, .int .i64 0, .string ⟨#[]⟩, .int .i64 0, .int .i64 0, .int .i64 0, .int .i64 0, .int .i64 0, .string ⟨#[]⟩, .bool false, .string ⟨#[]⟩, .string ⟨#[]⟩, .string ⟨#[]⟩, .string ⟨#[]⟩, .slice none 0 0, .int .i64 0, .int .i64 0] 26)).setRow w10.heap.size #[.int .i64 0, .int .i64 0, .int .i64 0, .string ⟨#[]⟩, .int .i64 0, .int .i64 0, .int .i64 0, .int .i64 0, .int .i64 0, .string ⟨#[]⟩, .bool false, .string ⟨#[]⟩, .string ⟨#[]⟩, .string ⟨#[]⟩, .string ⟨#[]⟩, .slice B2 m2 d2, .int .i64 0, .int .i64 0] = W11 at *)
  have HBW := Lib.hid (HP5.out.belowW.trans ((HP10.out.belowW.trans (HQ11.out.belowW.mono HP10.out.belowW.size)).mono HP5.out.belowW.size))
  refine Calls.mono (code_any (below_cell HBW.out HG.out) (HF1.out.below (HP10.out.belowW.trans (HQ11.out.belowW.mono HP10.out.belowW.size)))) ?_
  rintro e w12 ⟨rfl, hB12⟩
  have HB12 := Lib.hid (HBW.out.trans (hB12.mono HBW.out.size))
  have HC2 := Lib.hid (code_any (below_cell HB12.out HG.out) ((HF2.out.below HQ11.out.belowW).below hB12))
  clear hB12
  go_wp2_with (first | (go_at_call 14; refine Calls.mono HC2.out ?_; rintro e w13 ⟨rfl, hB13⟩; have HB13 := Lib.hid (HB12.out.trans (hB13.mono HB12.out.size)); clear hB13) | (go_at_call 9; refine Calls.mono (awake_any _) ?_; rintro e wz ⟨rfl, hBz⟩; have HBZ := Lib.hid (HB13.out.trans (hBz.mono HB13.out.size)); clear hBz))
  go_ret
  exact ⟨rfl, HBZ.out⟩
theorem u8_in {x : Int} (h : (Lit.int .u8 x).wf = true) : 0 ≤ x ∧ x < 256 := by
  simp [Lit.wf] at h
  have h1 : IntKind.u8.min = 0 := by decide
  have h2 : IntKind.u8.max = 255 := by decide
  omega
theorem ends_law0 (c : Cm) (A : Option Addr) (nb cb : Nat) (at_ x : Int) (w : World) (hC : Kd.string.C w A nb c.bodies) (_ : (Lit.int .i64 at_).wf = true) (hx : (Lit.int .u8 x).wf = true) (hg : w.cell? ⟨0, 0, none⟩ = some (.iface 154 (.agg #[.pointer (some ⟨1, 32, none⟩)]))) :
    Calls Tryd.prog 5 #[.agg (c.cells (.slice A nb cb) c.n), .int .i64 at_, .int .u8 x] w fun e w' => e = .returned (.bool true) ∧ Below w.heap.size w w' := ends_law c A nb cb at_ x w hC (u8_in hx) hg
end Go.Proofs.YtidjapjidihbpaaDoor
