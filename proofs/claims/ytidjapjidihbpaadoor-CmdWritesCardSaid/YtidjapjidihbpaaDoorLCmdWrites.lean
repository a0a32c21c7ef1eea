/- CmdWrites: a command is written as the document writes it, and read back. -/
import Derived.Test.YtidjapjidihbpaaDoorK12
import Derived.Test.YtidjapjidihbpaaDoorK8
import Derived.Test.YtidjapjidihbpaaDoorK7
import Derived.Test.YtidjapjidihbpaaDoorWLast
import Derived.Laws.Tables
set_option linter.unusedVariables false
set_option linter.unusedSimpArgs false
namespace Go.Proofs.YtidjapjidihbpaaDoor
open Go.RowKit Go.Proofs.YtidjapjidihbpaaDoorW.PrintWords Go.Proofs.YtidjapjidihbpaaDoorW.PrintLast
theorem exec_load_row {P : Program} {o : Oper} {a : Act} {w : World} (ty : TypeId) (x : Operand) (ho : o.op = .load ty x)
    (g : Nat) (hx : a.eval x = .pointer (some ⟨g, 0, none⟩)) (t : TypeId) (cs : Array Value) (fr : Nat × Nat) (d : TypeDesc) (hg : w.heap[g]? = some (.cells cs t fr))
    (hu : P.underlying ty = some d) (hd : (match d with | .struct _ | .array _ _ => true | _ => false) = true) (hi : (P.info? ty).map (·.size) = some cs.size) : (execOp a.eval o).run P w = .ok (.value (.agg cs)) w := by
  unfold execOp
  simp only [ho, hx, Instr.loadAt, Instr.sureAddr, Sem.run_bind, Sem.run_pure, Result.andThen_ok, run_loadVar_row w g t ty cs fr d hg hu hd hi]
set_option maxRecDepth 100000 in
theorem fold_cells (c : Cm) (v : Value) (n : Int) : Array.foldl (fun (cs : Array Value) (x : Value × Nat) => cs.setIfInBounds x.snd x.fst) #[.int .i64 0, .int .i64 0, .int .i64 0, .string ⟨#[]⟩, .int .i64 0, .int .i64 0, .int .i64 0, .int .i64 0, .int .i64 0, .string ⟨#[]⟩, .bool false, .string ⟨#[]⟩, .string ⟨#[]⟩, .string ⟨#[]⟩, .string ⟨#[]⟩, .slice none 0 0, .int .i64 0, .int .i64 0] (c.cells v n).zipIdx 0 18 = c.cells v n := by kernel_rfl
theorem cells_size (c : Cm) (v : Value) (n : Int) : (c.cells v n).size = 18 := rfl
theorem cells_one (c : Cm) (A : Option Addr) (m d : Nat) (n : Int) : (c.cells (.slice A m d) n).all (·.oneCell') = true := by simp [Cm.cells, Value.oneCell']
set_option maxHeartbeats 3200000 in
set_option maxRecDepth 100000 in
theorem writes_law (c : Cm) (A : Option Addr) (nb cb : Nat) (w : World) (hC : Kd.string.C w A nb c.bodies) (hg : w.cell? ⟨0, 0, none⟩ = some (.iface 154 (.agg #[.pointer (some ⟨1, 32, none⟩)]))) :
    Calls Tryd.prog 3 #[.agg (c.cells (.slice A nb cb) c.n)] w fun e w' => e = .returned (.bool true) ∧ Below w.heap.size w w' := by
  have HC := Lib.hid hC
  have HG := Lib.hid hg
  have HNB := Lib.hid (Kd.C_len hC)
  clear hC hg
  have HPA := Lib.hid ((Hp.nil w).alloc (.cells (c.cells (.slice A nb cb) c.n) 26))
  have HPB := Lib.hid (HPA.out.alloc (.cells (c.cells (.slice A nb cb) c.n) 26))
  have hz : (w.alloc (.cells (c.cells (.slice A nb cb) c.n) 26)).heap.size = w.heap.size + 1 := by simp
  rw [hz] at HPB
  have HW := Lib.hid (fun W (h : Below w.heap.size w W) => write_any c A nb cb W (Kd.C_below HC.out h))
  have HF := Lib.hid (few_one c A nb cb c.n (w.heap.size + 1) _ HPB.out.blk0 (Kd.C_below HC.out HPB.out.belowW))
  have HLA := Lib.hid (fun W => lawCmd_any c A nb cb c.n W)
  have HRR := Lib.hid (fun W (h : Below w.heap.size w W) => refRight_any c A nb cb W (Kd.C_below HC.out h))
  have HRI := Lib.hid (fun W (h : Below w.heap.size w W) => right_any c A nb cb W (Kd.C_below HC.out h))
  have HWR := Lib.hid (fun hr W (h : Below w.heap.size w W) => refWrite_any c A nb cb W hr (Kd.C_below HC.out h))
  have HAT := Lib.hid (fun w1 : World => attr_any c.a w1)
  unfold Cm.val at HW HRI
  unfold QA.cells at HAT
  obtain ⟨cs, hcs⟩ : ∃ cs, cs = c.cells (.slice A nb cb) c.n := ⟨_, rfl⟩
  rw [← hcs] at HPA HPB HW HF HLA HRR HRI HWR ⊢
  have HCS := Lib.hid hcs
  have hsz : cs.size = 18 := by rw [hcs]; rfl
  have HSZ := Lib.hid hsz
  have HI1 := Lib.hid (info_cmd.trans (by rw [hsz]) : (Tryd.prog.info? 26).map (·.size) = some cs.size)
  have HI2 := Lib.hid (rcmd_info.trans (by rw [hsz]) : (Tryd.prog.info? 37).map (·.size) = some cs.size)
  have HON := Lib.hid (show cs.all (·.oneCell') = true by rw [hcs]; exact cells_one _ _ _ _ _)
  clear hcs hsz
  clear hz
  go_enter Tryd.func3, Tryd.ntmps3
  have hsz := HSZ.out
  have hfold : Array.foldl (fun (cs : Array Value) (x : Value × Nat) => cs.setIfInBounds x.snd x.fst) #[.int .i64 0, .int .i64 0, .int .i64 0, .string ⟨#[]⟩, .int .i64 0, .int .i64 0, .int .i64 0, .int .i64 0, .int .i64 0, .string ⟨#[]⟩, .bool false, .string ⟨#[]⟩, .string ⟨#[]⟩, .string ⟨#[]⟩, .string ⟨#[]⟩, .slice none 0 0, .int .i64 0, .int .i64 0] cs.zipIdx 0 18 = cs := by rw [HCS.out]; exact fold_cells c _ _
  go_wp2_with ((with_reducible refine gate_dst (N := 9) rfl ?_); refine wpList_load_row rfl 26 (.tmp 1) rfl w.heap.size rfl 26 cs (0, 0) _ (HPA.out.blk0) Tryd.underlying26 rfl HI1.out ?_)
  clear hsz
  clear hfold
  refine Calls.mono HF.out ?_
  rintro e w1 ⟨b, rfl, hB⟩
  have HP1 := Lib.hid ((HPB.out.below hB).tail)
  clear hB
  cases b
  case false =>
    go_wp2_with fail
    refine Calls.mono (awake_any _) ?_
    rintro e wz ⟨rfl, hBz⟩
    have HBZ := Lib.hid hBz
    clear hBz
    go_wp2_with fail
    go_ret
    exact ⟨rfl, HP1.out.belowW.trans (HBZ.out.mono HP1.out.belowW.size)⟩
  case true =>
  go_wp2_with ((with_reducible refine gate_dst (N := 15) rfl ?_); refine wpList_load_row rfl 26 (.tmp 1) rfl w.heap.size rfl 26 cs (0, 0) _ (HP1.out.blk0) Tryd.underlying26 rfl HI1.out ?_)
  refine Calls.mono (HW.out w1 HP1.out.belowW) ?_
  obtain ⟨R, hR⟩ : ∃ R, R = cmRight c := ⟨_, rfl⟩
  rw [← hR]
  rw [← hR] at HRR HRI HWR
  have HR := Lib.hid hR
  clear hR
  rintro e w2 ⟨hw1, hw2, hB⟩
  have HP2 := Lib.hid (HP1.out.below hB)
  cases R
  case false =>
    obtain ⟨fb, rfl, _, hfb⟩ := hw2 rfl
    have HFB := Lib.hid (show FaultV w2 (.iface 121 (.pointer (some ⟨fb, 0, none⟩))) 1 from .inr ⟨by decide, fb, 0, rfl, hfb⟩)
    clear hw1 hw2 hB hfb
    go_wp2_with ((with_reducible refine gate_dst (N := 19) rfl ?_); refine wpList_load_row rfl 26 (.tmp 1) rfl w.heap.size rfl 26 cs (0, 0) _ (HP2.out.blk0) Tryd.underlying26 rfl HI1.out ?_)
    refine Calls.mono (HLA.out w2) ?_
    rintro e w3 ⟨rfl, hB3⟩
    have HQ4 := Lib.hid ((Hp.nil w3).alloc (.cells #[.int .i64 0, .int .i64 0, .int .i64 0, .string ⟨#[]⟩, .int .i64 0, .int .i64 0, .int .i64 0, .int .i64 0, .int .i64 0, .string ⟨#[]⟩, .bool false, .string ⟨#[]⟩, .string ⟨#[]⟩, .string ⟨#[]⟩, .string ⟨#[]⟩, .slice none 0 0, .int .i64 0, .int .i64 0] 37))
    have HQ5 := Lib.hid (HQ4.out.setRowBlk cs)
    have HP3 := Lib.hid (HP2.out.below hB3)
    have HF3 := Lib.hid (HFB.out.below hB3)
    clear hB3
    go_wp2_with (first | ((with_reducible refine gate_store (t := 37) (p := 5) (v := .tmp 20) rfl ?_); refine wpList_store_row rfl 37 (.tmp 5) (.tmp 20) rfl w3.heap.size cs rfl rfl 37 #[.int .i64 0, .int .i64 0, .int .i64 0, .string ⟨#[]⟩, .int .i64 0, .int .i64 0, .int .i64 0, .int .i64 0, .int .i64 0, .string ⟨#[]⟩, .bool false, .string ⟨#[]⟩, .string ⟨#[]⟩, .string ⟨#[]⟩, .string ⟨#[]⟩, .slice none 0 0, .int .i64 0, .int .i64 0] HQ4.out.blk0 HI2.out (by rw [HSZ.out]; rfl) HON.out ?_; generalize (w3.alloc (.cells #[.int .i64 0, .int .i64 0, .int .i64 0, .string ⟨#[]⟩, .int .i64 0, .int .i64 0, .int .i64 0, .int .i64 0, .int .i64 0, .string ⟨#[]⟩, .bool false, .string ⟨#[]⟩, .string ⟨#[]⟩, .string ⟨#[]⟩, .string ⟨#[]⟩, .slice none 0 0, .int .i64 0, .int .i64 0] 37)).setRow w3.heap.size cs = W5 at *) | (have HP5 := Lib.hid (HP3.out.fresh HQ5.out.belowW HQ5.out.head); ((with_reducible refine gate_dst (N := 21) rfl ?_); refine wpList_load_row rfl 37 (.tmp 5) rfl w3.heap.size rfl 37 cs (0, 0) _ (HP5.out.blk0) Tryd.underlying37 rfl HI2.out ?_)))
    refine Calls.mono (HRR.out W5 HP5.out.belowW) ?_
    rintro e w6 ⟨rfl, hB6⟩
    have HP6 := Lib.hid (HP5.out.below hB6)
    have HF6 := Lib.hid ((HF3.out.below HQ5.out.belowW).below hB6)
    clear hB6
    go_wp2_with ((with_reducible refine gate_dst (N := 23) rfl ?_); refine wpList_load_row rfl 26 (.tmp 1) rfl w.heap.size rfl 26 cs (0, 0) _ (HP6.out.blk1) Tryd.underlying26 rfl HI1.out ?_)
    refine Calls.mono (HRI.out w6 HP6.out.belowW) ?_
    rintro e w7 ⟨rfl, hB7⟩
    have HP7 := Lib.hid (HP6.out.below hB7)
    have HF7 := Lib.hid (HF6.out.below hB7)
    clear hB7
    go_wp2_with fail
    refine Calls.mono (code_any (below_cell HP7.out.belowW HG.out) HF7.out) ?_
    rintro e w8 ⟨rfl, hB8⟩
    have HP8 := Lib.hid (HP7.out.below hB8)
    clear hB8
    go_wp2_with fail
    refine Calls.mono (awake_any _) ?_
    rintro e wz ⟨rfl, hBz⟩
    have HBZ := Lib.hid hBz
    clear hBz
    go_wp2_with fail
    go_ret
    exact ⟨rfl, HP8.out.belowW.trans (HBZ.out.mono HP8.out.belowW.size)⟩
  case true =>
  obtain ⟨A0, n0, c0, rfl, hRd⟩ := hw1 rfl
  have HRD := Lib.hid hRd
  have HN := Lib.hid hRd.len
  have hlen := encCmd_len HR.out.symm
  rw [← HN.out] at hlen
  clear hw1 hw2 hB hRd
  go_wp2_with ((with_reducible refine gate_dst (N := 19) rfl ?_); refine wpList_load_row rfl 26 (.tmp 1) rfl w.heap.size rfl 26 cs (0, 0) _ (HP2.out.blk0) Tryd.underlying26 rfl HI1.out ?_)
  refine Calls.mono (HLA.out w2) ?_
  rintro e w3 ⟨rfl, hB3⟩
  have HQ4 := Lib.hid ((Hp.nil w3).alloc (.cells #[.int .i64 0, .int .i64 0, .int .i64 0, .string ⟨#[]⟩, .int .i64 0, .int .i64 0, .int .i64 0, .int .i64 0, .int .i64 0, .string ⟨#[]⟩, .bool false, .string ⟨#[]⟩, .string ⟨#[]⟩, .string ⟨#[]⟩, .string ⟨#[]⟩, .slice none 0 0, .int .i64 0, .int .i64 0] 37))
  have HQ5 := Lib.hid (HQ4.out.setRowBlk cs)
  have HP3 := Lib.hid (HP2.out.below hB3)
  have HR3 := Lib.hid (HRD.out.below hB3)
  clear hB3
  go_wp2_with (first | ((with_reducible refine gate_store (t := 37) (p := 5) (v := .tmp 20) rfl ?_); refine wpList_store_row rfl 37 (.tmp 5) (.tmp 20) rfl w3.heap.size cs rfl rfl 37 #[.int .i64 0, .int .i64 0, .int .i64 0, .string ⟨#[]⟩, .int .i64 0, .int .i64 0, .int .i64 0, .int .i64 0, .int .i64 0, .string ⟨#[]⟩, .bool false, .string ⟨#[]⟩, .string ⟨#[]⟩, .string ⟨#[]⟩, .string ⟨#[]⟩, .slice none 0 0, .int .i64 0, .int .i64 0] HQ4.out.blk0 HI2.out (by rw [HSZ.out]; rfl) HON.out ?_; generalize (w3.alloc (.cells #[.int .i64 0, .int .i64 0, .int .i64 0, .string ⟨#[]⟩, .int .i64 0, .int .i64 0, .int .i64 0, .int .i64 0, .int .i64 0, .string ⟨#[]⟩, .bool false, .string ⟨#[]⟩, .string ⟨#[]⟩, .string ⟨#[]⟩, .string ⟨#[]⟩, .slice none 0 0, .int .i64 0, .int .i64 0] 37)).setRow w3.heap.size cs = W5 at *) | (have HP5 := Lib.hid (HP3.out.fresh HQ5.out.belowW HQ5.out.head); ((with_reducible refine gate_dst (N := 21) rfl ?_); refine wpList_load_row rfl 37 (.tmp 5) rfl w3.heap.size rfl 37 cs (0, 0) _ (HP5.out.blk0) Tryd.underlying37 rfl HI2.out ?_)))
  refine Calls.mono (HRR.out W5 HP5.out.belowW) ?_
  rintro e w6 ⟨rfl, hB6⟩
  have HP6 := Lib.hid (HP5.out.below hB6)
  have HR6 := Lib.hid ((HR3.out.below HQ5.out.belowW).below hB6)
  clear hB6
  go_wp2_with ((with_reducible refine gate_dst (N := 23) rfl ?_); refine wpList_load_row rfl 26 (.tmp 1) rfl w.heap.size rfl 26 cs (0, 0) _ (HP6.out.blk1) Tryd.underlying26 rfl HI1.out ?_)
  refine Calls.mono (HRI.out w6 HP6.out.belowW) ?_
  rintro e w7 ⟨rfl, hB7⟩
  have HP7 := Lib.hid (HP6.out.below hB7)
  have HR7 := Lib.hid (HR6.out.below hB7)
  clear hB7
  have hrd := readCmd_any A0 n0 c0 (encCmd c) w7 HR7.out (by omega) (encCmd_ok c)
  rw [read_enc HR.out.symm] at hrd
  have HRC := Lib.hid hrd
  clear hrd
  go_wp2_with fail
  refine Calls.mono HRC.out ?_
  rintro e w8 ⟨B, m, d, ev, rfl, hCB, _, hFV, hB8⟩
  obtain rfl : ev = .nilIface := by
    rcases hFV with ⟨_, h⟩ | ⟨h, _⟩
    · exact h
    · exact absurd rfl h
  have hmb : m = nb := by rw [← HNB.out]; exact (Kd.C_len hCB).symm
  subst hmb
  have HCB := Lib.hid hCB
  have HP8 := Lib.hid (HP7.out.below hB8)
  have HR8 := Lib.hid (HR7.out.below hB8)
  obtain ⟨ct, hct⟩ : ∃ ct, ct = c.cells (.slice B m d) c.n := ⟨_, rfl⟩
  have HCT := Lib.hid hct
  have hsz : ct.size = 18 := by rw [hct]; rfl
  have HTZ := Lib.hid hsz
  have HJ1 := Lib.hid (info_cmd.trans (by rw [hsz]) : (Tryd.prog.info? 26).map (·.size) = some ct.size)
  have HTN := Lib.hid (show ct.all (·.oneCell') = true by rw [hct]; exact cells_one _ _ _ _ _)
  dsimp only
  rw [← hct]
  clear hct hsz
  have HQ8 := Lib.hid ((Hp.nil w8).alloc (.cells #[.int .i64 0, .int .i64 0, .int .i64 0, .string ⟨#[]⟩, .int .i64 0, .int .i64 0, .int .i64 0, .int .i64 0, .int .i64 0, .string ⟨#[]⟩, .bool false, .string ⟨#[]⟩, .string ⟨#[]⟩, .string ⟨#[]⟩, .string ⟨#[]⟩, .slice none 0 0, .int .i64 0, .int .i64 0] 26))
  have HQ9 := Lib.hid (HQ8.out.setRowBlk ct)
  clear hCB hFV hB8 HRC
  go_wp2_with ((with_reducible refine gate_store (t := 26) (p := 7) (v := .tmp 43) rfl ?_); refine wpList_store_row rfl 26 (.tmp 7) (.tmp 43) rfl w8.heap.size ct rfl rfl 26 #[.int .i64 0, .int .i64 0, .int .i64 0, .string ⟨#[]⟩, .int .i64 0, .int .i64 0, .int .i64 0, .int .i64 0, .int .i64 0, .string ⟨#[]⟩, .bool false, .string ⟨#[]⟩, .string ⟨#[]⟩, .string ⟨#[]⟩, .string ⟨#[]⟩, .slice none 0 0, .int .i64 0, .int .i64 0] HQ8.out.blk0 HJ1.out (by rw [HTZ.out]; rfl) HTN.out ?_; generalize (w8.alloc (.cells #[.int .i64 0, .int .i64 0, .int .i64 0, .string ⟨#[]⟩, .int .i64 0, .int .i64 0, .int .i64 0, .int .i64 0, .int .i64 0, .string ⟨#[]⟩, .bool false, .string ⟨#[]⟩, .string ⟨#[]⟩, .string ⟨#[]⟩, .string ⟨#[]⟩, .slice none 0 0, .int .i64 0, .int .i64 0] 26)).setRow w8.heap.size ct = W9 at *)
  have HP9 := Lib.hid (HP8.out.fresh HQ9.out.belowW HQ9.out.head)
  have HPd := Lib.hid (HP9.out.below (Below.refl _ _).drew)
  have HBd := Lib.hid (HQ9.out.belowW.trans (Below.mono (Below.refl W9.heap.size W9).drew HQ9.out.belowW.size))
  have HRDd := Lib.hid ((HR8.out.below HQ9.out.belowW).below (Below.refl _ _).drew)
  have HSM := Lib.hid (fun W (h : Below w.heap.size w W) (h2 : Below w8.heap.size w8 W) => sameCmd_one c B m d A cb W (Kd.C_below HCB.out h2) (Kd.C_below HC.out h))
  have HLC := Lib.hid (fun W => lawCmd_any c B m d c.n W)
  rw [← HCT.out, ← HCS.out] at HSM
  rw [← HCT.out] at HLC
  refine start_ (n := 30) (S := fun w' => w'.heap[w3.heap.size]? = some (.cells cs 37 (0, 0)) ∧ w'.heap[w8.heap.size]? = some (.cells ct 26 (0, 0))) (ds := []) #[false, false, false, false, false, false, false, false, false, false, false, false, false, false, false, false, false, false, false, false, false, false, false, false, false, false, false, false, false, false] (by kernel_rfl) rfl rfl (⟨HPd.out.blk1, HPd.out.blk0⟩) (fun hHeld => ?_)
  generalize W9.drew = wd at *
  refine pure_ (i := 0) (N := (some 45)) (v := ?_) (a' := ?_) #[true, false, false, false, false, false, false, false, false, false, false, false, false, false, false, false, false, false, false, false, false, false, false, false, false, false, false, false, false, false] rfl rfl (by kernel_rfl) (fun _ _ _ h => h) (Or.inl ⟨by rfl, ?_⟩) ?_ ?_
  rotate_left
  · intro w'
    go_simp
    with_reducible rfl
  rotate_left
  · simp only [Act.put, List.setIfInBounds_toArray, List.set_cons_zero, List.set_cons_succ, i64_w, i32_w]
    rfl
  refine pure_ (i := 1) (N := (some 46)) (v := ?_) (a' := ?_) #[true, true, false, false, false, false, false, false, false, false, false, false, false, false, false, false, false, false, false, false, false, false, false, false, false, false, false, false, false, false] rfl rfl (by kernel_rfl) (fun _ _ _ h => h) (Or.inl ⟨by rfl, ?_⟩) ?_ ?_
  rotate_left
  · intro w'
    go_simp
    with_reducible rfl
  rotate_left
  · simp only [Act.put, List.setIfInBounds_toArray, List.set_cons_zero, List.set_cons_succ, i64_w, i32_w]
    rfl
  refine pure_ (i := 2) (N := (some 47)) (v := ?_) (a' := ?_) #[true, true, true, false, false, false, false, false, false, false, false, false, false, false, false, false, false, false, false, false, false, false, false, false, false, false, false, false, false, false] rfl rfl (by kernel_rfl) (fun _ _ _ h => h) (Or.inl ⟨by rfl, ?_⟩) ?_ ?_
  rotate_left
  · intro w'
    go_simp
    with_reducible rfl
  rotate_left
  · simp only [Act.put, List.setIfInBounds_toArray, List.set_cons_zero, List.set_cons_succ, i64_w, i32_w]
    rfl
  refine pure_ (i := 3) (N := (some 48)) (v := ?_) (a' := ?_) #[true, true, true, true, false, false, false, false, false, false, false, false, false, false, false, false, false, false, false, false, false, false, false, false, false, false, false, false, false, false] rfl rfl (by kernel_rfl) (fun _ _ _ h => h) (Or.inl ⟨by rfl, ?_⟩) ?_ ?_
  rotate_left
  · intro w'
    go_simp
    with_reducible rfl
  rotate_left
  · simp only [Act.put, List.setIfInBounds_toArray, List.set_cons_zero, List.set_cons_succ, i64_w, i32_w]
    rfl
  refine pure_ (i := 4) (N := (some 49)) (v := ?_) (a' := ?_) #[true, true, true, true, true, false, false, false, false, false, false, false, false, false, false, false, false, false, false, false, false, false, false, false, false, false, false, false, false, false] rfl rfl (by kernel_rfl) (fun _ _ _ h => h) (Or.inl ⟨by rfl, ?_⟩) ?_ ?_
  rotate_left
  · intro w'
    go_simp
    with_reducible rfl
  rotate_left
  · simp only [Act.put, List.setIfInBounds_toArray, List.set_cons_zero, List.set_cons_succ, i64_w, i32_w]
    rfl
  refine pure_ (i := 5) (N := (some 50)) (v := ?_) (a' := ?_) #[true, true, true, true, true, true, false, false, false, false, false, false, false, false, false, false, false, false, false, false, false, false, false, false, false, false, false, false, false, false] rfl rfl (by kernel_rfl) (fun _ _ _ h => h) (Or.inl ⟨by rfl, ?_⟩) ?_ ?_
  rotate_left
  · intro w'
    go_simp
    with_reducible rfl
  rotate_left
  · simp only [Act.put, List.setIfInBounds_toArray, List.set_cons_zero, List.set_cons_succ, i64_w, i32_w]
    rfl
  refine pure_ (i := 6) (N := (some 51)) (v := ?_) (a' := ?_) #[true, true, true, true, true, true, true, false, false, false, false, false, false, false, false, false, false, false, false, false, false, false, false, false, false, false, false, false, false, false] rfl rfl (by kernel_rfl) (fun _ _ _ h => h) (Or.inl ⟨by rfl, ?_⟩) ?_ ?_
  rotate_left
  · intro w'
    go_simp
    with_reducible rfl
  rotate_left
  · simp only [Act.put, List.setIfInBounds_toArray, List.set_cons_zero, List.set_cons_succ, i64_w, i32_w]
    rfl
  refine pure_ (i := 7) (N := (some 52)) (v := ?_) (a' := ?_) #[true, true, true, true, true, true, true, true, false, false, false, false, false, false, false, false, false, false, false, false, false, false, false, false, false, false, false, false, false, false] rfl rfl (by kernel_rfl) (fun _ _ _ h => h) (Or.inl ⟨by rfl, ?_⟩) ?_ ?_
  rotate_left
  · intro w'
    go_simp
    with_reducible rfl
  rotate_left
  · simp only [Act.put, List.setIfInBounds_toArray, List.set_cons_zero, List.set_cons_succ, i64_w, i32_w]
    rfl
  refine take_ (i := 8) (N := (some 53)) (v := ?_) (a' := ?_) #[true, true, true, true, true, true, true, true, true, false, false, false, false, false, false, false, false, false, false, false, false, false, false, false, false, false, false, false, false, false] rfl rfl (by kernel_rfl) (fun _ _ _ h => h) (Or.inl ⟨by rfl, ?_⟩) hHeld ?_ ?_
  rotate_left
  · rintro w' ⟨hh, _⟩
    refine exec_load_row 37 (.tmp 5) ?_ w3.heap.size ?_ 37 cs (0, 0) _ hh Tryd.underlying37 rfl HI2.out <;> rfl
  rotate_left
  · simp only [Act.put, List.setIfInBounds_toArray, List.set_cons_zero, List.set_cons_succ, i64_w, i32_w]
    rfl
  refine one_ (i := 9) (N := (some 54)) #[true, true, true, true, true, true, true, true, true, true, false, false, false, false, false, false, false, false, false, false, false, false, false, false, false, false, false, false, false, false] rfl rfl (by kernel_rfl) (by decide) (fun K hK => ?_)
  refine goes_ Tryd.func17 (by kernel_rfl) rfl #[.agg cs] (by rfl) rfl rfl (by first | rfl | (go_simp; done) | (simp [Act.eval]; done) | (simp [Act.eval]; rfl)) ?_
  refine Calls.mono (HWR.out (by first | rfl | trivial) wd HPd.out.belowW) ?_
  rintro e we ⟨A7, n7, c7, rfl, hP⟩
  have HPe := Lib.hid (HPd.out.below hP.belowW)
  have HBe := Lib.hid (HBd.out.trans (hP.belowW.mono HBd.out.size))
  have HR7 := Lib.hid (Rd.of hP.head)
  have HEQ := Lib.hid (eqBytes_any (encCmd_ok c) (encCmd_ok c) (HRDd.out.below hP.belowW) HR7.out)
  rw [decide_eq_true rfl] at HEQ
  clear hP
  refine ⟨_, rfl, ?_⟩
  refine hK.out _ _ (⟨HPe.out.blk1, HPe.out.blk0⟩) (fun hHeld => ?_)
  clear hK K
  refine norm_ (a' := ?_) ?_ ?_
  rotate_left
  · show Act.put _ (some 54) _ = _
    simp only [Act.put, List.setIfInBounds_toArray, List.set_cons_zero, List.set_cons_succ, i64_w, i32_w]
    rfl
  refine one_ (i := 10) (N := (some 55)) #[true, true, true, true, true, true, true, true, true, true, true, false, false, false, false, false, false, false, false, false, false, false, false, false, false, false, false, false, false, false] rfl rfl (by kernel_rfl) (by decide) (fun K hK => ?_)
  refine goes_ Tryd.func16 (by kernel_rfl) rfl #[.slice A0 n0 c0, .slice A7 n7 c7] (by rfl) rfl rfl (by first | rfl | (go_simp; done) | (simp [Act.eval]; done) | (simp [Act.eval]; rfl)) ?_
  refine Calls.mono (HEQ.out) ?_
  rintro e we2 ⟨rfl, rfl⟩
  refine ⟨_, rfl, ?_⟩
  refine hK.out _ _ (⟨HPe.out.blk1, HPe.out.blk0⟩) (fun hHeld => ?_)
  clear hK K
  refine norm_ (a' := ?_) ?_ ?_
  rotate_left
  · show Act.put _ (some 55) _ = _
    simp only [Act.put, List.setIfInBounds_toArray, List.set_cons_zero, List.set_cons_succ, i64_w, i32_w]
    rfl
  refine pure_ (i := 11) (N := (some 56)) (v := ?_) (a' := ?_) #[true, true, true, true, true, true, true, true, true, true, true, true, false, false, false, false, false, false, false, false, false, false, false, false, false, false, false, false, false, false] rfl rfl (by kernel_rfl) (fun _ _ _ h => h) (Or.inl ⟨by rfl, ?_⟩) ?_ ?_
  rotate_left
  · intro w'
    go_simp
    with_reducible rfl
  rotate_left
  · simp only [Act.put, List.setIfInBounds_toArray, List.set_cons_zero, List.set_cons_succ, i64_w, i32_w]
    rfl
  refine pure_ (i := 12) (N := (some 57)) (v := ?_) (a' := ?_) #[true, true, true, true, true, true, true, true, true, true, true, true, true, false, false, false, false, false, false, false, false, false, false, false, false, false, false, false, false, false] rfl rfl (by kernel_rfl) (fun _ _ _ h => h) (Or.inl ⟨by rfl, ?_⟩) ?_ ?_
  rotate_left
  · intro w'
    go_simp
    with_reducible rfl
  rotate_left
  · simp only [Act.put, List.setIfInBounds_toArray, List.set_cons_zero, List.set_cons_succ, i64_w, i32_w]
    rfl
  refine take_ (i := 13) (N := (some 58)) (v := ?_) (a' := ?_) #[true, true, true, true, true, true, true, true, true, true, true, true, true, true, false, false, false, false, false, false, false, false, false, false, false, false, false, false, false, false] rfl rfl (by kernel_rfl) (fun _ _ _ h => h) (Or.inl ⟨by rfl, ?_⟩) hHeld ?_ ?_
  rotate_left
  · rintro w' ⟨_, hh⟩
    refine exec_load_row 26 (.tmp 7) ?_ w8.heap.size ?_ 26 ct (0, 0) _ hh Tryd.underlying26 rfl HJ1.out <;> rfl
  rotate_left
  · simp only [Act.put, List.setIfInBounds_toArray, List.set_cons_zero, List.set_cons_succ, i64_w, i32_w]
    rfl
  refine take_ (i := 15) (N := (some 60)) (v := ?_) (a' := ?_) #[true, true, true, true, true, true, true, true, true, true, true, true, true, true, false, true, false, false, false, false, false, false, false, false, false, false, false, false, false, false] rfl rfl (by kernel_rfl) (fun _ _ _ h => h) (Or.inl ⟨by rfl, ?_⟩) hHeld ?_ ?_
  rotate_left
  · rintro w' ⟨hh, _⟩
    refine exec_load_row 37 (.tmp 5) ?_ w3.heap.size ?_ 37 cs (0, 0) _ hh Tryd.underlying37 rfl HI2.out <;> rfl
  rotate_left
  · simp only [Act.put, List.setIfInBounds_toArray, List.set_cons_zero, List.set_cons_succ, i64_w, i32_w]
    rfl
  refine one_ (i := 14) (N := (some 59)) #[true, true, true, true, true, true, true, true, true, true, true, true, true, true, true, true, false, false, false, false, false, false, false, false, false, false, false, false, false, false] rfl rfl (by kernel_rfl) (by decide) (fun K hK => ?_)
  refine goes_ Tryd.func11 (by kernel_rfl) rfl #[.agg ct] (by rfl) rfl rfl (by first | rfl | (go_simp; done) | (simp [Act.eval]; done) | (simp [Act.eval]; rfl)) ?_
  refine Calls.mono (HLC.out we) ?_
  rintro e wf ⟨rfl, hB⟩
  have HPf := Lib.hid (HPe.out.below hB)
  have HBf := Lib.hid (HBe.out.trans (hB.mono HBe.out.size))
  clear hB
  refine ⟨_, rfl, ?_⟩
  refine hK.out _ _ (⟨HPf.out.blk1, HPf.out.blk0⟩) (fun hHeld => ?_)
  clear hK K
  refine norm_ (a' := ?_) ?_ ?_
  rotate_left
  · show Act.put _ (some 59) _ = _
    simp only [Act.put, List.setIfInBounds_toArray, List.set_cons_zero, List.set_cons_succ, i64_w, i32_w]
    rfl
  refine one_ (i := 16) (N := (some 61)) #[true, true, true, true, true, true, true, true, true, true, true, true, true, true, true, true, true, false, false, false, false, false, false, false, false, false, false, false, false, false] rfl rfl (by kernel_rfl) (by decide) (fun K hK => ?_)
  refine goes_ Tryd.func18 (by kernel_rfl) rfl #[.agg ct, .agg cs] (by rfl) rfl rfl (by first | rfl | (go_simp; done) | (simp [Act.eval]; done) | (simp [Act.eval]; rfl)) ?_
  refine Calls.mono (HSM.out wf HPf.out.belowW HBf.out) ?_
  rintro e wg ⟨rfl, hB⟩
  have HPg := Lib.hid (HPf.out.below hB)
  clear hB
  refine ⟨_, rfl, ?_⟩
  refine hK.out _ _ (⟨HPg.out.blk1, HPg.out.blk0⟩) (fun hHeld => ?_)
  clear hK K
  refine norm_ (a' := ?_) ?_ ?_
  rotate_left
  · show Act.put _ (some 61) _ = _
    simp only [Act.put, List.setIfInBounds_toArray, List.set_cons_zero, List.set_cons_succ, i64_w, i32_w]
    rfl
  refine pure_ (i := 17) (N := (some 62)) (v := ?_) (a' := ?_) #[true, true, true, true, true, true, true, true, true, true, true, true, true, true, true, true, true, true, false, false, false, false, false, false, false, false, false, false, false, false] rfl rfl (by kernel_rfl) (fun _ _ _ h => h) (Or.inl ⟨by rfl, ?_⟩) ?_ ?_
  rotate_left
  · intro w'
    go_simp
    with_reducible rfl
  rotate_left
  · simp only [Act.put, List.setIfInBounds_toArray, List.set_cons_zero, List.set_cons_succ, i64_w, i32_w]
    rfl
  refine pure_ (i := 18) (N := (some 63)) (v := ?_) (a' := ?_) #[true, true, true, true, true, true, true, true, true, true, true, true, true, true, true, true, true, true, true, false, false, false, false, false, false, false, false, false, false, false] rfl rfl (by kernel_rfl) (fun _ _ _ h => h) (Or.inl ⟨by rfl, ?_⟩) ?_ ?_
  rotate_left
  · intro w'
    go_simp
    with_reducible rfl
  rotate_left
  · simp only [Act.put, List.setIfInBounds_toArray, List.set_cons_zero, List.set_cons_succ, i64_w, i32_w]
    rfl
  refine pure_ (i := 19) (N := (some 64)) (v := ?_) (a' := ?_) #[true, true, true, true, true, true, true, true, true, true, true, true, true, true, true, true, true, true, true, true, false, false, false, false, false, false, false, false, false, false] rfl rfl (by kernel_rfl) (fun _ _ _ h => h) (Or.inl ⟨by rfl, ?_⟩) ?_ ?_
  rotate_left
  · intro w'
    go_simp
    with_reducible rfl
  rotate_left
  · simp only [Act.put, List.setIfInBounds_toArray, List.set_cons_zero, List.set_cons_succ, i64_w, i32_w]
    rfl
  refine pure_ (i := 22) (N := (some 67)) (v := ?_) (a' := ?_) #[true, true, true, true, true, true, true, true, true, true, true, true, true, true, true, true, true, true, true, true, false, false, true, false, false, false, false, false, false, false] rfl rfl (by kernel_rfl) (fun _ _ _ h => h) (Or.inl ⟨by rfl, ?_⟩) ?_ ?_
  rotate_left
  · intro w'
    go_simp
    with_reducible rfl
  rotate_left
  · simp only [Act.put, List.setIfInBounds_toArray, List.set_cons_zero, List.set_cons_succ, i64_w, i32_w]
    rfl
  refine take_ (i := 20) (N := (some 65)) (v := ?_) (a' := ?_) #[true, true, true, true, true, true, true, true, true, true, true, true, true, true, true, true, true, true, true, true, true, false, true, false, false, false, false, false, false, false] rfl rfl (by kernel_rfl) (fun _ _ _ h => h) (Or.inl ⟨by rfl, ?_⟩) hHeld ?_ ?_
  rotate_left
  · rintro w' ⟨_, hh⟩
    rw [HCT.out] at hh; have g4 : w'.cell? ⟨w8.heap.size, 4, none⟩ = some (.int .i64 c.a.vis) := blk_cell hh 4; have g5 : w'.cell? ⟨w8.heap.size, 5, none⟩ = some (.int .i64 c.a.ret) := blk_cell hh 5; have g6 : w'.cell? ⟨w8.heap.size, 6, none⟩ = some (.int .i64 c.a.del) := blk_cell hh 6; have g7 : w'.cell? ⟨w8.heap.size, 7, none⟩ = some (.int .i64 c.a.win) := blk_cell hh 7; have g8 : w'.cell? ⟨w8.heap.size, 8, none⟩ = some (.int .i64 c.a.max) := blk_cell hh 8; have g9 : w'.cell? ⟨w8.heap.size, 9, none⟩ = some (.string c.a.dead) := blk_cell hh 9; have g10 : w'.cell? ⟨w8.heap.size, 10, none⟩ = some (.bool c.a.fifo) := blk_cell hh 10
    go_simp
    with_reducible rfl
  rotate_left
  · simp only [Act.put, List.setIfInBounds_toArray, List.set_cons_zero, List.set_cons_succ, i64_w, i32_w]
    rfl
  refine take_ (i := 23) (N := (some 68)) (v := ?_) (a' := ?_) #[true, true, true, true, true, true, true, true, true, true, true, true, true, true, true, true, true, true, true, true, true, false, true, true, false, false, false, false, false, false] rfl rfl (by kernel_rfl) (fun _ _ _ h => h) (Or.inl ⟨by rfl, ?_⟩) hHeld ?_ ?_
  rotate_left
  · rintro w' ⟨hh, _⟩
    rw [HCS.out] at hh; have g4 : w'.cell? ⟨w3.heap.size, 4, none⟩ = some (.int .i64 c.a.vis) := blk_cell hh 4; have g5 : w'.cell? ⟨w3.heap.size, 5, none⟩ = some (.int .i64 c.a.ret) := blk_cell hh 5; have g6 : w'.cell? ⟨w3.heap.size, 6, none⟩ = some (.int .i64 c.a.del) := blk_cell hh 6; have g7 : w'.cell? ⟨w3.heap.size, 7, none⟩ = some (.int .i64 c.a.win) := blk_cell hh 7; have g8 : w'.cell? ⟨w3.heap.size, 8, none⟩ = some (.int .i64 c.a.max) := blk_cell hh 8; have g9 : w'.cell? ⟨w3.heap.size, 9, none⟩ = some (.string c.a.dead) := blk_cell hh 9; have g10 : w'.cell? ⟨w3.heap.size, 10, none⟩ = some (.bool c.a.fifo) := blk_cell hh 10
    go_simp
    with_reducible rfl
  rotate_left
  · simp only [Act.put, List.setIfInBounds_toArray, List.set_cons_zero, List.set_cons_succ, i64_w, i32_w]
    rfl
  refine one_ (i := 21) (N := (some 66)) #[true, true, true, true, true, true, true, true, true, true, true, true, true, true, true, true, true, true, true, true, true, true, true, true, false, false, false, false, false, false] rfl rfl (by kernel_rfl) (by decide) (fun K hK => ?_)
  refine goes_ Tryd.func19 (by kernel_rfl) rfl #[.agg #[.int .i64 c.a.vis, .int .i64 c.a.ret, .int .i64 c.a.del, .int .i64 c.a.win, .int .i64 c.a.max, .string c.a.dead, .bool c.a.fifo]] (by rfl) rfl rfl (by first | rfl | (go_simp; done) | (simp [Act.eval]; done) | (simp [Act.eval]; rfl)) ?_
  refine Calls.mono (HAT.out wg) ?_
  rintro e wh ⟨rfl, hB⟩
  have HPh := Lib.hid (HPg.out.below hB)
  clear hB
  refine ⟨_, rfl, ?_⟩
  refine hK.out _ _ (⟨HPh.out.blk1, HPh.out.blk0⟩) (fun hHeld => ?_)
  clear hK K
  refine norm_ (a' := ?_) ?_ ?_
  rotate_left
  · show Act.put _ (some 66) _ = _
    simp only [Act.put, List.setIfInBounds_toArray, List.set_cons_zero, List.set_cons_succ, i64_w, i32_w]
    rfl
  refine pure_ (i := 24) (N := (some 69)) (v := ?_) (a' := ?_) #[true, true, true, true, true, true, true, true, true, true, true, true, true, true, true, true, true, true, true, true, true, true, true, true, true, false, false, false, false, false] rfl rfl (by kernel_rfl) (fun _ _ _ h => h) (Or.inl ⟨by rfl, ?_⟩) ?_ ?_
  rotate_left
  · intro w'
    go_simp
    with_reducible rfl
  rotate_left
  · simp only [Act.put, List.setIfInBounds_toArray, List.set_cons_zero, List.set_cons_succ, i64_w, i32_w]
    rfl
  refine pure_ (i := 25) (N := (some 70)) (v := ?_) (a' := ?_) #[true, true, true, true, true, true, true, true, true, true, true, true, true, true, true, true, true, true, true, true, true, true, true, true, true, true, false, false, false, false] rfl rfl (by kernel_rfl) (fun _ _ _ h => h) (Or.inl ⟨by rfl, ?_⟩) ?_ ?_
  rotate_left
  · intro w'
    go_simp
    with_reducible rfl
  rotate_left
  · simp only [Act.put, List.setIfInBounds_toArray, List.set_cons_zero, List.set_cons_succ, i64_w, i32_w]
    rfl
  refine pure_ (i := 26) (N := (some 71)) (v := ?_) (a' := ?_) #[true, true, true, true, true, true, true, true, true, true, true, true, true, true, true, true, true, true, true, true, true, true, true, true, true, true, true, false, false, false] rfl rfl (by kernel_rfl) (fun _ _ _ h => h) (Or.inl ⟨by rfl, ?_⟩) ?_ ?_
  rotate_left
  · intro w'
    go_simp
    with_reducible rfl
  rotate_left
  · simp only [Act.put, List.setIfInBounds_toArray, List.set_cons_zero, List.set_cons_succ, i64_w, i32_w]
    rfl
  refine one_ (i := 27) (N := (some 72)) #[true, true, true, true, true, true, true, true, true, true, true, true, true, true, true, true, true, true, true, true, true, true, true, true, true, true, true, true, false, false] rfl rfl (by kernel_rfl) (by decide) (fun K hK => ?_)
  refine goes_ Tryd.func9 (by kernel_rfl) rfl #[] (by rfl) rfl rfl (by first | rfl | (go_simp; done) | (simp [Act.eval]; done) | (simp [Act.eval]; rfl)) ?_
  refine Calls.mono (awake_any wh) ?_
  rintro e wi ⟨rfl, hB⟩
  have HPi := Lib.hid (HPh.out.below hB)
  clear hB
  refine ⟨_, rfl, ?_⟩
  refine hK.out _ _ (⟨HPi.out.blk1, HPi.out.blk0⟩) (fun hHeld => ?_)
  clear hK K
  refine norm_ (a' := ?_) ?_ ?_
  rotate_left
  · show Act.put _ (some 72) _ = _
    simp only [Act.put, List.setIfInBounds_toArray, List.set_cons_zero, List.set_cons_succ, i64_w, i32_w]
    rfl
  refine pure_ (i := 28) (N := (some 73)) (v := ?_) (a' := ?_) #[true, true, true, true, true, true, true, true, true, true, true, true, true, true, true, true, true, true, true, true, true, true, true, true, true, true, true, true, true, false] rfl rfl (by kernel_rfl) (fun _ _ _ h => h) (Or.inl ⟨by rfl, ?_⟩) ?_ ?_
  rotate_left
  · intro w'
    go_simp
    with_reducible rfl
  rotate_left
  · simp only [Act.put, List.setIfInBounds_toArray, List.set_cons_zero, List.set_cons_succ, i64_w, i32_w]
    rfl
  refine pure_ (i := 29) (N := (some 2)) (v := ?_) (a' := ?_) #[true, true, true, true, true, true, true, true, true, true, true, true, true, true, true, true, true, true, true, true, true, true, true, true, true, true, true, true, true, true] rfl rfl (by kernel_rfl) (fun _ _ _ h => h) (Or.inl ⟨by rfl, ?_⟩) ?_ ?_
  rotate_left
  · intro w'
    go_simp
    with_reducible rfl
  rotate_left
  · simp only [Act.put, List.setIfInBounds_toArray, List.set_cons_zero, List.set_cons_succ, i64_w, i32_w]
    rfl
  refine done_ (by kernel_rfl) ?_
  go_wp2_with fail
  go_ret
  exact ⟨rfl, HPi.out.belowW⟩
end Go.Proofs.YtidjapjidihbpaaDoor
