/- Put together: (*Shop).of at Delete; create. · (*Shop).create. · (*Shop).letter. · (*Shop).Names: slices.Sorted(maps.Keys(..)) by the shelf's contracts. -/
import Derived.Test.YtipdleiginnjmaaGreatDoorH10
import Derived.Test.YtipdleiginnjmaaGreatDoorShelfKeysQ
import Derived.Sort.KeysCollected
import Derived.Shelf.AbstractIn
set_option linter.unusedVariables false
set_option linter.unusedSimpArgs false
set_option linter.unusedVariables false
set_option linter.unusedSimpArgs false
namespace Go.Proofs.YtipdleiginnjmaaGreatDoor
open Go.RowKit Go.Maps Go.Proofs.YtipdleiginnjmaaGreatDoorW.PrintWords
theorem under_qm : Tryz.prog.underlying 90 = some (.map 9 55) := Tryz.underlying90
theorem zero_qp (w : World) : (zeroValue 55).run Tryz.prog w = .ok (.pointer none) w := by kernel_rfl
theorem Hp.swap23 {w0 w : World} {P Q R S : Asn} {Ps : List Asn} (h : Hp w0 w (P :: Q :: R :: S :: Ps)) : Hp w0 w (P :: Q :: S :: R :: Ps) := h.perm (((List.Perm.swap S R Ps).cons Q).cons P)
section
variable {w0 w : World} {Ps : List Asn} {qb sb mb lb T : Nat} {σ : Qs}
set_option maxHeartbeats 3200000 in
set_option maxRecDepth 100000 in
theorem Hp.shOf2 {nv : Value} {ms : List (ByteArray × Nat)} (h : Hp w0 w (AQu qb σ T :: ABlk sb (.cells #[nv, .map (some mb), .map (some lb)] 93 (0, 0)) :: AMg KG encB mb ms :: Ps)) (hrec : RecOk w0 T) (hE : ErrCell w0) (c : Cm) (B : Option Addr) (nb db : Nat) (hok : CmOk c) (hkind : c.kind = 2) :
    Calls Tryz.prog 70 #[.pointer (some ⟨sb, 0, none⟩), .pointer (some ⟨qb, 0, none⟩), .agg (c.cells (.slice B nb db))] w fun e w' => AnsE e (.nums [(σ.l.length : Int)]) w0 w' (AQu qb (qPurge σ) T :: ABlk sb (.cells #[nv, .map (some mb), .map (some lb)] 93 (0, 0)) :: AMg KG encB mb (mdel ms c.queue) :: Ps) := by
  have HREC := Lib.hid hrec
  have hT := hrec.2
  have HE := Lib.hid hE
  have HOK := Lib.hid hok
  have hz : (w.alloc (.cells (c.cells (.slice B nb db)) 32)).heap.size = w.heap.size + 1 := by simp
  have hp := (h.alloc (.cells (c.cells (.slice B nb db)) 32)).alloc (.cells #[.int .i64 0, .slice none 0 0, .slice none 0 0] 36)
  rw [hz] at hp
  have HP0 := Lib.hid hp
  clear hrec hE hz h hok
  go_enter Tryz.func70, Tryz.ntmps70
  go_upto_region 1 with (fail)
  change Code.wp _ _ _ _ ((w.alloc (.cells (c.cells (.slice B nb db)) 32)).alloc (.cells #[.int .i64 0, .slice none 0 0, .slice none 0 0] 36))
  generalize (w.alloc (.cells (c.cells (.slice B nb db)) 32)).alloc (.cells #[.int .i64 0, .slice none 0 0, .slice none 0 0] 36) = W0 at *
  have g2 : W0.cell? ⟨w.heap.size, 2, none⟩ = some (.int .i64 2) := by rw [← hkind]; exact blk_cell hp.blk1 2
  have g3 : W0.cell? ⟨w.heap.size, 3, none⟩ = some (.string c.queue) := blk_cell hp.blk1 3
  have p1 : W0.cell? ⟨sb, 1, none⟩ = some (.map (some mb)) := blk_cell hp.blk3 1
  clear hp hkind
  go_upto_region 9 with (fail)
  go_still_tail 6, (by kernel_rfl)
  change wpList _ _ _ _ _ W0.drew
  have HPd := Lib.hid (HP0.out.below (Below.refl _ _).drew).up4
  clear g2 g3 p1
  generalize W0.drew = wd at *
  refine wpList_del_at (K := KG) (enc := encB) HPd.out.mgUse.1 (by rfl) (.tmp 30) (.tmp 32) 90 55 rfl under_qm rfl c.queue rfl HOK.out.queue ?_
  intro w1 hM hB
  have HP1 := Lib.hid (HPd.out.mgUse.2 w1 _ hM hB).up3
  clear hM hB
  have HQC := Lib.hid (HP1.out.quPurge (show T ≤ 1000000 by omega))
  go_wp2_with fail
  refine Calls.mono HQC.out ?_
  rintro e w2 ⟨rfl, hP⟩
  have HP2 := Lib.hid hP
  clear hP
  have HPL := Lib.hid (HP2.out.alloc (.cells #[.int .i64 σ.l.length] 3))
  have hT2 := told_any 0 (some ⟨w2.heap.size, 0, none⟩) 1 1 _ (HE.out.below HPL.out.belowW)
  rw [if_pos rfl] at hT2
  have HT := Lib.hid hT2
  clear hT2
  go_wp2_with fail
  refine Calls.mono HT.out ?_
  rintro e w3 ⟨rfl, hB⟩
  have HP3 := Lib.hid (HPL.out.below hB)
  clear hB
  go_wp2_with ((with_reducible refine gate_store (t := 36) (p := 6) (v := .tmp 36) rfl ?_); refine wpList_store_row rfl 36 (.tmp 6) (.tmp 36) rfl (w.heap.size + 1) #[.int .i64 0, .slice (some ⟨w2.heap.size, 0, none⟩) 1 1, .slice none 0 0] rfl rfl 36 #[.int .i64 0, .slice none 0 0, .slice none 0 0] HP3.out.up3.blk0 info_ansS rfl (by simp [Value.oneCell']) ?_)
  have HPZ := Lib.hid (HP3.out.up3.setRowBlkS #[.int .i64 0, .slice (some ⟨w2.heap.size, 0, none⟩) 1 1, .slice none 0 0])
  refine bodyPost_ret (results_cell_row rfl _ _ (w.heap.size + 1) 36 #[.int .i64 0, .slice (some ⟨w2.heap.size, 0, none⟩) 1 1, .slice none 0 0] (0, 0) _ rfl HPZ.out.blk0 Tryz.underlying36 rfl info_ansS) rfl ?_
  exact AnsE.ofIds 0 rfl (Hp.litI [(σ.l.length : Int)] (by simp [maxLen]) (HPZ.out.tail.drop3.swap23))
end
end Go.Proofs.YtipdleiginnjmaaGreatDoor
set_option linter.unusedVariables false
set_option linter.unusedSimpArgs false
namespace Go.Proofs.YtipdleiginnjmaaGreatDoor
open Go.RowKit Go.Maps Go.Proofs.YtipdleiginnjmaaGreatDoorW.PrintWords
theorem lookQ {w : World} {mb : Nat} {ms : List (ByteArray × Nat)} (h : MapAt KG encB w mb ms) {k : ByteArray} (hk : k.size ≤ maxLen) :
    (Instr.lookup 90 (.map (some mb)) (.string k) true).run Tryz.prog w = .ok (.tuple #[((mget ms k).map encB).getD (.pointer none), .bool (mget ms k).isSome]) w := h.look under_qm (zero_qp w) (a := k) hk
section
variable {w0 w : World} {Ps : List Asn} {sb mb lb T : Nat}
def crFail (ms : List (ByteArray × Nat)) (c : Cm) : Option Int :=
  if shMayCreate c = false then some 1 else if (mget ms c.queue).isSome then some 7 else if 16 ≤ ms.length then some 5 else none
def CrE (e : Ending) (w0 w' : World) (sb mb lb : Nat) (now : Int) (ms : List (ByteArray × Nat)) (c : Cm) (Ps : List Asn) : Prop :=
  (∃ n, crFail ms c = some n ∧ AnsE e (.fail n) w0 w' (ABlk sb (.cells #[.int .i64 now, .map (some mb), .map (some lb)] 93 (0, 0)) :: AMg KG encB mb ms :: Ps)) ∨
  (crFail ms c = none ∧ ∃ qb, AnsE e ⟨0, [], []⟩ w0 w' (AQu qb (qTck (qNew c.a) now).1 0 :: ABlk sb (.cells #[.int .i64 now, .map (some mb), .map (some lb)] 93 (0, 0)) :: AMg KG encB mb (mput ms c.queue qb) :: Ps))
set_option maxHeartbeats 6400000 in
set_option maxRecDepth 100000 in
theorem Hp.shCreateC {now : Int} {ms : List (ByteArray × Nat)} (h : Hp w0 w (ABlk sb (.cells #[.int .i64 now, .map (some mb), .map (some lb)] 93 (0, 0)) :: AMg KG encB mb ms :: Ps)) (hE : ErrCell w0) (c : Cm) (vb : Value) (hok : CmOk c) (hms : ms.length ≤ 16) :
    Calls Tryz.prog 69 #[.pointer (some ⟨sb, 0, none⟩), .agg (c.cells vb)] w fun e w' => CrE e w0 w' sb mb lb now ms c Ps := by
  have HE := Lib.hid hE
  have HOK := Lib.hid hok
  have hz : (w.alloc (.cells (c.cells vb) 32)).heap.size = w.heap.size + 1 := by simp
  have hp := (h.alloc (.cells (c.cells vb) 32)).alloc (.cells #[.int .i64 0, .slice none 0 0, .slice none 0 0] 36)
  rw [hz] at hp
  have HP0 := Lib.hid hp
  clear hE hz h hok
  go_enter Tryz.func69, Tryz.ntmps69
  go_upto_region 1 with (fail)
  change Code.wp _ _ _ _ ((w.alloc (.cells (c.cells vb) 32)).alloc (.cells #[.int .i64 0, .slice none 0 0, .slice none 0 0] 36))
  generalize (w.alloc (.cells (c.cells vb) 32)).alloc (.cells #[.int .i64 0, .slice none 0 0, .slice none 0 0] 36) = W0 at *
  have lk := fun n : Nat => lookQ (w := W0.drewN n) (HP0.out.below (pw_below_drewN (Below.refl _ _) n)).up3.mgUse.1 HOK.out.queue
  obtain ⟨qv, hqv⟩ : ∃ v, v = ((mget ms c.queue).map encB).getD (.pointer none) := ⟨_, rfl⟩
  obtain ⟨isb, hisb⟩ : ∃ b, b = (mget ms c.queue).isSome := ⟨_, rfl⟩
  rw [← hqv, ← hisb] at lk
  have HIS := Lib.hid hisb
  clear hqv hisb
  have p1 : W0.cell? ⟨sb, 1, none⟩ = some (.map (some mb)) := blk_cell hp.blk2 1
  have a3 : W0.cell? ⟨w.heap.size, 3, none⟩ = some (.string c.queue) := blk_cell hp.blk1 3
  have a4 : W0.cell? ⟨w.heap.size, 4, none⟩ = some (.int .i64 c.a.vis) := blk_cell hp.blk1 4
  have a5 : W0.cell? ⟨w.heap.size, 5, none⟩ = some (.int .i64 c.a.ret) := blk_cell hp.blk1 5
  have a6 : W0.cell? ⟨w.heap.size, 6, none⟩ = some (.int .i64 c.a.del) := blk_cell hp.blk1 6
  have a7 : W0.cell? ⟨w.heap.size, 7, none⟩ = some (.int .i64 c.a.win) := blk_cell hp.blk1 7
  have a8 : W0.cell? ⟨w.heap.size, 8, none⟩ = some (.int .i64 c.a.max) := blk_cell hp.blk1 8
  have a9 : W0.cell? ⟨w.heap.size, 9, none⟩ = some (.string c.a.dead) := blk_cell hp.blk1 9
  have a10 : W0.cell? ⟨w.heap.size, 10, none⟩ = some (.bool c.a.fifo) := blk_cell hp.blk1 10
  clear hp
  go_quiet (fail)
  have hP1 := HP0.out.below (pw_below_drewN (Below.refl _ _) nq)
  have HP1 := Lib.hid hP1
  clear a3 a4 a5 a6 a7 a8 a9 a10
  clear lk p1
  generalize W0.drewN nq = W1 at *
  have a3 : W1.cell? ⟨w.heap.size, 3, none⟩ = some (.string c.queue) := blk_cell hP1.blk1 3
  have a4 : W1.cell? ⟨w.heap.size, 4, none⟩ = some (.int .i64 c.a.vis) := blk_cell hP1.blk1 4
  have a5 : W1.cell? ⟨w.heap.size, 5, none⟩ = some (.int .i64 c.a.ret) := blk_cell hP1.blk1 5
  have a6 : W1.cell? ⟨w.heap.size, 6, none⟩ = some (.int .i64 c.a.del) := blk_cell hP1.blk1 6
  have a7 : W1.cell? ⟨w.heap.size, 7, none⟩ = some (.int .i64 c.a.win) := blk_cell hP1.blk1 7
  have a8 : W1.cell? ⟨w.heap.size, 8, none⟩ = some (.int .i64 c.a.max) := blk_cell hP1.blk1 8
  have a9 : W1.cell? ⟨w.heap.size, 9, none⟩ = some (.string c.a.dead) := blk_cell hP1.blk1 9
  have a10 : W1.cell? ⟨w.heap.size, 10, none⟩ = some (.bool c.a.fifo) := blk_cell hP1.blk1 10
  have p0 : W1.cell? ⟨sb, 0, none⟩ = some (.int .i64 now) := blk_cell hP1.blk2 0
  clear hP1
  have hnew : Calls Tryz.prog 110 #[(.agg #[.int .i64 c.a.vis, .int .i64 c.a.ret, .int .i64 c.a.del, .int .i64 c.a.win, .int .i64 c.a.max, .string c.a.dead, .bool c.a.fifo])] W1 _ := HP1.out.quNew c.a
  have HNEW := Lib.hid hnew
  clear hnew
  go_wp2_with fail
  refine Calls.mono HNEW.out ?_
  rintro e w2 ⟨hn1, hn2⟩
  clear a3 a4 a5 a6 a7 a8 a9 a10
  clear p0
  cases hR : qRight c.a with
  | false =>
    obtain ⟨rfl, hP⟩ := hn1 hR
    have HP2 := Lib.hid hP
    have HR := Lib.hid hR
    clear hn1 hn2 hP hR
    have HF := Lib.hid (failed_any 1 _ (HE.out.below HP2.out.belowW))
    go_wp2_with fail
    refine Calls.mono HF.out ?_
    rintro e w8 ⟨rfl, hB⟩
    have HP8 := Lib.hid (HP2.out.below hB)
    clear hB
    go_wp2_with ((with_reducible refine gate_store (t := 36) (p := 4) (v := .tmp 37) rfl ?_); refine wpList_store_row rfl 36 (.tmp 4) (.tmp 37) rfl (w.heap.size + 1) #[.int .i64 1, .slice none 0 0, .slice none 0 0] rfl rfl 36 #[.int .i64 0, .slice none 0 0, .slice none 0 0] HP8.out.blk0 info_ansS rfl (by simp [Value.oneCell']) ?_)
    have HPZ := Lib.hid (HP8.out.setRowBlkS #[.int .i64 1, .slice none 0 0, .slice none 0 0])
    refine bodyPost_ret (results_cell_row rfl _ _ (w.heap.size + 1) 36 #[.int .i64 1, .slice none 0 0, .slice none 0 0] (0, 0) _ rfl HPZ.out.blk0 Tryz.underlying36 rfl info_ansS) rfl ?_
    exact .inl ⟨1, by unfold crFail shMayCreate; rw [HR.out]; rfl, AnsE.bare 1 HPZ.out.tail.tail⟩
  | true =>
  obtain ⟨qb, rfl, hP⟩ := hn2 hR
  have hB1 : Below w.heap.size w w := Below.refl _ _
  have HP2 := Lib.hid hP
  have a3 : w2.cell? ⟨w.heap.size, 3, none⟩ = some (.string c.queue) := blk_cell hP.blk2 3
  have HR := Lib.hid hR
  clear hn1 hn2 hP hR hB1
  by_cases hs1 : (c.queue.size : Int) < 1
  case pos =>
    have HS := Lib.hid hs1
    have HF := Lib.hid (failed_any 1 _ (HE.out.below HP2.out.belowW))
    go_wp2_with fail
    refine Calls.mono HF.out ?_
    rintro e w8 ⟨rfl, hB⟩
    have HP8 := Lib.hid (HP2.out.below hB)
    clear hB
    go_wp2_with ((with_reducible refine gate_store (t := 36) (p := 4) (v := .tmp 37) rfl ?_); refine wpList_store_row rfl 36 (.tmp 4) (.tmp 37) rfl (w.heap.size + 1) #[.int .i64 1, .slice none 0 0, .slice none 0 0] rfl rfl 36 #[.int .i64 0, .slice none 0 0, .slice none 0 0] HP8.out.up1z.blk0 info_ansS rfl (by simp [Value.oneCell']) ?_)
    have HPZ := Lib.hid (HP8.out.up1z.setRowBlkS #[.int .i64 1, .slice none 0 0, .slice none 0 0])
    refine bodyPost_ret (results_cell_row rfl _ _ (w.heap.size + 1) 36 #[.int .i64 1, .slice none 0 0, .slice none 0 0] (0, 0) _ rfl HPZ.out.blk0 Tryz.underlying36 rfl info_ansS) rfl ?_
    exact .inl ⟨1, by unfold crFail shMayCreate; rw [HR.out]; simp [show ¬ 1 ≤ c.queue.size by have := HS.out; omega], AnsE.bare 1 HPZ.out.tail.tail.tail⟩
  case neg =>
  by_cases hs2 : (64 : Int) < (c.queue.size : Int)
  case pos =>
    have HS := Lib.hid hs2
    have HF := Lib.hid (failed_any 1 _ (HE.out.below HP2.out.belowW))
    go_wp2_with fail
    refine Calls.mono HF.out ?_
    rintro e w8 ⟨rfl, hB⟩
    have HP8 := Lib.hid (HP2.out.below hB)
    clear hB
    go_wp2_with ((with_reducible refine gate_store (t := 36) (p := 4) (v := .tmp 37) rfl ?_); refine wpList_store_row rfl 36 (.tmp 4) (.tmp 37) rfl (w.heap.size + 1) #[.int .i64 1, .slice none 0 0, .slice none 0 0] rfl rfl 36 #[.int .i64 0, .slice none 0 0, .slice none 0 0] HP8.out.up1z.blk0 info_ansS rfl (by simp [Value.oneCell']) ?_)
    have HPZ := Lib.hid (HP8.out.up1z.setRowBlkS #[.int .i64 1, .slice none 0 0, .slice none 0 0])
    refine bodyPost_ret (results_cell_row rfl _ _ (w.heap.size + 1) 36 #[.int .i64 1, .slice none 0 0, .slice none 0 0] (0, 0) _ rfl HPZ.out.blk0 Tryz.underlying36 rfl info_ansS) rfl ?_
    exact .inl ⟨1, by unfold crFail shMayCreate; rw [HR.out]; simp [show ¬ c.queue.size ≤ 64 by have := HS.out; omega], AnsE.bare 1 HPZ.out.tail.tail.tail⟩
  case neg =>
  have HS1 := Lib.hid hs1
  have HS2 := Lib.hid hs2
  cases isb
  case true =>
    have HF := Lib.hid (failed_any 7 _ (HE.out.below HP2.out.belowW))
    go_wp2_with fail
    refine Calls.mono HF.out ?_
    rintro e w8 ⟨rfl, hB⟩
    have HP8 := Lib.hid (HP2.out.below hB)
    clear hB
    go_wp2_with ((with_reducible refine gate_store (t := 36) (p := 4) (v := .tmp 41) rfl ?_); refine wpList_store_row rfl 36 (.tmp 4) (.tmp 41) rfl (w.heap.size + 1) #[.int .i64 7, .slice none 0 0, .slice none 0 0] rfl rfl 36 #[.int .i64 0, .slice none 0 0, .slice none 0 0] HP8.out.up1z.blk0 info_ansS rfl (by simp [Value.oneCell']) ?_)
    have HPZ := Lib.hid (HP8.out.up1z.setRowBlkS #[.int .i64 7, .slice none 0 0, .slice none 0 0])
    refine bodyPost_ret (results_cell_row rfl _ _ (w.heap.size + 1) 36 #[.int .i64 7, .slice none 0 0, .slice none 0 0] (0, 0) _ rfl HPZ.out.blk0 Tryz.underlying36 rfl info_ansS) rfl ?_
    exact .inl ⟨7, by unfold crFail shMayCreate; rw [← HIS.out, HR.out]; simp [show 1 ≤ c.queue.size by have := HS1.out; omega, show c.queue.size ≤ 64 by have := HS2.out; omega], AnsE.bare 7 HPZ.out.tail.tail.tail⟩
  case false =>
  have q0 : w2.cell? ⟨sb, 0, none⟩ = some (.int .i64 now) := blk_cell HP2.out.blk3 0
  have q1 : w2.cell? ⟨sb, 1, none⟩ = some (.map (some mb)) := blk_cell HP2.out.blk3 1
  have HM := Lib.hid (HP2.out.up4.mgUse.1)
  by_cases h16 : 16 ≤ ms.length
  case pos =>
    have i1 : (16 : Int) ≤ (ms.length : Int) := by omega
    have HF := Lib.hid (failed_any 5 _ (HE.out.below HP2.out.belowW))
    go_wp2_with (refine wpList_len_at (K := KG) (enc := encB) HM.out (by rfl) (.tmp 46) 90 55 rfl under_qm rfl ?_)
    refine Calls.mono HF.out ?_
    rintro e w8 ⟨rfl, hB⟩
    have HP8 := Lib.hid (HP2.out.below hB)
    clear hB
    go_wp2_with ((with_reducible refine gate_store (t := 36) (p := 4) (v := .tmp 50) rfl ?_); refine wpList_store_row rfl 36 (.tmp 4) (.tmp 50) rfl (w.heap.size + 1) #[.int .i64 5, .slice none 0 0, .slice none 0 0] rfl rfl 36 #[.int .i64 0, .slice none 0 0, .slice none 0 0] HP8.out.up1z.blk0 info_ansS rfl (by simp [Value.oneCell']) ?_)
    have HPZ := Lib.hid (HP8.out.up1z.setRowBlkS #[.int .i64 5, .slice none 0 0, .slice none 0 0])
    refine bodyPost_ret (results_cell_row rfl _ _ (w.heap.size + 1) 36 #[.int .i64 5, .slice none 0 0, .slice none 0 0] (0, 0) _ rfl HPZ.out.blk0 Tryz.underlying36 rfl info_ansS) rfl ?_
    exact .inl ⟨5, by unfold crFail shMayCreate; rw [← HIS.out, HR.out]; simp [show 1 ≤ c.queue.size by have := HS1.out; omega, show c.queue.size ≤ 64 by have := HS2.out; omega, h16], AnsE.bare 5 HPZ.out.tail.tail.tail⟩
  case neg =>
  have i1 : ¬ (16 : Int) ≤ (ms.length : Int) := by omega
  go_upto_region 9 with (refine wpList_len_at (K := KG) (enc := encB) HM.out (by rfl) (.tmp 46) 90 55 rfl under_qm rfl ?_)
  have HTK := Lib.hid (HP2.out.quTck (Nat.zero_le _) now)
  go_wp2_with fail
  refine Calls.mono HTK.out ?_
  rintro e w3 ⟨A1, n1, c1, A2, n2, c2, hn1, hn2, rfl, hP⟩
  have HP3 := Lib.hid hP.tail.tail
  clear a3 q0 q1 hn1 hn2 hP HM
  have a3 : w3.cell? ⟨w.heap.size, 3, none⟩ = some (.string c.queue) := blk_cell HP3.out.blk2 3
  have q1 : w3.cell? ⟨sb, 1, none⟩ = some (.map (some mb)) := blk_cell HP3.out.blk3 1
  go_upto_region 10 with (fail)
  go_still_tail 7, (by kernel_rfl)
  change wpList _ _ _ _ _ w3.drew
  have HPd := Lib.hid (HP3.out.below (Below.refl _ _).drew).up4
  clear a3 q1
  generalize w3.drew = wd at *
  refine wpList_put_at (K := KG) (enc := encB) HPd.out.mgUse.1 (by rfl) (.tmp 60) (.tmp 62) (.tmp 63) 90 55 rfl under_qm (by simp [maxLen]; omega) rfl c.queue qb rfl rfl HOK.out.queue ?_
  intro w4 hM hB
  have HP4 := Lib.hid (HPd.out.mgUse.2 w4 _ hM hB)
  clear hM hB
  go_wp2_with ((with_reducible refine gate_store (t := 36) (p := 4) (v := .tmp 64) rfl ?_); refine wpList_store_row rfl 36 (.tmp 4) (.tmp 64) rfl (w.heap.size + 1) #[.int .i64 0, .slice none 0 0, .slice none 0 0] rfl rfl 36 #[.int .i64 0, .slice none 0 0, .slice none 0 0] HP4.out.up2.blk0 info_ansS rfl (by simp [Value.oneCell']) ?_)
  have HPZ := Lib.hid (HP4.out.up2.setRowBlkS #[.int .i64 0, .slice none 0 0, .slice none 0 0])
  refine bodyPost_ret (results_cell_row rfl _ _ (w.heap.size + 1) 36 #[.int .i64 0, .slice none 0 0, .slice none 0 0] (0, 0) _ rfl HPZ.out.blk0 Tryz.underlying36 rfl info_ansS) rfl ?_
  refine .inr ⟨by unfold crFail shMayCreate; rw [← HIS.out, HR.out]; simp [show 1 ≤ c.queue.size by have := HS1.out; omega, show c.queue.size ≤ 64 by have := HS2.out; omega]; omega, qb, AnsE.bare 0 ?_⟩
  exact (HPZ.out.tail.drop2).down2
end
end Go.Proofs.YtipdleiginnjmaaGreatDoor
set_option linter.unusedVariables false
set_option linter.unusedSimpArgs false
namespace Go.Proofs.YtipdleiginnjmaaGreatDoor
open Go.RowKit Go.Maps Go.Proofs.YtipdleiginnjmaaGreatDoorW.PrintWords
theorem fieldFifo (a : QA) (w : World) : (Instr.field 29 a.val 6).run Tryz.prog w = .ok (.bool a.fifo) w := by kernel_rfl
theorem fieldDead (a : QA) (w : World) : (Instr.field 29 a.val 5).run Tryz.prog w = .ok (.string a.dead) w := by kernel_rfl
def lq (q : List Qp) : List Nq := q.map (fun x => (x.1, x.2.2))
def nb (q : List Qp) : List (ByteArray × Nat) := q.map (fun x => (x.1, x.2.1))
theorem lq_keys (q : List Qp) : (lq q).map (·.1) = q.map (·.1) := by unfold lq; rw [List.map_map]; rfl
theorem nb_keys (q : List Qp) : (nb q).map (·.1) = q.map (·.1) := by unfold nb; rw [List.map_map]; rfl
theorem lq_some {q : List Qp} {k : ByteArray} {σ : Qs} (h : mget (lq q) k = some σ) : ∃ (b : Nat) (l1 l2 : List Qp), q = l1 ++ (k, (b, σ)) :: l2 ∧ mget (nb q) k = some b := by
  unfold lq at h
  rw [mget_map (fun x : Nat × Qs => x.2)] at h
  obtain ⟨⟨b, σ'⟩, h1, h2⟩ := Option.map_eq_some_iff.1 h
  obtain rfl : σ' = σ := h2
  obtain ⟨l1, l2, h3⟩ := mget_split h1
  exact ⟨b, l1, l2, h3, by unfold nb; rw [mget_map (fun x : Nat × Qs => x.1), h1]; rfl⟩
theorem lq_none {q : List Qp} {k : ByteArray} (h : mget (lq q) k = none) : mget (nb q) k = none := by
  unfold lq at h
  rw [mget_map (fun x : Nat × Qs => x.2), Option.map_eq_none_iff] at h
  unfold nb
  rw [mget_map (fun x : Nat × Qs => x.1), h]
  rfl
theorem lq_upd {l1 l2 : List Qp} {k : ByteArray} {b : Nat} {σ : Qs} (σ' : Qs) (hn : ((l1 ++ (k, (b, σ)) :: l2).map (·.1)).Nodup) : lq (l1 ++ (k, (b, σ')) :: l2) = mupd (lq (l1 ++ (k, (b, σ)) :: l2)) k σ' := by
  have e : ∀ s : Qs, lq (l1 ++ (k, (b, s)) :: l2) = lq l1 ++ (k, s) :: lq l2 := fun s => by unfold lq; rw [List.map_append, List.map_cons]
  rw [e, e, mupd_split]
  rw [← e, lq_keys]
  exact hn
theorem nb_upd {l1 l2 : List Qp} {k : ByteArray} {b : Nat} (σ σ' : Qs) : nb (l1 ++ (k, (b, σ')) :: l2) = nb (l1 ++ (k, (b, σ)) :: l2) := by unfold nb; rw [List.map_append, List.map_append, List.map_cons, List.map_cons]
theorem isEmpty0 (s : ByteArray) : s.toList.isEmpty = decide (s.size = 0) := isEmpty_size s
section
variable {w0 w : World} {Ps : List Asn} {sb mb lb T : Nat}
def LetE (e : Ending) (w0 w' : World) (sb mb lb : Nat) (nv : Value) (q : List Qp) (v : Mv) (T : Nat) (Ps : List Asn) : Prop :=
  ∃ q', e = .returned (.bool (shGoes (lq q) v)) ∧ lq q' = shMove (lq q) v ∧ nb q' = nb q ∧ Hp w0 w' (ABlk sb (.cells #[nv, .map (some mb), .map (some lb)] 93 (0, 0)) :: AMg KG encB mb (nb q) :: AQs q' (T + 1) :: Ps)
set_option maxHeartbeats 6400000 in
set_option maxRecDepth 100000 in
theorem Hp.shLetter {nv : Value} {q : List Qp} (h : Hp w0 w (ABlk sb (.cells #[nv, .map (some mb), .map (some lb)] 93 (0, 0)) :: AMg KG encB mb (nb q) :: AQs q T :: Ps)) (hT : T < 999999) (hnd : (q.map (·.1)).Nodup) (v : Mv) (hto : v.1.size ≤ maxLen) (hgr : v.2.2.2.2.size ≤ maxLen) :
    Calls Tryz.prog 109 #[.pointer (some ⟨sb, 0, none⟩), .string v.1, .agg #[.int .i64 v.2.1, .int .i64 v.2.2.1, .string v.2.2.2.1, .string v.2.2.2.2]] w fun e w' => LetE e w0 w' sb mb lb nv q v T Ps := by
  obtain ⟨nm, id, cnt, body, group⟩ := v
  dsimp only at hto hgr ⊢
  have HND := Lib.hid hnd
  have hp := h.alloc (.cells #[.int .i64 id, .int .i64 cnt, .string body, .string group] 199)
  have HP0 := Lib.hid hp
  have hlk := lookQ (HP0.out.up2.mgUse.1) hto
  clear h hnd
  have x2 : (w.alloc (.cells #[.int .i64 id, .int .i64 cnt, .string body, .string group] 199)).cell? ⟨w.heap.size, 2, none⟩ = some (.string body) := blk_cell hp.blk0 2
  have x3 : (w.alloc (.cells #[.int .i64 id, .int .i64 cnt, .string body, .string group] 199)).cell? ⟨w.heap.size, 3, none⟩ = some (.string group) := blk_cell hp.blk0 3
  have p1 : (w.alloc (.cells #[.int .i64 id, .int .i64 cnt, .string body, .string group] 199)).cell? ⟨sb, 1, none⟩ = some (.map (some mb)) := blk_cell hp.blk1 1
  clear hp
  cases hg : mget (lq q) nm with
  | none =>
    rw [lq_none hg] at hlk
    have hlk : (Instr.lookup 90 (.map (some mb)) (.string nm) true).run Tryz.prog _ = .ok (.tuple #[.pointer none, .bool false]) _ := hlk
    have HG := Lib.hid hg
    clear hg
    go_enter Tryz.func109, Tryz.ntmps109
    go_wp2_with fail
    go_ret
    exact ⟨q, by unfold shGoes; dsimp only; rw [HG.out]; rfl, by unfold shMove; dsimp only; rw [HG.out], rfl, ((HP0.out.tail.up2.qsMono (Nat.le_add_right _ _)).down2)⟩
  | some σ =>
  obtain ⟨b, l1, l2, hq, hb⟩ := lq_some hg
  rw [hb] at hlk
  have hlk : (Instr.lookup 90 (.map (some mb)) (.string nm) true).run Tryz.prog _ = .ok (.tuple #[.pointer (some ⟨b, 0, none⟩), .bool true]) _ := hlk
  have HG := Lib.hid hg
  have HSPL := Lib.hid hq
  have HP1 := Lib.hid (show Hp w0 _ (AQu b σ T :: AQs (l1 ++ l2) T :: ABlk w.heap.size (.cells #[.int .i64 id, .int .i64 cnt, .string body, .string group] 199 (0, 0)) :: ABlk sb (.cells #[nv, .map (some mb), .map (some lb)] 93 (0, 0)) :: AMg KG encB mb (nb q) :: Ps) from by
    have h1 := HP0.out.up3
    rw [HSPL.out] at h1 ⊢
    exact h1.qsPick)
  have hff := fieldFifo σ.a
  clear hg hq hb
  go_enter Tryz.func109, Tryz.ntmps109
  go_upto_region 5 with (fail)
  generalize w.alloc (.cells #[.int .i64 id, .int .i64 cnt, .string body, .string group] 199) = W0 at *
  clear x2 x3 p1 hlk
  go_upto_if 25 with (go_at_call 48; refine Calls.mono HP1.out.quAttr ?_; rintro e w1 ⟨rfl, hP⟩; have HP2 := Lib.hid hP; clear hP)
  have x2 : w1.cell? ⟨w.heap.size, 2, none⟩ = some (.string body) := blk_cell HP2.out.blk2 2
  have x3 : w1.cell? ⟨w.heap.size, 3, none⟩ = some (.string group) := blk_cell HP2.out.blk2 3
  clear hff
  go_cut [9] (fun gv wx => gv = .string (letGroup σ (id, (cnt, (body, group)))) ∧ wx = w1)
  case first =>
    have hlg : letGroup σ (id, (cnt, (body, group))) = if σ.a.fifo then (if group.size = 0 then ⟨#[100, 101, 97, 100]⟩ else group) else ⟨#[]⟩ := rfl
    have hie := isEmpty0 group
    cases hf : σ.a.fifo with
    | false =>
      rw [hf] at hlg
      have hlg2 : letGroup σ (id, (cnt, (body, group))) = ⟨#[]⟩ := hlg
      have HLG := Lib.hid hlg2
      clear hlg hlg2 hie
      go_wp2_with fail
      go_meet
      case rel => exact ⟨by first | (rw [HLG.out]; done) | (rw [HLG.out]; rfl), rfl⟩
    | true =>
      rw [hf] at hlg
      by_cases hz : group.size = 0
      case pos =>
        have hlg2 : letGroup σ (id, (cnt, (body, group))) = ⟨#[100, 101, 97, 100]⟩ := by rw [hlg]; simp [hz]
        have HLG := Lib.hid hlg2
        rw [decide_eq_true hz] at hie
        have hn0 := nil_size hz
        clear hlg hlg2 hz
        go_wp2_with fail
        go_meet
        case rel => exact ⟨by first | (rw [HLG.out]; done) | (rw [HLG.out]; rfl), rfl⟩
      case neg =>
        have hlg2 : letGroup σ (id, (cnt, (body, group))) = group := by rw [hlg]; simp [hz]
        have HLG := Lib.hid hlg2
        rw [decide_eq_false hz] at hie
        clear hlg hlg2 hz
        go_wp2_with fail
        go_meet
        case rel => exact ⟨by first | (rw [HLG.out]; done) | (rw [HLG.out]; rfl), rfl⟩
  case rest =>
  obtain ⟨rfl, rfl⟩ := hcut
  have hlz : (letGroup σ (id, (cnt, (body, group)))).size ≤ maxLen := by
    unfold letGroup
    split
    · split
      · simp [maxLen]
        decide
      · exact hgr
    · exact Nat.zero_le _
  have hsend := HP2.out.quSend (show T < 1000000 by omega) body (letGroup σ (id, (cnt, (body, group)))) ⟨#[]⟩ (-1) hlz (Nat.zero_le _)
  have HQL := Lib.hid (show qLetter σ (id, (cnt, (body, group))) = _ from rfl)
  obtain ⟨gr, hgr2⟩ : ∃ g, g = letGroup σ (id, (cnt, (body, group))) := ⟨_, rfl⟩
  rw [← hgr2] at hsend ⊢
  obtain ⟨⟨σ2, id2, no⟩, hr⟩ : ∃ r, r = qSend σ body gr ⟨#[]⟩ (-1) := ⟨_, rfl⟩
  have HQR := Lib.hid (show qLetter σ (id, (cnt, (body, group))) = (σ2, (id2, no)) by rw [hr, hgr2]; rfl)
  rw [← hr] at hsend
  dsimp only at hsend
  have HSEND := Lib.hid hsend
  clear hsend hr hgr2 hlz HQL
  go_wp2_with fail
  refine Calls.mono HSEND.out ?_
  rintro e w2 ⟨rfl, hP⟩
  have HP3 := Lib.hid hP
  clear hP x2 x3
  go_wp2_with fail
  go_ret
  refine ⟨l1 ++ (nm, (b, σ2)) :: l2, ?_, ?_, ?_, ?_⟩
  · unfold shGoes
    dsimp only
    rw [HG.out]
    dsimp only
    rw [HQR.out]
    rfl
  · unfold shMove
    dsimp only
    rw [HG.out]
    dsimp only
    rw [HQR.out]
    have hn := HND.out
    rw [HSPL.out] at hn ⊢
    exact lq_upd σ2 hn
  · rw [HSPL.out]
    exact nb_upd σ σ2
  · exact ((HP3.out.swap.qsMono (Nat.le_add_right _ _)).swap.qsBack).drop1.down2
end
end Go.Proofs.YtipdleiginnjmaaGreatDoor
namespace Go.Proofs.YtipdleiginnjmaaGreatDoor
open Go.RowKit Go.Maps Go.Sort Go.Proofs.YtipdleiginnjmaaGreatDoorW.PrintWords

theorem MapAt.sKeys {β : Type} {P : Program} {k : TypeId} (hk : P.underlying k = some .string) {enc : β → Value} {w : World} {b : Nat} {ps : List (ByteArray × β)} (h : MapAt (strKey hk) enc w b ps) :
    ∃ D : DataW Value, w.ownsMap P k anyV b ps.length D ∧ Maps.size D = ps.length ∧ (ps.map (fun p => p.1.data.toList)).Perm (strKeys D) := by
  obtain ⟨D, h1, h2, _, h4, h5⟩ := h
  refine ⟨D, h1, h4, ?_⟩
  have h1' := h1
  obtain ⟨es, hD, hpw, _⟩ := h1'.entries (string_keyed hk)
  obtain ⟨es', hD', hko⟩ := h1.keysOf
  obtain rfl : es = es' := by rw [hD] at hD'; simpa using hD'
  subst hD
  have hn : (ps.map (fun p => p.1.data.toList)).Nodup := by
    rw [List.nodup_iff_pairwise_ne, List.pairwise_map] at h2 ⊢
    exact h2.imp (fun {a b} hne e => hne (Go.WideShapes.bytes_inj e))
  refine perm_strKeys hpw (fun p hp => by obtain ⟨v, hv⟩ := hko p hp; obtain ⟨x, _, hx, _⟩ := Maps.keyOf_str hk hv; exact ⟨x, hx⟩) hn (fun x => ?_)
  have h6 := (h5 ⟨x.toArray⟩).1
  have h6 : Maps.has (.map es) (.string x) = (mget ps ⟨x.toArray⟩).isSome := by
    have e : (strKey hk).lit ⟨x.toArray⟩ = .string x := by show Lit.string _ = _; simp
    rw [e] at h6; exact h6
  rw [h6]
  constructor
  · intro hx
    obtain ⟨p, hp, rfl⟩ := List.mem_map.1 hx
    have e : (⟨p.1.data.toList.toArray⟩ : ByteArray) = p.1 := Go.WideShapes.bytes_inj (by simp)
    rw [e, mget_mem h2 hp]; rfl
  · intro hx
    obtain ⟨v, hv⟩ := Option.isSome_iff_exists.1 hx
    exact List.mem_map.2 ⟨_, mget_some hv, by simp⟩
theorem keysQ_any (mb : Option Nat) (w : World) : Calls Tryz.prog 43 #[.map mb] w fun e w' => e = .returned (.func (.func 75) #[] #[.pointer (some ⟨w.heap.size, 0, none⟩)]) ∧ w' = w.alloc (.cells #[.map mb] 90) :=
  (callsIn_wide (n := 5)).1 (AnyZ.keys_in Tryz.keysQ Fence.wide 5 trivial rfl mb w)
theorem sortsS (m : Nat) : AnyZ.SortsIn Tryz.prog Tryz.sortedS_ren Fence.wide m :=
  ⟨fun blk off cap ss W hH hblk hsz => callsIn_wide.2 (AnyM.slices_Sort_string Tryz.sortS blk off cap ss W hH hblk hsz),
   fun p cap W => callsIn_wide.2 (AnyM.slices_Sort_string_none Tryz.sortS p cap W)⟩
theorem rising_sorted {β : Type} {r : List (ByteArray × β)} (h : Ris r) {ss : List (List UInt8)} (hp : ss.Perm (r.map (fun p => p.1.data.toList))) : ss.mergeSort leB = r.map (fun p => p.1.data.toList) := by
  rw [mergeSort_of_perm hp]
  refine List.mergeSort_of_pairwise ?_
  rw [List.pairwise_map]
  exact List.Pairwise.imp (fun {a b} hab => by
    have hab : a.1.data.toList < b.1.data.toList := hab
    simp only [decide_eq_true_eq]
    exact List.le_of_lt hab) h
theorem sortedQ_any (w : World) (mb : Nat) (r : List (ByteArray × Nat)) (h : MapAt KG encB w mb r) (hr : Ris r) (hl : r.length ≤ 1000000) :
    Calls Tryz.prog 42 #[.func (.func 75) #[] #[.pointer (some ⟨w.heap.size, 0, none⟩)]] (w.alloc (.cells #[.map (some mb)] 90)) fun e w' => ∃ A c, e = .returned (.slice A r.length c) ∧ Kd.string.R 9 w' w.heap.size (fun _ => True) (.slice A r.length c) (r.map (·.1)) ∧ Below w.heap.size w w' := by
  have h1 := h.below (below_alloc (Below.refl _ w) (.cells #[.map (some mb)] 90))
  obtain ⟨D, hown, hsz, hperm⟩ := MapAt.sKeys Tryz.underlying9 h1
  have hb := heap_alloc_new w (.cells #[.map (some mb)] 90)
  have hB : Below w.heap.size w (w.alloc (.cells #[.map (some mb)] 90)) := below_alloc (Below.refl _ _) _
  have hz : w.heap.size < (w.alloc (.cells #[.map (some mb)] 90)).heap.size := by simp
  generalize w.alloc (.cells #[.map (some mb)] 90) = w1 at *
  have hc := blk_cell hb 0
  simp only [List.getElem?_toArray, List.getElem?_cons_zero] at hc
  have hseq : SeqGives Fence.wide 2 Tryz.prog 75 #[.pointer (some ⟨w.heap.size, 0, none⟩)] encStr (fun ss => ss.Perm (strKeys D)) (Maps.size D) w1 :=
    AnyZ.keys_gives (ρ := Tryz.keysQ_ren) { Tryz.keysQ with } Fence.wide _ trivial rfl (by omega) w.heap.size mb r.length D _ hz hc hown
  have cS := AnyZ.sorted_in Tryz.sortedS Fence.wide 5 trivial trivial trivial trivial rfl (by omega) (sortsS _) (enters_of Tryz.func74 (by kernel_rfl) rfl) 75 #[.pointer (some ⟨w.heap.size, 0, none⟩)] trivial (enters_of Tryz.func75 (by kernel_rfl) rfl) _ _ (by rw [hsz]; simp [maxLen]; omega) (by rw [hsz]; omega) _ hseq
  have cS2 : Calls Tryz.prog 42 _ _ _ := (callsIn_wide (n := 5)).1 cS
  refine Calls.mono cS2 ?_
  rintro e w' ⟨v, ss, rfl, hp, hown', _, hBl⟩
  have hs := rising_sorted hr (hp.trans hperm.symm)
  have hl2 : ss.length = (r.map (·.1)).length := by rw [(hp.trans hperm.symm).length_eq, List.length_map, List.length_map]
  have hown2 : w'.ownsRow w1.heap.size 9 1 v (r.map (·.1)).length (encs Value.string (r.map (·.1))) := by
    rw [← hl2]
    have e1 : (ss.mergeSort leB).map encStr = encs Value.string (r.map (·.1)) := by
      rw [hs]
      unfold encs
      rw [List.map_map, List.map_map]
      apply List.map_congr_left
      intro p _
      show encStr p.1.data.toList = Value.string p.1
      unfold encStr
      congr 1
    rw [← e1]
    exact hown'
  have hR : Kd.string.R 9 w' w1.heap.size (fun _ => True) v (r.map (·.1)) := Kd.R_of_own hown2 (fun _ _ => trivial)
  obtain ⟨A, c, rfl⟩ := Kd.R_slice hR
  rw [List.length_map] at hR ⊢
  exact ⟨A, c, rfl, Kd.R_lower hR (Nat.le_of_lt hz), hB.trans (hBl.mono (Nat.le_of_lt hz))⟩

section
variable {w0 w : World} {Ps : List Asn} {sb mb lb T : Nat}
abbrev AStrs (v : Value) (l : List ByteArray) : Asn := ARow Kd.string 9 v l
def NamE (e : Ending) (w0 w' : World) (l : List ByteArray) (Qs : List Asn) : Prop := ∃ A n c, e = .returned (.slice A n c) ∧ n = l.length ∧ Hp w0 w' (AStrs (.slice A n c) l :: Qs)
set_option maxHeartbeats 800000 in
theorem Hp.shNames {nv : Value} {q : List Qp} (h : Hp w0 w (ABlk sb (.cells #[nv, .map (some mb), .map (some lb)] 93 (0, 0)) :: AMg KG encB mb (nb q) :: Ps)) (hr : Ris (nb q)) (hl : q.length ≤ 1000000) :
    Calls Tryz.prog 23 #[.pointer (some ⟨sb, 0, none⟩)] w fun e w' => NamE e w0 w' (q.map (·.1)) (ABlk sb (.cells #[nv, .map (some mb), .map (some lb)] 93 (0, 0)) :: AMg KG encB mb (nb q) :: Ps) := by
  have p1 : w.cell? ⟨sb, 1, none⟩ = some (.map (some mb)) := blk_cell h.blk0 1
  have HP := Lib.hid h
  have HM := Lib.hid h.swap.mgUse.1
  have HR := Lib.hid hr
  have HS := Lib.hid (sortedQ_any w mb (nb q) h.swap.mgUse.1 hr (by unfold nb; rw [List.length_map]; exact hl))
  rw [nb_keys, show (nb q).length = (q.map (·.1)).length by unfold nb; rw [List.length_map, List.length_map]] at HS
  obtain ⟨n, hn⟩ : ∃ n, n = (q.map (·.1)).length := ⟨_, rfl⟩
  rw [← hn] at HS
  have HN := Lib.hid hn
  clear h hr hn
  go_enter Tryz.func23, Tryz.ntmps23
  go_wp2_with fail
  refine Calls.mono (keysQ_any _ w) ?_
  rintro e w1 ⟨rfl, rfl⟩
  go_wp2_with fail
  refine Calls.mono HS.out ?_
  rintro e w2 ⟨A, c, rfl, hR, hB⟩
  have HP2 := Lib.hid (HP.out.row hB hR)
  clear hR hB
  go_wp2_with fail
  go_ret
  exact ⟨A, n, c, rfl, HN.out, HP2.out⟩
end
end Go.Proofs.YtipdleiginnjmaaGreatDoor
