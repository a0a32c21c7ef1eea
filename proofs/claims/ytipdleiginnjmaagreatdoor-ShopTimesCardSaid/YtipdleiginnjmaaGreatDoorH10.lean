/- Put together: shop.told, shop.own. · shop.receive. · shop.batch. · (*Shop).of: a command of a queue, kind by kind. -/
import Derived.Test.YtipdleiginnjmaaGreatDoorH9
import Derived.Test.YtipdleiginnjmaaGreatDoorH2
import Derived.Test.YtipdleiginnjmaaGreatDoorWLast
import Derived.Test.YtipdleiginnjmaaGreatDoorH6
set_option linter.unusedVariables false
set_option linter.unusedSimpArgs false
set_option linter.unusedVariables false
set_option linter.unusedSimpArgs false
namespace Go.Proofs.YtipdleiginnjmaaGreatDoor
open Go.RowKit Go.Proofs.YtipdleiginnjmaaGreatDoorW.PrintWords Go.Proofs.YtipdleiginnjmaaGreatDoorW.PrintLast
theorem blkA3 {w : World} {g t : Nat} {x0 x1 x2 : Value} (h : w.heap[g]? = some (.cells #[x0, x1, x2] t (0, 0))) :
    w.cell? ⟨g, 0, none⟩ = some x0 ∧ w.cell? ⟨g, 1, none⟩ = some x1 ∧ w.cell? ⟨g, 2, none⟩ = some x2 ∧ ∀ i, w.frozen? ⟨g, i, none⟩ = false :=
  ⟨blk_cell h 0, blk_cell h 1, blk_cell h 2, fun i => blk_frozen h i⟩
set_option maxHeartbeats 1600000 in
set_option maxRecDepth 100000 in
theorem told_any (code : Int) (A : Option Addr) (n c : Nat) (w : World) (hE : ErrCell w) :
    Calls Tryz.prog 111 #[.int .i64 code, .slice A n c] w fun e w' => e = .returned (.agg #[.int .i64 code, if code = 0 then .slice A n c else .slice none 0 0, .slice none 0 0]) ∧ Below w.heap.size w w' := by
  have HP0 := Lib.hid ((Hp.nil w).alloc (.cells #[.int .i64 0, .slice none 0 0, .slice none 0 0] 36))
  have HF := Lib.hid (failed_any code _ (hE.below HP0.out.belowW))
  clear hE
  by_cases h0 : code = 0
  case pos =>
    subst h0
    rw [if_pos rfl]
    go_enter Tryz.func111, Tryz.ntmps111
    go_wp2_with ((with_reducible refine gate_store (t := 36) (p := 4) (v := .tmp 11) rfl ?_); refine wpList_store_row rfl 36 (.tmp 4) (.tmp 11) rfl w.heap.size #[.int .i64 0, .slice A n c, .slice none 0 0] rfl rfl 36 #[.int .i64 0, .slice none 0 0, .slice none 0 0] HP0.out.blk0 info_ansS rfl (by simp [Value.oneCell']) ?_)
    have HPZ := Lib.hid (HP0.out.setRowBlkS #[.int .i64 0, .slice A n c, .slice none 0 0])
    refine bodyPost_ret (results_cell_row rfl _ _ w.heap.size 36 #[.int .i64 0, .slice A n c, .slice none 0 0] (0, 0) _ rfl HPZ.out.blk0 Tryz.underlying36 rfl info_ansS) rfl ?_
    exact ⟨rfl, HPZ.out.belowW⟩
  case neg =>
    rw [if_neg h0]
    have hne : (code != 0) = true := by simpa using h0
    clear h0
    go_enter Tryz.func111, Tryz.ntmps111
    go_wp2_with fail
    refine Calls.mono HF.out ?_
    rintro e w1 ⟨rfl, hB⟩
    have HP1 := Lib.hid (HP0.out.below hB)
    clear hB
    go_wp2_with ((with_reducible refine gate_store (t := 36) (p := 4) (v := .tmp 9) rfl ?_); refine wpList_store_row rfl 36 (.tmp 4) (.tmp 9) rfl w.heap.size #[.int .i64 code, .slice none 0 0, .slice none 0 0] rfl rfl 36 #[.int .i64 0, .slice none 0 0, .slice none 0 0] HP1.out.blk0 info_ansS rfl (by simp [Value.oneCell']) ?_)
    have HPZ := Lib.hid (HP1.out.setRowBlkS #[.int .i64 code, .slice none 0 0, .slice none 0 0])
    refine bodyPost_ret (results_cell_row rfl _ _ w.heap.size 36 #[.int .i64 code, .slice none 0 0, .slice none 0 0] (0, 0) _ rfl HPZ.out.blk0 Tryz.underlying36 rfl info_ansS) rfl ?_
    exact ⟨rfl, HPZ.out.belowW⟩
set_option maxHeartbeats 1600000 in
set_option maxRecDepth 100000 in
theorem own_any (code : Int) (ids : List Int) (took : List Tk) (A : Option Addr) (c : Nat) (B : Option Addr) (d : Nat) (w : World) (hC : (Kd.int .i64).C w A ids.length ids) (hc : ids.length ≤ c) (hD : KTk.C w B took.length took) (hd : took.length ≤ d) (h1 : ids.length ≤ 1000000) (h2 : took.length ≤ 1000000) :
    Calls Tryz.prog 39 #[.agg #[.int .i64 code, .slice A ids.length c, .slice B took.length d]] w fun e w' => ∃ v1 v2, e = .returned (.agg #[.int .i64 code, v1, v2]) ∧ Hp w w' [ATk v2 took, AInt v1 ids] := by
  have HC := Lib.hid hC
  have HD := Lib.hid hD
  clear hC hD
  have hp := ((Hp.nil w).alloc (.cells #[.int .i64 code, .slice A ids.length c, .slice B took.length d] 36)).alloc (.cells #[.int .i64 0, .slice none 0 0, .slice none 0 0] 36)
  have hz : (w.alloc (.cells #[.int .i64 code, .slice A ids.length c, .slice B took.length d] 36)).heap.size = w.heap.size + 1 := by simp
  rw [hz] at hp
  have HP0 := Lib.hid hp
  have HPd := Lib.hid (hp.below (Below.refl _ _).drew)
  clear hp hz
  go_enter Tryz.func39, Tryz.ntmps39
  go_upto_region 1 with (fail)
  change Code.wp _ _ _ _ ((w.alloc (.cells #[.int .i64 code, .slice A ids.length c, .slice B took.length d] 36)).alloc (.cells #[.int .i64 0, .slice none 0 0, .slice none 0 0] 36))
  generalize (w.alloc (.cells #[.int .i64 code, .slice A ids.length c, .slice B took.length d] 36)).alloc (.cells #[.int .i64 0, .slice none 0 0, .slice none 0 0] 36) = W0 at *
  refine start_ (n := 10) (S := fun w' => w'.heap[w.heap.size]? = some (.cells #[.int .i64 code, .slice A ids.length c, .slice B took.length d] 36 (0, 0))) (ds := [9]) #[false, false, false, false, false, false, false, false, false, false] (by kernel_rfl) rfl rfl (HPd.out.blk1) (fun hHeld => ?_)
  generalize W0.drew = wd at *
  refine pure_ (i := 0) (N := (some 3)) (v := ?_) (a' := ?_) #[true, false, false, false, false, false, false, false, false, false] rfl rfl (by kernel_rfl) (fun _ _ _ h => h) (Or.inl ⟨by rfl, ?_⟩) ?_ ?_
  rotate_left
  · intro w'
    go_simp
    with_reducible rfl
  rotate_left
  · simp only [Act.put, List.setIfInBounds_toArray, List.set_cons_zero, List.set_cons_succ, i64_w, i32_w]
    rfl
  refine pure_ (i := 2) (N := (some 5)) (v := ?_) (a' := ?_) #[true, false, true, false, false, false, false, false, false, false] rfl rfl (by kernel_rfl) (fun _ _ _ h => h) (Or.inl ⟨by rfl, ?_⟩) ?_ ?_
  rotate_left
  · intro w'
    go_simp
    with_reducible rfl
  rotate_left
  · simp only [Act.put, List.setIfInBounds_toArray, List.set_cons_zero, List.set_cons_succ, i64_w, i32_w]
    rfl
  refine pure_ (i := 5) (N := (some 8)) (v := ?_) (a' := ?_) #[true, false, true, false, false, true, false, false, false, false] rfl rfl (by kernel_rfl) (fun _ _ _ h => h) (Or.inl ⟨by rfl, ?_⟩) ?_ ?_
  rotate_left
  · intro w'
    go_simp
    with_reducible rfl
  rotate_left
  · simp only [Act.put, List.setIfInBounds_toArray, List.set_cons_zero, List.set_cons_succ, i64_w, i32_w]
    rfl
  refine take_ (i := 1) (N := (some 4)) (v := ?_) (a' := ?_) #[true, true, true, false, false, true, false, false, false, false] rfl rfl (by kernel_rfl) (fun _ _ _ h => h) (Or.inl ⟨by rfl, ?_⟩) hHeld ?_ ?_
  rotate_left
  · rintro w' hh
    have g0 := blk_cell hh 0; simp only [List.getElem?_toArray, List.getElem?_cons_zero, List.getElem?_cons_succ] at g0
    go_simp
    with_reducible rfl
  rotate_left
  · simp only [Act.put, List.setIfInBounds_toArray, List.set_cons_zero, List.set_cons_succ, i64_w, i32_w]
    rfl
  refine take_ (i := 3) (N := (some 6)) (v := ?_) (a' := ?_) #[true, true, true, true, false, true, false, false, false, false] rfl rfl (by kernel_rfl) (fun _ _ _ h => h) (Or.inl ⟨by rfl, ?_⟩) hHeld ?_ ?_
  rotate_left
  · rintro w' hh
    have g0 := blk_cell hh 1; simp only [List.getElem?_toArray, List.getElem?_cons_zero, List.getElem?_cons_succ] at g0
    go_simp
    with_reducible rfl
  rotate_left
  · simp only [Act.put, List.setIfInBounds_toArray, List.set_cons_zero, List.set_cons_succ, i64_w, i32_w]
    rfl
  refine take_ (i := 6) (N := (some 9)) (v := ?_) (a' := ?_) #[true, true, true, true, false, true, true, false, false, false] rfl rfl (by kernel_rfl) (fun _ _ _ h => h) (Or.inl ⟨by rfl, ?_⟩) hHeld ?_ ?_
  rotate_left
  · rintro w' hh
    have g0 := blk_cell hh 2; simp only [List.getElem?_toArray, List.getElem?_cons_zero, List.getElem?_cons_succ] at g0
    go_simp
    with_reducible rfl
  rotate_left
  · simp only [Act.put, List.setIfInBounds_toArray, List.set_cons_zero, List.set_cons_succ, i64_w, i32_w]
    rfl
  refine one_ (i := 4) (N := (some 7)) #[true, true, true, true, true, true, true, false, false, false] rfl rfl (by kernel_rfl) (by decide) (fun K hK => ?_)
  refine goes_ Tryz.func71 (by kernel_rfl) rfl #[.slice A ids.length c] (by rfl) rfl rfl (by first | rfl | (go_simp; done) | (simp [Act.eval]; done) | (simp [Act.eval]; rfl)) ?_
  refine Calls.mono (clone_int A c ids wd (Kd.C_below HC.out HPd.out.belowW) hc (by omega)) ?_
  rintro e we ⟨A1, c1, rfl, hR, hB⟩
  have HPe := Lib.hid (HPd.out.row hB hR)
  clear hR hB
  refine ⟨_, rfl, ?_⟩
  refine hK.out _ _ (HPe.out.tail.blk1) (fun hHeld => ?_)
  clear hK K
  refine norm_ (a' := ?_) ?_ ?_
  rotate_left
  · show Act.put _ (some 7) _ = _
    simp only [Act.put, List.setIfInBounds_toArray, List.set_cons_zero, List.set_cons_succ, i64_w, i32_w]
    rfl
  refine one_ (i := 7) (N := (some 10)) #[true, true, true, true, true, true, true, true, false, false] rfl rfl (by kernel_rfl) (by decide) (fun K hK => ?_)
  refine goes_ Tryz.func72 (by kernel_rfl) rfl #[.slice B took.length d] (by rfl) rfl rfl (by first | rfl | (go_simp; done) | (simp [Act.eval]; done) | (simp [Act.eval]; rfl)) ?_
  refine Calls.mono (clone_took B d took we (Kd.C_below HD.out HPe.out.belowW) hd (by omega)) ?_
  rintro e wf ⟨A2, c2, rfl, hR, hB⟩
  have HPf := Lib.hid (HPe.out.row hB hR)
  clear hR hB
  refine ⟨_, rfl, ?_⟩
  refine hK.out _ _ (HPf.out.tail.tail.blk1) (fun hHeld => ?_)
  clear hK K
  refine norm_ (a' := ?_) ?_ ?_
  rotate_left
  · show Act.put _ (some 10) _ = _
    simp only [Act.put, List.setIfInBounds_toArray, List.set_cons_zero, List.set_cons_succ, i64_w, i32_w]
    rfl
  refine pure_ (i := 8) (N := (some 11)) (v := ?_) (a' := ?_) #[true, true, true, true, true, true, true, true, true, false] rfl rfl (by kernel_rfl) (fun _ _ _ h => h) (Or.inl ⟨by rfl, ?_⟩) ?_ ?_
  rotate_left
  · intro w'
    go_simp
    with_reducible rfl
  rotate_left
  · simp only [Act.put, List.setIfInBounds_toArray, List.set_cons_zero, List.set_cons_succ, i64_w, i32_w]
    rfl
  have HPr := Lib.hid HPf.out.up2
  obtain ⟨z0, z1, z2, zf⟩ := blkA3 HPr.out.blk0
  refine last_ (i := 9) (N := none) #[true, true, true, true, true, true, true, true, true, true] rfl rfl (by kernel_rfl) (by decide) (fun K hK => ?_)
  refine skip_ (w1 := ?_) (by rfl) rfl ?_ ?_
  rotate_left
  · go_simp
    rfl
  refine hK.out _ _ ?_
  clear hK K
  refine done_ (by kernel_rfl) ?_
  have HPZ := Lib.hid (((HPr.out.setBlk 0 (.int .i64 code)).setBlk 1 (.slice A1 ids.length c1)).setBlk 2 (.slice A2 took.length c2))
  simp only [List.setIfInBounds_toArray, List.set_cons_zero, List.set_cons_succ] at HPZ
  go_wp2_with fail
  refine bodyPost_ret (results_cell_row rfl _ _ (w.heap.size + 1) 36 #[.int .i64 code, .slice A1 ids.length c1, .slice A2 took.length c2] (0, 0) _ rfl HPZ.out.blk0 Tryz.underlying36 rfl info_ansS) rfl ?_
  exact ⟨_, _, rfl, HPZ.out.tail.only2⟩
end Go.Proofs.YtipdleiginnjmaaGreatDoor
set_option linter.unusedVariables false
set_option linter.unusedSimpArgs false
namespace Go.Proofs.YtipdleiginnjmaaGreatDoor
open Go.RowKit Go.Proofs.YtipdleiginnjmaaGreatDoorW.PrintWords
section
variable {w0 w : World} {Ps : List Asn} {qb T : Nat} {σ : Qs}
theorem info_cmdS : (Tryz.prog.info? 32).map (·.size) = some 18 := by kernel_rfl
theorem size_cm (c : Cm) (vb : Value) : (c.cells vb).size = 18 := rfl
set_option maxHeartbeats 3200000 in
set_option maxRecDepth 100000 in
theorem Hp.shReceive (h : Hp w0 w (AQu qb σ T :: Ps)) (hrec : RecOk w0 T) (hE : ErrCell w0) (c : Cm) (vb : Value) :
    Calls Tryz.prog 116 #[.pointer (some ⟨qb, 0, none⟩), .agg (c.cells vb)] w fun e w' => AnsE e (shRecv σ c).2 w0 w' (AQu qb (shRecv σ c).1 (T + 1) :: Ps) := by
  have HREC := Lib.hid hrec
  have HE := Lib.hid hE
  have hz : (w.alloc (.cells (c.cells vb) 32)).heap.size = w.heap.size + 1 := by simp
  have hp := (h.alloc (.cells (c.cells vb) 32)).alloc (.cells #[.int .i64 0, .slice none 0 0, .slice none 0 0] 36)
  rw [hz] at hp
  have HP0 := Lib.hid hp
  obtain ⟨R, hR⟩ : ∃ R, R = qRcv σ c.n c.m := ⟨_, rfl⟩
  have HR := Lib.hid (hp.up2.quRcv hrec c.n c.m)
  rw [← hR] at HR
  have hS : shRecv σ c = (R.1, if R.2.2 = 0 then ⟨0, [], R.2.1⟩ else .fail R.2.2) := by unfold shRecv; rw [hR]
  rw [hS]
  clear hrec hE hz hS hR h
  obtain ⟨σ', tk, no⟩ := R
  dsimp only at HR ⊢
  go_enter Tryz.func116, Tryz.ntmps116
  go_upto_region 1 with (fail)
  change Code.wp _ _ _ _ ((w.alloc (.cells (c.cells vb) 32)).alloc (.cells #[.int .i64 0, .slice none 0 0, .slice none 0 0] 36))
  generalize (w.alloc (.cells (c.cells vb) 32)).alloc (.cells #[.int .i64 0, .slice none 0 0, .slice none 0 0] 36) = W0 at *
  have g16 : W0.cell? ⟨w.heap.size, 16, none⟩ = some (.int .i64 c.n) := blk_cell hp.blk1 16
  have g17 : W0.cell? ⟨w.heap.size, 17, none⟩ = some (.int .i64 c.m) := blk_cell hp.blk1 17
  clear hp
  go_wp2_with fail
  refine Calls.mono HR.out ?_
  rintro e w1 ⟨A, k, cc, hk, rfl, hP⟩
  have HK := Lib.hid hk
  have HP1 := Lib.hid hP
  clear hk hP g16 g17
  by_cases h0 : no = 0
  case pos =>
    subst h0
    go_wp2_with ((with_reducible refine gate_store (t := 36) (p := 4) (v := .tmp 22) rfl ?_); refine wpList_store_row rfl 36 (.tmp 4) (.tmp 22) rfl (w.heap.size + 1) #[.int .i64 0, .slice none 0 0, .slice A k cc] rfl rfl 36 #[.int .i64 0, .slice none 0 0, .slice none 0 0] HP1.out.up2.blk0 info_ansS rfl (by simp [Value.oneCell']) ?_)
    have HPZ := Lib.hid (HP1.out.up2.setRowBlkS #[.int .i64 0, .slice none 0 0, .slice A k cc])
    refine bodyPost_ret (results_cell_row rfl _ _ (w.heap.size + 1) 36 #[.int .i64 0, .slice none 0 0, .slice A k cc] (0, 0) _ rfl HPZ.out.blk0 Tryz.underlying36 rfl info_ansS) rfl ?_
    exact AnsE.ofTook 0 HK.out HPZ.out.tail.drop2
  case neg =>
    have HF := Lib.hid (failed_any no w1 (HE.out.below HP1.out.belowW))
    have hne : (no != 0) = true := by simpa using h0
    have HN := Lib.hid h0
    clear h0
    go_wp2_with fail
    refine Calls.mono HF.out ?_
    rintro e w2 ⟨rfl, hB⟩
    have HP2 := Lib.hid (HP1.out.below hB)
    clear hB
    go_wp2_with ((with_reducible refine gate_store (t := 36) (p := 4) (v := .tmp 20) rfl ?_); refine wpList_store_row rfl 36 (.tmp 4) (.tmp 20) rfl (w.heap.size + 1) #[.int .i64 no, .slice none 0 0, .slice none 0 0] rfl rfl 36 #[.int .i64 0, .slice none 0 0, .slice none 0 0] HP2.out.up2.blk0 info_ansS rfl (by simp [Value.oneCell']) ?_)
    have HPZ := Lib.hid (HP2.out.up2.setRowBlkS #[.int .i64 no, .slice none 0 0, .slice none 0 0])
    refine bodyPost_ret (results_cell_row rfl _ _ (w.heap.size + 1) 36 #[.int .i64 no, .slice none 0 0, .slice none 0 0] (0, 0) _ rfl HPZ.out.blk0 Tryz.underlying36 rfl info_ansS) rfl ?_
    exact AnsE.bare no HPZ.out.tail.tail.drop1
end
end Go.Proofs.YtipdleiginnjmaaGreatDoor
set_option linter.unusedVariables false
set_option linter.unusedSimpArgs false
namespace Go.Proofs.YtipdleiginnjmaaGreatDoor
open Go.RowKit Go.Proofs.YtipdleiginnjmaaGreatDoorW.PrintWords
/-- What a command's texts and numbers are. -/
structure CmOk (c : Cm) : Prop where
  queue : c.queue.size ≤ maxLen
  group : c.group.size ≤ maxLen
  key : c.key.size ≤ maxLen
  client : (Lit.int .i64 c.client).wf = true
section
variable {w0 w : World} {Ps : List Asn} {qb T : Nat} {σ : Qs}
theorem qBatch_step {σ : Qs} {g : ByteArray} {n : Int} {b : ByteArray} {bs : List ByteArray} {acc : List Int} :
    qBatch σ g n (b :: bs) acc = if (qSend σ b g ⟨#[]⟩ n).2.2 = 0 then qBatch (qSend σ b g ⟨#[]⟩ n).1 g n bs (acc ++ [(qSend σ b g ⟨#[]⟩ n).2.1]) else ((qSend σ b g ⟨#[]⟩ n).1, ⟨(qSend σ b g ⟨#[]⟩ n).2.2, acc, []⟩) := rfl
set_option maxHeartbeats 3200000 in
set_option maxRecDepth 100000 in
theorem Hp.shBatchC (h : Hp w0 w (AQu qb σ T :: Ps)) (hrec : RecOk w0 (T + 10)) (hE : ErrCell w0) (c : Cm) (B : Option Addr) (nb db : Nat) (hB : ∀ w1, Hp w0 w1 Ps → Kd.string.C w1 B nb c.bodies) (hok : CmOk c) :
    Calls Tryz.prog 115 #[.pointer (some ⟨qb, 0, none⟩), .agg (c.cells (.slice B nb db))] w fun e w' => AnsE e (shBatch σ c).2 w0 w' (AQu qb (shBatch σ c).1 (T + 10) :: Ps) := by
  have HREC := Lib.hid hrec
  have HE := Lib.hid hE
  have HBD := Lib.hid hB
  have hlen : c.bodies.length = nb := Kd.C_len (hB w h.tail)
  have hmx := Kd.C_max (hB w h.tail)
  have HLEN := Lib.hid hlen
  have HOK := Lib.hid hok
  have hz : (w.alloc (.cells (c.cells (.slice B nb db)) 32)).heap.size = w.heap.size + 1 := by simp
  have hp := (h.alloc (.cells (c.cells (.slice B nb db)) 32)).alloc (.cells #[.int .i64 0, .slice none 0 0, .slice none 0 0] 36)
  rw [hz] at hp
  have HP0 := Lib.hid hp
  have HBAD := Lib.hid (fun hh => show shBatch σ c = (σ, .fail 1) by unfold shBatch; rw [if_pos (by rw [hlen]; exact hh)])
  have HGO := Lib.hid (fun hh => show shBatch σ c = qBatch σ c.group c.n c.bodies [] by unfold shBatch; rw [if_neg (by rw [hlen]; exact hh)])
  obtain ⟨R, hR⟩ : ∃ R, R = shBatch σ c := ⟨_, rfl⟩
  rw [← hR] at HBAD HGO ⊢
  clear hrec hE hB hz hR h hok hlen
  go_enter Tryz.func115, Tryz.ntmps115
  go_upto_region 1 with (fail)
  change Code.wp _ _ _ _ ((w.alloc (.cells (c.cells (.slice B nb db)) 32)).alloc (.cells #[.int .i64 0, .slice none 0 0, .slice none 0 0] 36))
  generalize (w.alloc (.cells (c.cells (.slice B nb db)) 32)).alloc (.cells #[.int .i64 0, .slice none 0 0, .slice none 0 0] 36) = W0 at *
  have g15 : W0.cell? ⟨w.heap.size, 15, none⟩ = some (.slice B nb db) := blk_cell hp.blk1 15
  clear hp
  by_cases hbad : nb < 1 ∨ 10 < nb
  case pos =>
    have HRE := Lib.hid (HBAD.out hbad)
    have HF := fun W (hB : Below W0.heap.size W0 W) => failed_any 1 W (HE.out.below (HP0.out.belowW.trans (hB.mono HP0.out.belowW.size)))
    have hcase : (nb : Int) < 1 ∨ (¬ (nb : Int) < 1 ∧ (10 : Int) < (nb : Int)) := by omega
    clear hbad
    rcases hcase with i1 | ⟨i1, i2⟩
    all_goals
      go_wp2_with fail
      refine Calls.mono (HF W0 (Below.refl _ _)) ?_
      rintro e w2 ⟨rfl, hB⟩
      have HP2 := Lib.hid (HP0.out.below hB)
      clear hB HF
      go_wp2_with ((with_reducible refine gate_store (t := 36) (p := 4) (v := .tmp 21) rfl ?_); refine wpList_store_row rfl 36 (.tmp 4) (.tmp 21) rfl (w.heap.size + 1) #[.int .i64 1, .slice none 0 0, .slice none 0 0] rfl rfl 36 #[.int .i64 0, .slice none 0 0, .slice none 0 0] HP2.out.blk0 info_ansS rfl (by simp [Value.oneCell']) ?_)
      have HPZ := Lib.hid (HP2.out.setRowBlkS #[.int .i64 1, .slice none 0 0, .slice none 0 0])
      refine bodyPost_ret (results_cell_row rfl _ _ (w.heap.size + 1) 36 #[.int .i64 1, .slice none 0 0, .slice none 0 0] (0, 0) _ rfl HPZ.out.blk0 Tryz.underlying36 rfl info_ansS) rfl ?_
      rw [HRE.out]
      exact AnsE.bare 1 (HPZ.out.tail.tail.quMono (by omega))
  case neg =>
  have HRE := Lib.hid (HGO.out hbad)
  have i1 : ¬ (nb : Int) < 1 := by omega
  have i2 : ¬ (10 : Int) < (nb : Int) := by omega
  have hnb : nb ≤ 10 := by omega
  clear hbad
  have HP1 := Lib.hid ((HP0.out.alloc (.cells #[.int .i64 0, .slice none 0 0, .slice none 0 0] 36)).nilRowS (Kd.int .i64) 3)
  go_upto_region 4 with (fail)
  clear g15
  obtain ⟨ob, hob⟩ : ∃ k, k = W0.heap.size := ⟨_, rfl⟩
  rw [← hob] at HP1 ⊢
  clear hob
  generalize W0.alloc (.cells #[.int .i64 0, .slice none 0 0, .slice none 0 0] 36) = W1 at *
  have HP2 := Lib.hid (show Hp w0 W1 (AQu qb σ T :: ABlk ob (.cells #[.int .i64 0, .slice none 0 0, .slice none 0 0] 36 (0, 0)) :: AInt (.slice none 0 0) [] :: ABlk (w.heap.size + 1) (.cells #[.int .i64 0, .slice none 0 0, .slice none 0 0] 36 (0, 0)) :: ABlk w.heap.size (.cells (c.cells (.slice B nb db)) 32 (0, 0)) :: Ps) from HP1.out.up4.swap2)
  have g15 : W1.cell? ⟨w.heap.size, 15, none⟩ = some (.slice B nb db) := blk_cell HP2.out.up4.blk0 15
  go_wp2_with fail
  go_loopw [25] (fun i wr => ∃ (j : Nat) (σj : Qs) (acc : List Int) (v : Value), i = .int .i64 j ∧ j ≤ nb ∧ Hid (R = qBatch σj c.group c.n (c.bodies.drop j) acc) ∧ Hid (acc.length = j) ∧ Hp w0 wr (AQu qb σj (T + j) :: ABlk ob (.cells #[.int .i64 0, v, .slice none 0 0] 36 (0, 0)) :: AInt v acc :: ABlk (w.heap.size + 1) (.cells #[.int .i64 0, .slice none 0 0, .slice none 0 0] 36 (0, 0)) :: ABlk w.heap.size (.cells (c.cells (.slice B nb db)) 32 (0, 0)) :: Ps)) (fun i _ => nb - (intOf i).toNat)
  case atStart => exact ⟨0, σ, [], .slice none 0 0, rfl, Nat.zero_le _, Lib.hid HRE.out, Lib.hid rfl, HP2.out⟩
  case round =>
    obtain ⟨j, σj, acc, v, rfl, hj, HS, HL, hQ⟩ := hrel
    have HQ := Lib.hid hQ
    have g6 : wr.cell? ⟨w.heap.size, 12, none⟩ = some (.string c.group) := blk_cell hQ.up4.blk0 12
    have g10 : wr.cell? ⟨w.heap.size, 16, none⟩ = some (.int .i64 c.n) := blk_cell hQ.up4.blk0 16
    obtain ⟨y0, y1, y2, yf⟩ := blkA3 hQ.blk1
    clear hQ
    by_cases hjn : j < nb
    case neg =>
      have hj' : j = nb := by omega
      subst hj'
      obtain ⟨A6, c6, hv6⟩ := Kd.R_slice HQ.out.up2.head
      obtain ⟨n6, hn6⟩ : ∃ k, k = acc.length := ⟨_, rfl⟩
      rw [← hn6] at hv6
      subst hv6
      have HN6 := Lib.hid hn6
      clear hn6 g6 g10
      have HX := Lib.hid (HQ.out.up3)
      go_wp2_with ((with_reducible refine gate_store (t := 36) (p := 4) (v := .tmp 51) rfl ?_); refine wpList_store_row rfl 36 (.tmp 4) (.tmp 51) rfl (w.heap.size + 1) #[.int .i64 0, .slice A6 n6 c6, .slice none 0 0] rfl rfl 36 #[.int .i64 0, .slice none 0 0, .slice none 0 0] HX.out.blk0 info_ansS rfl (by simp [Value.oneCell']) ?_)
      have HPZ := Lib.hid (HX.out.setRowBlkS #[.int .i64 0, .slice A6 n6 c6, .slice none 0 0])
      refine bodyPost_ret (results_cell_row rfl _ _ (w.heap.size + 1) 36 #[.int .i64 0, .slice A6 n6 c6, .slice none 0 0] (0, 0) _ rfl HPZ.out.blk0 Tryz.underlying36 rfl info_ansS) rfl ?_
      rw [HS.out, List.drop_of_length_le (by rw [HLEN.out]; exact Nat.le_refl _)]
      exact AnsE.ofIds 0 HN6.out (HPZ.out.tail.up2.drop2.drop2.swap.quMono (by omega)).swap
    case pos =>
      have i3 : (j : Int) < (nb : Int) := by omega
      have i4 : (0 : Int) ≤ (j : Int) := by omega
      obtain ⟨ad, b, rfl, hx, d0⟩ := C_nth_scalar (HBD.out wr HQ.out.tail.tail.tail.tail.tail) j hjn
      have HD := Lib.hid (show c.bodies.drop j = b :: c.bodies.drop (j + 1) by
        have hlt := (List.getElem?_eq_some_iff.1 hx).1
        rw [List.drop_eq_getElem_cons hlt, (List.getElem?_eq_some_iff.1 hx).2])
      have hT := HREC.out.2
      have hsend := HQ.out.quSend (show T + j < 1000000 by omega) b c.group ⟨#[]⟩ c.n HOK.out.group (Nat.zero_le _)
      have HST := Lib.hid (HS.out.trans (by rw [HD.out, qBatch_step]))
      obtain ⟨⟨σ2, id, no⟩, hr⟩ : ∃ r, r = qSend σj b c.group ⟨#[]⟩ c.n := ⟨_, rfl⟩
      rw [← hr] at hsend HST
      dsimp only at hsend HST
      have HSEND := Lib.hid hsend
      clear hsend hr hx hT
      go_wp2_with fail
      refine Calls.mono HSEND.out ?_
      rintro e w2 ⟨rfl, hP⟩
      have HP3 := Lib.hid hP
      clear hP y0 y1 y2 yf g6 g10 d0
      obtain ⟨y0, y1, y2, yf⟩ := blkA3 HP3.out.blk1
      by_cases h0 : no = 0
      case neg =>
        have hne : (no != 0) = true := by simpa using h0
        rw [if_neg h0] at HST
        clear h0
        obtain ⟨A6, c6, hv6⟩ := Kd.R_slice HP3.out.up2.head
        obtain ⟨n6, hn6⟩ : ∃ k, k = acc.length := ⟨_, rfl⟩
        rw [← hn6] at hv6
        subst hv6
        have HN6 := Lib.hid hn6
        clear hn6
        have HX0 := Lib.hid (HP3.out.swap.setBlk 0 (.int .i64 no))
        simp only [List.setIfInBounds_toArray, List.set_cons_zero, List.set_cons_succ] at HX0
        go_upto_region 10 with (fail)
        clear y0 y1 y2 yf
        generalize w2.setCell ⟨ob, 0, none⟩ (.int .i64 no) = W3 at *
        obtain ⟨y0, y1, y2, yf⟩ := blkA3 HX0.out.blk0
        have HX := Lib.hid HX0.out.up3
        go_wp2_with ((with_reducible refine gate_store (t := 36) (p := 4) (v := .tmp 43) rfl ?_); refine wpList_store_row rfl 36 (.tmp 4) (.tmp 43) rfl (w.heap.size + 1) #[.int .i64 no, .slice A6 n6 c6, .slice none 0 0] rfl rfl 36 #[.int .i64 0, .slice none 0 0, .slice none 0 0] HX.out.blk0 info_ansS rfl (by simp [Value.oneCell']) ?_)
        have HPZ := Lib.hid (HX.out.setRowBlkS #[.int .i64 no, .slice A6 n6 c6, .slice none 0 0])
        refine bodyPost_ret (results_cell_row rfl _ _ (w.heap.size + 1) 36 #[.int .i64 no, .slice A6 n6 c6, .slice none 0 0] (0, 0) _ rfl HPZ.out.blk0 Tryz.underlying36 rfl info_ansS) rfl ?_
        rw [HST.out]
        exact AnsE.ofIds no HN6.out (HPZ.out.tail.tail.drop2.quMono (by omega)).swap
      case pos =>
        have hne : (no != 0) = false := by simpa using h0
        rw [if_pos h0] at HST
        clear h0
        obtain ⟨okr, hR1, hR2, hR3⟩ := HP3.out.up2.appended
        have HR1 := Lib.hid hR1
        have HR2 := Lib.hid hR2
        have HR3 := Lib.hid hR3
        clear hR1 hR2 hR3
        go_wp2_with (at_builtin; refine Kd.R_append (Kd.int .i64) (w0 := w2) 0 rfl (.tmp 45) (.tmp 47) 33 3 (.int .i64 0) 8 rfl Tryz.underlying33 info_int rfl (by decide) (by omega) v acc id [.int .i64 id] okr (fun _ => False) rfl rfl (by rfl) (fun _ hk => hk.elim) HR2.out HR1.out (Below.refl _ _) (Nat.zero_le _) (by rw [HL.out]; omega) ?_; intro v6 w6 hR6 hB6 hg6 _; obtain ⟨A6, d6, hv6⟩ := Kd.R_slice hR6; obtain ⟨n6, hn6⟩ : ∃ k, k = (acc ++ [id]).length := ⟨_, rfl⟩; rw [← hn6] at hv6; subst hv6; have HP6 := Lib.hid (HR3.out _ _ _ hR6 hg6); obtain ⟨c0, c1, c2, cf⟩ := blkA3 HP6.out.blk2; clear y0 y1 y2 yf hn6)
        have HPB := Lib.hid (HP6.out.up2.setBlk 1 (.slice A6 n6 d6))
        simp only [List.setIfInBounds_toArray, List.set_cons_zero, List.set_cons_succ] at HPB
        refine ⟨⟨j + 1, σ2, acc ++ [id], .slice A6 n6 d6, by simp, by omega, Lib.hid HST.out, Lib.hid (by rw [List.length_append, HL.out]; rfl), HPB.out.up2⟩, ?_⟩
        simp [intOf]
        omega
end
end Go.Proofs.YtipdleiginnjmaaGreatDoor
set_option linter.unusedVariables false
set_option linter.unusedSimpArgs false
namespace Go.Proofs.YtipdleiginnjmaaGreatDoor
open Go.RowKit Go.Maps Go.Proofs.YtipdleiginnjmaaGreatDoorW.PrintWords
section
variable {w0 w : World} {Ps : List Asn} {qb T : Nat} {σ : Qs}
/-- A literal row of numbers. -/
theorem Hp.litI {g : Nat} (l : List Int) (hl : l.length ≤ maxLen) (h : Hp w0 w (ABlk g (.cells (l.map (Value.int .i64)).toArray 3 (0, 0)) :: Ps)) : Hp w0 w (AInt (.slice (some ⟨g, 0, none⟩) l.length l.length) l :: Ps) := by
  obtain ⟨S1, h1, h2⟩ := h.use1
  refine h2 w _ (Keep.refl _ _) ?_
  refine Kd.R_of_own ⟨by simp [encs], .inr ⟨g, l.length, _, rfl, Nat.zero_le _, h1.2, Nat.le_refl _, hl, by simp, by simp [encs]; exact List.take_of_length_le (by simp)⟩⟩ (fun k hk => ?_)
  have : g = k := by simpa [Value.ownBlock] using hk
  exact .inl (this ▸ h1.1)
theorem all3 {a b c : Value} (ha : a.oneCell' = true) (hb : b.oneCell' = true) (hc : c.oneCell' = true) : (#[a, b, c] : Array Value).all (·.oneCell') = true := by simp [ha, hb, hc]
theorem AnsE.told {w0 w' : World} {Qs : List Asn} {g : Nat} {e x : Int} (h : Hp w0 w' (ABlk g (.cells #[.int .i64 x] 3 (0, 0)) :: Qs)) :
    AnsE (.returned (.agg #[.int .i64 e, if e = 0 then .slice (some ⟨g, 0, none⟩) 1 1 else .slice none 0 0, .slice none 0 0])) (.told e [x]) w0 w' Qs := by
  by_cases h0 : e = 0
  · rw [if_pos h0, An.told, if_pos h0, h0]
    exact AnsE.ofIds 0 rfl (Hp.litI [x] (by simp [maxLen]) h)
  · rw [if_neg h0, An.told, if_neg h0]
    exact AnsE.bare e h.tail
theorem AnsE.toldV {w0 w' : World} {Qs : List Asn} {g : Nat} {e x : Int} {v2 : Value} (hv : v2 = if e = 0 then .slice (some ⟨g, 0, none⟩) 1 1 else .slice none 0 0) (h : Hp w0 w' (ABlk g (.cells #[.int .i64 x] 3 (0, 0)) :: Qs)) : AnsE (.returned (.agg #[.int .i64 e, v2, .slice none 0 0])) (.told e [x]) w0 w' Qs := by
  subst hv
  exact AnsE.told h
theorem AnsE.told0 {w0 w' : World} {Qs : List Asn} {e : Int} (h : Hp w0 w' Qs) :
    AnsE (.returned (.agg #[.int .i64 e, if e = 0 then .slice none 0 0 else .slice none 0 0, .slice none 0 0])) (.told e []) w0 w' Qs := by
  by_cases h0 : e = 0
  · rw [if_pos h0, An.told, if_pos h0, h0]
    exact AnsE.bare 0 h
  · rw [if_neg h0, An.told, if_neg h0]
    exact AnsE.bare e h
theorem lawOf4 {σ : Qs} {c : Cm} (h : c.kind = 4) : shOf σ c = (qPurge σ, .nums [(σ.l.length : Int)]) := by unfold shOf; rw [if_pos h]
theorem lawOf3 {σ : Qs} {c : Cm} (h : c.kind = 3) : shOf σ c = (qSet σ c.a, .told (qSetE σ c.a) []) := by unfold shOf; rw [if_neg (by omega), if_pos h]
theorem lawOf5 {σ : Qs} {c : Cm} (h : c.kind = 5) : shOf σ c = ((qSend σ c.body c.group c.key c.n).1, .told (qSend σ c.body c.group c.key c.n).2.2 [(qSend σ c.body c.group c.key c.n).2.1]) := by unfold shOf; rw [if_neg (by omega), if_neg (by omega), if_pos h]
theorem lawOf6 {σ : Qs} {c : Cm} (h : c.kind = 6) : shOf σ c = shBatch σ c := by unfold shOf; rw [if_neg (by omega), if_neg (by omega), if_neg (by omega), if_pos h]
theorem lawOf7 {σ : Qs} {c : Cm} (h : c.kind = 7) : shOf σ c = shRecv σ c := by unfold shOf; rw [if_neg (by omega), if_neg (by omega), if_neg (by omega), if_neg (by omega), if_pos h]
theorem lawOf8 {σ : Qs} {c : Cm} (h : c.kind = 8) : shOf σ c = ((qAck σ c.receipt).1, .told (qAck σ c.receipt).2.2 [(qAck σ c.receipt).2.1]) := by unfold shOf; rw [if_neg (by omega), if_neg (by omega), if_neg (by omega), if_neg (by omega), if_neg (by omega), if_pos h]
theorem lawOf9 {σ : Qs} {c : Cm} (h : c.kind = 9) : shOf σ c = ((qExt σ c.receipt c.n).1, .told (qExt σ c.receipt c.n).2 []) := by unfold shOf; rw [if_neg (by omega), if_neg (by omega), if_neg (by omega), if_neg (by omega), if_neg (by omega), if_neg (by omega)]
theorem Hp.up1z {w0 w : World} {P Q : Asn} {Ps : List Asn} (h : Hp w0 w (P :: Q :: Ps)) : Hp w0 w (Q :: P :: Ps) := h.swap
set_option maxHeartbeats 3200000 in
set_option maxRecDepth 100000 in
theorem Hp.shOf4 (h : Hp w0 w (AQu qb σ T :: Ps)) (hrec : RecOk w0 (T + 10)) (hE : ErrCell w0) (sv : Value) (c : Cm) (B : Option Addr) (nb db : Nat) (hB : ∀ w1, Hp w0 w1 Ps → Kd.string.C w1 B nb c.bodies) (hok : CmOk c) (hkind : c.kind = 4) :
    Calls Tryz.prog 70 #[sv, .pointer (some ⟨qb, 0, none⟩), .agg (c.cells (.slice B nb db))] w fun e w' => AnsE e (shOf σ c).2 w0 w' (AQu qb (shOf σ c).1 (T + 10) :: Ps) := by
  rw [lawOf4 hkind]
  have HREC := Lib.hid hrec
  have hT := hrec.2
  have HE := Lib.hid hE
  have HOK := Lib.hid hok
  have hz : (w.alloc (.cells (c.cells (.slice B nb db)) 32)).heap.size = w.heap.size + 1 := by simp
  have hp := (h.alloc (.cells (c.cells (.slice B nb db)) 32)).alloc (.cells #[.int .i64 0, .slice none 0 0, .slice none 0 0] 36)
  rw [hz] at hp
  have HP0 := Lib.hid hp
  have HPB := Lib.hid hB
  clear hrec hE hz h hok hB
  go_enter Tryz.func70, Tryz.ntmps70
  go_upto_region 1 with (fail)
  change Code.wp _ _ _ _ ((w.alloc (.cells (c.cells (.slice B nb db)) 32)).alloc (.cells #[.int .i64 0, .slice none 0 0, .slice none 0 0] 36))
  generalize (w.alloc (.cells (c.cells (.slice B nb db)) 32)).alloc (.cells #[.int .i64 0, .slice none 0 0, .slice none 0 0] 36) = W0 at *
  have g2 : W0.cell? ⟨w.heap.size, 2, none⟩ = some (.int .i64 4) := by rw [← hkind]; exact blk_cell hp.blk1 2
  clear hp hkind
  have HQC := Lib.hid (HP0.out.up2.quPurge (show T ≤ 1000000 by omega))
  go_wp2_with fail
  refine Calls.mono HQC.out ?_
  rintro e w1 ⟨rfl, hP⟩
  have HP1 := Lib.hid hP
  clear hP
  have HPL := Lib.hid (HP1.out.alloc (.cells #[.int .i64 σ.l.length] 3))
  have hT := told_any 0 (some ⟨w1.heap.size, 0, none⟩) 1 1 _ (HE.out.below HPL.out.belowW)
  rw [if_pos rfl] at hT
  have HT := Lib.hid hT
  clear hT
  go_wp2_with fail
  refine Calls.mono HT.out ?_
  rintro e w2 ⟨rfl, hB⟩
  have HP2 := Lib.hid (HPL.out.below hB)
  clear hB
  go_wp2_with ((with_reducible refine gate_store (t := 36) (p := 6) (v := .tmp 36) rfl ?_); refine wpList_store_row rfl 36 (.tmp 6) (.tmp 36) rfl (w.heap.size + 1) #[.int .i64 0, .slice (some ⟨w1.heap.size, 0, none⟩) 1 1, .slice none 0 0] rfl rfl 36 #[.int .i64 0, .slice none 0 0, .slice none 0 0] HP2.out.up2.blk0 info_ansS rfl (by simp [Value.oneCell']) ?_)
  have HPZ := Lib.hid (HP2.out.up2.setRowBlkS #[.int .i64 0, .slice (some ⟨w1.heap.size, 0, none⟩) 1 1, .slice none 0 0])
  refine bodyPost_ret (results_cell_row rfl _ _ (w.heap.size + 1) 36 #[.int .i64 0, .slice (some ⟨w1.heap.size, 0, none⟩) 1 1, .slice none 0 0] (0, 0) _ rfl HPZ.out.blk0 Tryz.underlying36 rfl info_ansS) rfl ?_
  exact AnsE.ofIds 0 rfl (Hp.litI [(σ.l.length : Int)] (by simp [maxLen]) (HPZ.out.tail.drop2.swap.quMono (show T ≤ T + 10 by omega)).swap)
set_option maxHeartbeats 3200000 in
set_option maxRecDepth 100000 in
theorem Hp.shOf3 (h : Hp w0 w (AQu qb σ T :: Ps)) (hrec : RecOk w0 (T + 10)) (hE : ErrCell w0) (sv : Value) (c : Cm) (B : Option Addr) (nb db : Nat) (hB : ∀ w1, Hp w0 w1 Ps → Kd.string.C w1 B nb c.bodies) (hok : CmOk c) (hkind : c.kind = 3) :
    Calls Tryz.prog 70 #[sv, .pointer (some ⟨qb, 0, none⟩), .agg (c.cells (.slice B nb db))] w fun e w' => AnsE e (shOf σ c).2 w0 w' (AQu qb (shOf σ c).1 (T + 10) :: Ps) := by
  rw [lawOf3 hkind]
  have HREC := Lib.hid hrec
  have hT := hrec.2
  have HE := Lib.hid hE
  have HOK := Lib.hid hok
  have hz : (w.alloc (.cells (c.cells (.slice B nb db)) 32)).heap.size = w.heap.size + 1 := by simp
  have hp := (h.alloc (.cells (c.cells (.slice B nb db)) 32)).alloc (.cells #[.int .i64 0, .slice none 0 0, .slice none 0 0] 36)
  rw [hz] at hp
  have HP0 := Lib.hid hp
  have HPB := Lib.hid hB
  clear hrec hE hz h hok hB
  go_enter Tryz.func70, Tryz.ntmps70
  go_upto_region 1 with (fail)
  change Code.wp _ _ _ _ ((w.alloc (.cells (c.cells (.slice B nb db)) 32)).alloc (.cells #[.int .i64 0, .slice none 0 0, .slice none 0 0] 36))
  generalize (w.alloc (.cells (c.cells (.slice B nb db)) 32)).alloc (.cells #[.int .i64 0, .slice none 0 0, .slice none 0 0] 36) = W0 at *
  have g2 : W0.cell? ⟨w.heap.size, 2, none⟩ = some (.int .i64 3) := by rw [← hkind]; exact blk_cell hp.blk1 2
  have a4 : W0.cell? ⟨w.heap.size, 4, none⟩ = some (.int .i64 c.a.vis) := blk_cell hp.blk1 4
  have a5 : W0.cell? ⟨w.heap.size, 5, none⟩ = some (.int .i64 c.a.ret) := blk_cell hp.blk1 5
  have a6 : W0.cell? ⟨w.heap.size, 6, none⟩ = some (.int .i64 c.a.del) := blk_cell hp.blk1 6
  have a7 : W0.cell? ⟨w.heap.size, 7, none⟩ = some (.int .i64 c.a.win) := blk_cell hp.blk1 7
  have a8 : W0.cell? ⟨w.heap.size, 8, none⟩ = some (.int .i64 c.a.max) := blk_cell hp.blk1 8
  have a9 : W0.cell? ⟨w.heap.size, 9, none⟩ = some (.string c.a.dead) := blk_cell hp.blk1 9
  have a10 : W0.cell? ⟨w.heap.size, 10, none⟩ = some (.bool c.a.fifo) := blk_cell hp.blk1 10
  clear hp hkind
  have hset : Calls Tryz.prog 113 #[.pointer (some ⟨qb, 0, none⟩), (.agg #[.int .i64 c.a.vis, .int .i64 c.a.ret, .int .i64 c.a.del, .int .i64 c.a.win, .int .i64 c.a.max, .string c.a.dead, .bool c.a.fifo])] W0 _ := HP0.out.up2.quSet c.a
  have HQC := Lib.hid hset
  clear hset
  go_wp2_with fail
  refine Calls.mono HQC.out ?_
  rintro e w1 ⟨rfl, hP⟩
  have HP1 := Lib.hid hP
  clear hP
  obtain ⟨es, hes⟩ : ∃ es, es = qSetE σ c.a := ⟨_, rfl⟩
  rw [← hes]
  have HES := Lib.hid hes
  clear hes
  have HT := Lib.hid (told_any es none 0 0 _ (HE.out.below HP1.out.belowW))
  go_wp2_with fail
  refine Calls.mono HT.out ?_
  rintro e w2 ⟨rfl, hB⟩
  have HP2 := Lib.hid (HP1.out.below hB)
  clear hB
  obtain ⟨v2, hv2⟩ : ∃ v, v = (if es = 0 then Value.slice none 0 0 else .slice none 0 0) := ⟨_, rfl⟩
  try rw [← hv2]
  have hone : v2 = .slice none 0 0 := by rw [hv2]; split <;> rfl
  clear hv2
  subst hone
  try simp only [ite_self]
  go_wp2_with ((with_reducible refine gate_store (t := 36) (p := 6) (v := .tmp 41) rfl ?_); refine wpList_store_row rfl 36 (.tmp 6) (.tmp 41) rfl (w.heap.size + 1) #[.int .i64 es, .slice none 0 0, .slice none 0 0] rfl rfl 36 #[.int .i64 0, .slice none 0 0, .slice none 0 0] HP2.out.up1z.blk0 info_ansS rfl (by simp [Value.oneCell']) ?_)
  have HPZ := Lib.hid (HP2.out.up1z.setRowBlkS #[.int .i64 es, .slice none 0 0, .slice none 0 0])
  refine bodyPost_ret (results_cell_row rfl _ _ (w.heap.size + 1) 36 #[.int .i64 es, .slice none 0 0, .slice none 0 0] (0, 0) _ rfl HPZ.out.blk0 Tryz.underlying36 rfl info_ansS) rfl ?_
  have hfin := AnsE.told0 (e := es) (HPZ.out.tail.drop1.quMono (show T ≤ T + 10 by omega))
  simp only [ite_self] at hfin
  rw [← HES.out]
  exact hfin
set_option maxHeartbeats 3200000 in
set_option maxRecDepth 100000 in
theorem Hp.shOf5 (h : Hp w0 w (AQu qb σ T :: Ps)) (hrec : RecOk w0 (T + 10)) (hE : ErrCell w0) (sv : Value) (c : Cm) (B : Option Addr) (nb db : Nat) (hB : ∀ w1, Hp w0 w1 Ps → Kd.string.C w1 B nb c.bodies) (hok : CmOk c) (hkind : c.kind = 5) :
    Calls Tryz.prog 70 #[sv, .pointer (some ⟨qb, 0, none⟩), .agg (c.cells (.slice B nb db))] w fun e w' => AnsE e (shOf σ c).2 w0 w' (AQu qb (shOf σ c).1 (T + 10) :: Ps) := by
  rw [lawOf5 hkind]
  have HREC := Lib.hid hrec
  have hT := hrec.2
  have HE := Lib.hid hE
  have HOK := Lib.hid hok
  have hz : (w.alloc (.cells (c.cells (.slice B nb db)) 32)).heap.size = w.heap.size + 1 := by simp
  have hp := (h.alloc (.cells (c.cells (.slice B nb db)) 32)).alloc (.cells #[.int .i64 0, .slice none 0 0, .slice none 0 0] 36)
  rw [hz] at hp
  have HP0 := Lib.hid hp
  have HPB := Lib.hid hB
  clear hrec hE hz h hok hB
  go_enter Tryz.func70, Tryz.ntmps70
  go_upto_region 1 with (fail)
  change Code.wp _ _ _ _ ((w.alloc (.cells (c.cells (.slice B nb db)) 32)).alloc (.cells #[.int .i64 0, .slice none 0 0, .slice none 0 0] 36))
  generalize (w.alloc (.cells (c.cells (.slice B nb db)) 32)).alloc (.cells #[.int .i64 0, .slice none 0 0, .slice none 0 0] 36) = W0 at *
  have g2 : W0.cell? ⟨w.heap.size, 2, none⟩ = some (.int .i64 5) := by rw [← hkind]; exact blk_cell hp.blk1 2
  have g11 : W0.cell? ⟨w.heap.size, 11, none⟩ = some (.string c.body) := blk_cell hp.blk1 11
  have g12 : W0.cell? ⟨w.heap.size, 12, none⟩ = some (.string c.group) := blk_cell hp.blk1 12
  have g13 : W0.cell? ⟨w.heap.size, 13, none⟩ = some (.string c.key) := blk_cell hp.blk1 13
  have g16 : W0.cell? ⟨w.heap.size, 16, none⟩ = some (.int .i64 c.n) := blk_cell hp.blk1 16
  clear hp hkind
  have HQC := Lib.hid (HP0.out.up2.quSend (show T < 1000000 by omega) c.body c.group c.key c.n HOK.out.group HOK.out.key)
  go_wp2_with fail
  refine Calls.mono HQC.out ?_
  rintro e w1 ⟨rfl, hP⟩
  have HP1 := Lib.hid hP
  clear hP
  obtain ⟨⟨σ2, id, no⟩, hr⟩ : ∃ r, r = qSend σ c.body c.group c.key c.n := ⟨_, rfl⟩
  rw [← hr] at HP1
  rw [← hr]
  have HRR := Lib.hid hr
  dsimp only at HP1 ⊢
  clear hr
  have HPL := Lib.hid (HP1.out.alloc (.cells #[.int .i64 id] 3))
  have HT := Lib.hid (told_any no (some ⟨w1.heap.size, 0, none⟩) 1 1 _ (HE.out.below HPL.out.belowW))
  go_wp2_with fail
  refine Calls.mono HT.out ?_
  rintro e w2 ⟨rfl, hB⟩
  have HP2 := Lib.hid (HPL.out.below hB)
  clear hB
  obtain ⟨v2, hv2⟩ : ∃ v, v = (if no = 0 then Value.slice (some ⟨w1.heap.size, 0, none⟩) 1 1 else .slice none 0 0) := ⟨_, rfl⟩
  rw [← hv2]
  have hone : v2.oneCell' = true := by rw [hv2]; split <;> rfl
  have HV := Lib.hid hv2
  clear hv2
  go_wp2_with ((with_reducible refine gate_store (t := 36) (p := 6) (v := .tmp 58) rfl ?_); refine wpList_store_row rfl 36 (.tmp 6) (.tmp 58) rfl (w.heap.size + 1) #[.int .i64 no, v2, .slice none 0 0] rfl rfl 36 #[.int .i64 0, .slice none 0 0, .slice none 0 0] HP2.out.up2.blk0 info_ansS rfl (all3 rfl hone rfl) ?_)
  have HPZ := Lib.hid (HP2.out.up2.setRowBlkS #[.int .i64 no, v2, .slice none 0 0])
  refine bodyPost_ret (results_cell_row rfl _ _ (w.heap.size + 1) 36 #[.int .i64 no, v2, .slice none 0 0] (0, 0) _ rfl HPZ.out.blk0 Tryz.underlying36 rfl info_ansS) rfl ?_
  rw [← HRR.out]
  exact AnsE.toldV HV.out (HPZ.out.tail.drop2.swap.quMono (by omega)).swap
set_option maxHeartbeats 3200000 in
set_option maxRecDepth 100000 in
theorem Hp.shOf8 (h : Hp w0 w (AQu qb σ T :: Ps)) (hrec : RecOk w0 (T + 10)) (hE : ErrCell w0) (sv : Value) (c : Cm) (B : Option Addr) (nb db : Nat) (hB : ∀ w1, Hp w0 w1 Ps → Kd.string.C w1 B nb c.bodies) (hok : CmOk c) (hkind : c.kind = 8) :
    Calls Tryz.prog 70 #[sv, .pointer (some ⟨qb, 0, none⟩), .agg (c.cells (.slice B nb db))] w fun e w' => AnsE e (shOf σ c).2 w0 w' (AQu qb (shOf σ c).1 (T + 10) :: Ps) := by
  rw [lawOf8 hkind]
  have HREC := Lib.hid hrec
  have hT := hrec.2
  have HE := Lib.hid hE
  have HOK := Lib.hid hok
  have hz : (w.alloc (.cells (c.cells (.slice B nb db)) 32)).heap.size = w.heap.size + 1 := by simp
  have hp := (h.alloc (.cells (c.cells (.slice B nb db)) 32)).alloc (.cells #[.int .i64 0, .slice none 0 0, .slice none 0 0] 36)
  rw [hz] at hp
  have HP0 := Lib.hid hp
  have HPB := Lib.hid hB
  clear hrec hE hz h hok hB
  go_enter Tryz.func70, Tryz.ntmps70
  go_upto_region 1 with (fail)
  change Code.wp _ _ _ _ ((w.alloc (.cells (c.cells (.slice B nb db)) 32)).alloc (.cells #[.int .i64 0, .slice none 0 0, .slice none 0 0] 36))
  generalize (w.alloc (.cells (c.cells (.slice B nb db)) 32)).alloc (.cells #[.int .i64 0, .slice none 0 0, .slice none 0 0] 36) = W0 at *
  have g2 : W0.cell? ⟨w.heap.size, 2, none⟩ = some (.int .i64 8) := by rw [← hkind]; exact blk_cell hp.blk1 2
  have g14 : W0.cell? ⟨w.heap.size, 14, none⟩ = some (.string c.receipt) := blk_cell hp.blk1 14
  clear hp hkind
  have HQC := Lib.hid (HP0.out.up2.quAck (HREC.out.le (Nat.le_add_right _ _)) c.receipt)
  go_wp2_with fail
  refine Calls.mono HQC.out ?_
  rintro e w1 ⟨rfl, hP⟩
  have HP1 := Lib.hid hP
  clear hP
  obtain ⟨⟨σ2, id, no⟩, hr⟩ : ∃ r, r = qAck σ c.receipt := ⟨_, rfl⟩
  rw [← hr] at HP1
  rw [← hr]
  have HRR := Lib.hid hr
  dsimp only at HP1 ⊢
  clear hr
  have HPL := Lib.hid (HP1.out.alloc (.cells #[.int .i64 id] 3))
  have HT := Lib.hid (told_any no (some ⟨w1.heap.size, 0, none⟩) 1 1 _ (HE.out.below HPL.out.belowW))
  go_wp2_with fail
  refine Calls.mono HT.out ?_
  rintro e w2 ⟨rfl, hB⟩
  have HP2 := Lib.hid (HPL.out.below hB)
  clear hB
  obtain ⟨v2, hv2⟩ : ∃ v, v = (if no = 0 then Value.slice (some ⟨w1.heap.size, 0, none⟩) 1 1 else .slice none 0 0) := ⟨_, rfl⟩
  rw [← hv2]
  have hone : v2.oneCell' = true := by rw [hv2]; split <;> rfl
  have HV := Lib.hid hv2
  clear hv2
  go_wp2_with ((with_reducible refine gate_store (t := 36) (p := 6) (v := .tmp 75) rfl ?_); refine wpList_store_row rfl 36 (.tmp 6) (.tmp 75) rfl (w.heap.size + 1) #[.int .i64 no, v2, .slice none 0 0] rfl rfl 36 #[.int .i64 0, .slice none 0 0, .slice none 0 0] HP2.out.up2.blk0 info_ansS rfl (all3 rfl hone rfl) ?_)
  have HPZ := Lib.hid (HP2.out.up2.setRowBlkS #[.int .i64 no, v2, .slice none 0 0])
  refine bodyPost_ret (results_cell_row rfl _ _ (w.heap.size + 1) 36 #[.int .i64 no, v2, .slice none 0 0] (0, 0) _ rfl HPZ.out.blk0 Tryz.underlying36 rfl info_ansS) rfl ?_
  rw [← HRR.out]
  exact AnsE.toldV HV.out (HPZ.out.tail.drop2.swap.quMono (by omega)).swap
set_option maxHeartbeats 3200000 in
set_option maxRecDepth 100000 in
theorem Hp.shOf9 (h : Hp w0 w (AQu qb σ T :: Ps)) (hrec : RecOk w0 (T + 10)) (hE : ErrCell w0) (sv : Value) (c : Cm) (B : Option Addr) (nb db : Nat) (hB : ∀ w1, Hp w0 w1 Ps → Kd.string.C w1 B nb c.bodies) (hok : CmOk c) (hkind : c.kind = 9) :
    Calls Tryz.prog 70 #[sv, .pointer (some ⟨qb, 0, none⟩), .agg (c.cells (.slice B nb db))] w fun e w' => AnsE e (shOf σ c).2 w0 w' (AQu qb (shOf σ c).1 (T + 10) :: Ps) := by
  rw [lawOf9 hkind]
  have HREC := Lib.hid hrec
  have hT := hrec.2
  have HE := Lib.hid hE
  have HOK := Lib.hid hok
  have hz : (w.alloc (.cells (c.cells (.slice B nb db)) 32)).heap.size = w.heap.size + 1 := by simp
  have hp := (h.alloc (.cells (c.cells (.slice B nb db)) 32)).alloc (.cells #[.int .i64 0, .slice none 0 0, .slice none 0 0] 36)
  rw [hz] at hp
  have HP0 := Lib.hid hp
  have HPB := Lib.hid hB
  clear hrec hE hz h hok hB
  go_enter Tryz.func70, Tryz.ntmps70
  go_upto_region 1 with (fail)
  change Code.wp _ _ _ _ ((w.alloc (.cells (c.cells (.slice B nb db)) 32)).alloc (.cells #[.int .i64 0, .slice none 0 0, .slice none 0 0] 36))
  generalize (w.alloc (.cells (c.cells (.slice B nb db)) 32)).alloc (.cells #[.int .i64 0, .slice none 0 0, .slice none 0 0] 36) = W0 at *
  have g2 : W0.cell? ⟨w.heap.size, 2, none⟩ = some (.int .i64 9) := by rw [← hkind]; exact blk_cell hp.blk1 2
  have g14 : W0.cell? ⟨w.heap.size, 14, none⟩ = some (.string c.receipt) := blk_cell hp.blk1 14
  have g16 : W0.cell? ⟨w.heap.size, 16, none⟩ = some (.int .i64 c.n) := blk_cell hp.blk1 16
  clear hp hkind
  have HQC := Lib.hid (HP0.out.up2.quExt (HREC.out.le (Nat.le_add_right _ _)) c.receipt c.n)
  go_wp2_with fail
  refine Calls.mono HQC.out ?_
  rintro e w1 ⟨rfl, hP⟩
  have HP1 := Lib.hid hP
  clear hP
  obtain ⟨⟨σ2, es⟩, hr⟩ : ∃ r, r = qExt σ c.receipt c.n := ⟨_, rfl⟩
  rw [← hr] at HP1
  rw [← hr]
  have HRR := Lib.hid hr
  dsimp only at HP1 ⊢
  clear hr
  have HT := Lib.hid (told_any es none 0 0 _ (HE.out.below HP1.out.belowW))
  go_wp2_with fail
  refine Calls.mono HT.out ?_
  rintro e w2 ⟨rfl, hB⟩
  have HP2 := Lib.hid (HP1.out.below hB)
  clear hB
  obtain ⟨v2, hv2⟩ : ∃ v, v = (if es = 0 then Value.slice none 0 0 else .slice none 0 0) := ⟨_, rfl⟩
  try rw [← hv2]
  have hone : v2 = .slice none 0 0 := by rw [hv2]; split <;> rfl
  clear hv2
  subst hone
  try simp only [ite_self]
  go_wp2_with ((with_reducible refine gate_store (t := 36) (p := 6) (v := .tmp 82) rfl ?_); refine wpList_store_row rfl 36 (.tmp 6) (.tmp 82) rfl (w.heap.size + 1) #[.int .i64 es, .slice none 0 0, .slice none 0 0] rfl rfl 36 #[.int .i64 0, .slice none 0 0, .slice none 0 0] HP2.out.up1z.blk0 info_ansS rfl (by simp [Value.oneCell']) ?_)
  have HPZ := Lib.hid (HP2.out.up1z.setRowBlkS #[.int .i64 es, .slice none 0 0, .slice none 0 0])
  refine bodyPost_ret (results_cell_row rfl _ _ (w.heap.size + 1) 36 #[.int .i64 es, .slice none 0 0, .slice none 0 0] (0, 0) _ rfl HPZ.out.blk0 Tryz.underlying36 rfl info_ansS) rfl ?_
  have hfin := AnsE.told0 (e := es) (HPZ.out.tail.drop1.quMono (show T ≤ T + 10 by omega))
  simp only [ite_self] at hfin
  rw [← HRR.out]
  exact hfin
theorem Hp.drop3 {w0 w : World} {P Q R S : Asn} {Ps : List Asn} (h : Hp w0 w (P :: Q :: R :: S :: Ps)) : Hp w0 w (P :: Q :: R :: Ps) := h.up3.tail
set_option maxHeartbeats 3200000 in
set_option maxRecDepth 100000 in
theorem Hp.shOf6 (h : Hp w0 w (AQu qb σ T :: Ps)) (hrec : RecOk w0 (T + 10)) (hE : ErrCell w0) (sv : Value) (c : Cm) (B : Option Addr) (nb db : Nat) (hB : ∀ w1, Hp w0 w1 Ps → Kd.string.C w1 B nb c.bodies) (hok : CmOk c) (hkind : c.kind = 6) :
    Calls Tryz.prog 70 #[sv, .pointer (some ⟨qb, 0, none⟩), .agg (c.cells (.slice B nb db))] w fun e w' => AnsE e (shOf σ c).2 w0 w' (AQu qb (shOf σ c).1 (T + 10) :: Ps) := by
  rw [lawOf6 hkind]
  have HREC := Lib.hid hrec
  have hT := hrec.2
  have HE := Lib.hid hE
  have HOK := Lib.hid hok
  have hz : (w.alloc (.cells (c.cells (.slice B nb db)) 32)).heap.size = w.heap.size + 1 := by simp
  have hp := (h.alloc (.cells (c.cells (.slice B nb db)) 32)).alloc (.cells #[.int .i64 0, .slice none 0 0, .slice none 0 0] 36)
  rw [hz] at hp
  have HP0 := Lib.hid hp
  have HPB := Lib.hid hB
  clear hrec hE hz h hok hB
  go_enter Tryz.func70, Tryz.ntmps70
  go_upto_region 1 with (fail)
  change Code.wp _ _ _ _ ((w.alloc (.cells (c.cells (.slice B nb db)) 32)).alloc (.cells #[.int .i64 0, .slice none 0 0, .slice none 0 0] 36))
  generalize (w.alloc (.cells (c.cells (.slice B nb db)) 32)).alloc (.cells #[.int .i64 0, .slice none 0 0, .slice none 0 0] 36) = W0 at *
  have g2 : W0.cell? ⟨w.heap.size, 2, none⟩ = some (.int .i64 6) := by rw [← hkind]; exact blk_cell hp.blk1 2
  clear hp hkind
  have HQC := Lib.hid (HP0.out.up2.shBatchC HREC.out HE.out c B nb db (fun w1 h1 => HPB.out w1 h1.tail.tail) HOK.out)
  obtain ⟨⟨σ2, an⟩, hr⟩ : ∃ r, r = shBatch σ c := ⟨_, rfl⟩
  rw [← hr] at HQC
  have HRR := Lib.hid hr
  clear hr
  dsimp only at HQC
  go_wp2_with ((with_reducible refine gate_dst (N := 60) rfl ?_); refine wpList_load_row rfl 32 (.tmp 5) rfl w.heap.size rfl 32 (c.cells (.slice B nb db)) (0, 0) _ (HP0.out.blk1) Tryz.underlying32 rfl info_cmdS ?_)
  refine Calls.mono HQC.out ?_
  rintro e w1 ⟨A1, n1, c1, B1, m1, d1, rfl, hn, hm, hP⟩
  have HN := Lib.hid hn
  have HM := Lib.hid hm
  have HP1 := Lib.hid hP
  clear hn hm hP
  go_wp2_with ((with_reducible refine gate_store (t := 36) (p := 6) (v := .tmp 61) rfl ?_); refine wpList_store_row rfl 36 (.tmp 6) (.tmp 61) rfl (w.heap.size + 1) #[.int .i64 an.code, .slice A1 n1 c1, .slice B1 m1 d1] rfl rfl 36 #[.int .i64 0, .slice none 0 0, .slice none 0 0] HP1.out.up3.blk0 info_ansS rfl (by simp [Value.oneCell']) ?_)
  have HPZ := Lib.hid (HP1.out.up3.setRowBlkS #[.int .i64 an.code, .slice A1 n1 c1, .slice B1 m1 d1])
  refine bodyPost_ret (results_cell_row rfl _ _ (w.heap.size + 1) 36 #[.int .i64 an.code, .slice A1 n1 c1, .slice B1 m1 d1] (0, 0) _ rfl HPZ.out.blk0 Tryz.underlying36 rfl info_ansS) rfl ?_
  rw [← HRR.out]
  exact ⟨A1, n1, c1, B1, m1, d1, rfl, HN.out, HM.out, (HPZ.out.tail.drop3.up2.quMono (by omega)).down2⟩
set_option maxHeartbeats 3200000 in
set_option maxRecDepth 100000 in
theorem Hp.shOf7 (h : Hp w0 w (AQu qb σ T :: Ps)) (hrec : RecOk w0 (T + 10)) (hE : ErrCell w0) (sv : Value) (c : Cm) (B : Option Addr) (nb db : Nat) (hB : ∀ w1, Hp w0 w1 Ps → Kd.string.C w1 B nb c.bodies) (hok : CmOk c) (hkind : c.kind = 7) :
    Calls Tryz.prog 70 #[sv, .pointer (some ⟨qb, 0, none⟩), .agg (c.cells (.slice B nb db))] w fun e w' => AnsE e (shOf σ c).2 w0 w' (AQu qb (shOf σ c).1 (T + 10) :: Ps) := by
  rw [lawOf7 hkind]
  have HREC := Lib.hid hrec
  have hT := hrec.2
  have HE := Lib.hid hE
  have HOK := Lib.hid hok
  have hz : (w.alloc (.cells (c.cells (.slice B nb db)) 32)).heap.size = w.heap.size + 1 := by simp
  have hp := (h.alloc (.cells (c.cells (.slice B nb db)) 32)).alloc (.cells #[.int .i64 0, .slice none 0 0, .slice none 0 0] 36)
  rw [hz] at hp
  have HP0 := Lib.hid hp
  have HPB := Lib.hid hB
  clear hrec hE hz h hok hB
  go_enter Tryz.func70, Tryz.ntmps70
  go_upto_region 1 with (fail)
  change Code.wp _ _ _ _ ((w.alloc (.cells (c.cells (.slice B nb db)) 32)).alloc (.cells #[.int .i64 0, .slice none 0 0, .slice none 0 0] 36))
  generalize (w.alloc (.cells (c.cells (.slice B nb db)) 32)).alloc (.cells #[.int .i64 0, .slice none 0 0, .slice none 0 0] 36) = W0 at *
  have g2 : W0.cell? ⟨w.heap.size, 2, none⟩ = some (.int .i64 7) := by rw [← hkind]; exact blk_cell hp.blk1 2
  clear hp hkind
  have HQC := Lib.hid (HP0.out.up2.shReceive (HREC.out.le (Nat.le_add_right _ _)) HE.out c (.slice B nb db))
  obtain ⟨⟨σ2, an⟩, hr⟩ : ∃ r, r = shRecv σ c := ⟨_, rfl⟩
  rw [← hr] at HQC
  have HRR := Lib.hid hr
  clear hr
  dsimp only at HQC
  go_wp2_with ((with_reducible refine gate_dst (N := 63) rfl ?_); refine wpList_load_row rfl 32 (.tmp 5) rfl w.heap.size rfl 32 (c.cells (.slice B nb db)) (0, 0) _ (HP0.out.blk1) Tryz.underlying32 rfl info_cmdS ?_)
  refine Calls.mono HQC.out ?_
  rintro e w1 ⟨A1, n1, c1, B1, m1, d1, rfl, hn, hm, hP⟩
  have HN := Lib.hid hn
  have HM := Lib.hid hm
  have HP1 := Lib.hid hP
  clear hn hm hP
  go_wp2_with ((with_reducible refine gate_store (t := 36) (p := 6) (v := .tmp 64) rfl ?_); refine wpList_store_row rfl 36 (.tmp 6) (.tmp 64) rfl (w.heap.size + 1) #[.int .i64 an.code, .slice A1 n1 c1, .slice B1 m1 d1] rfl rfl 36 #[.int .i64 0, .slice none 0 0, .slice none 0 0] HP1.out.up3.blk0 info_ansS rfl (by simp [Value.oneCell']) ?_)
  have HPZ := Lib.hid (HP1.out.up3.setRowBlkS #[.int .i64 an.code, .slice A1 n1 c1, .slice B1 m1 d1])
  refine bodyPost_ret (results_cell_row rfl _ _ (w.heap.size + 1) 36 #[.int .i64 an.code, .slice A1 n1 c1, .slice B1 m1 d1] (0, 0) _ rfl HPZ.out.blk0 Tryz.underlying36 rfl info_ansS) rfl ?_
  rw [← HRR.out]
  exact ⟨A1, n1, c1, B1, m1, d1, rfl, HN.out, HM.out, (HPZ.out.tail.drop3.up2.quMono (by omega)).down2⟩
end
end Go.Proofs.YtipdleiginnjmaaGreatDoor
