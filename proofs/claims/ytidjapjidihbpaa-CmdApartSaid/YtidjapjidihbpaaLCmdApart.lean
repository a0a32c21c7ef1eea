/- CmdApart: two commands that may be written have the same bytes just if they are the same. -/
import Derived.Test.YtidjapjidihbpaaA8
import Derived.Test.YtidjapjidihbpaaA9
import Derived.Test.YtidjapjidihbpaaA2
import Derived.Test.YtidjapjidihbpaaA6
import Derived.Test.YtidjapjidihbpaaA7
import Derived.Test.YtidjapjidihbpaaWLast
set_option linter.unusedVariables false
set_option linter.unusedSimpArgs false
namespace Go.Proofs.Ytidjapjidihbpaa
open Go.RowKit Go.Proofs.YtidjapjidihbpaaW.PrintWords Go.Proofs.YtidjapjidihbpaaW.PrintLast
set_option maxRecDepth 100000 in
theorem fold36 (c d : Cm) (v v' : Value) (n n' : Int) : Array.foldl (fun (cs : Array Value) (x : Value × Nat) => cs.setIfInBounds (18 + x.snd) x.fst) (Array.foldl (fun (cs : Array Value) (x : Value × Nat) => cs.setIfInBounds x.snd x.fst) #[.int .i64 0, .int .i64 0, .int .i64 0, .string ⟨#[]⟩, .int .i64 0, .int .i64 0, .int .i64 0, .int .i64 0, .int .i64 0, .string ⟨#[]⟩, .bool false, .string ⟨#[]⟩, .string ⟨#[]⟩, .string ⟨#[]⟩, .string ⟨#[]⟩, .slice none 0 0, .int .i64 0, .int .i64 0, .int .i64 0, .int .i64 0, .int .i64 0, .string ⟨#[]⟩, .int .i64 0, .int .i64 0, .int .i64 0, .int .i64 0, .int .i64 0, .string ⟨#[]⟩, .bool false, .string ⟨#[]⟩, .string ⟨#[]⟩, .string ⟨#[]⟩, .string ⟨#[]⟩, .slice none 0 0, .int .i64 0, .int .i64 0] (c.cells v n).zipIdx 0 18) (d.cells v' n').zipIdx 0 18 = ((c.cells v n).toList ++ (d.cells v' n').toList).toArray := by kernel_rfl
set_option maxRecDepth 100000 in
theorem fold36s (c : Cm) (v : Value) (n : Int) : (Array.foldl (fun (cs : Array Value) (x : Value × Nat) => cs.setIfInBounds x.snd x.fst) #[.int .i64 0, .int .i64 0, .int .i64 0, .string ⟨#[]⟩, .int .i64 0, .int .i64 0, .int .i64 0, .int .i64 0, .int .i64 0, .string ⟨#[]⟩, .bool false, .string ⟨#[]⟩, .string ⟨#[]⟩, .string ⟨#[]⟩, .string ⟨#[]⟩, .slice none 0 0, .int .i64 0, .int .i64 0, .int .i64 0, .int .i64 0, .int .i64 0, .string ⟨#[]⟩, .int .i64 0, .int .i64 0, .int .i64 0, .int .i64 0, .int .i64 0, .string ⟨#[]⟩, .bool false, .string ⟨#[]⟩, .string ⟨#[]⟩, .string ⟨#[]⟩, .string ⟨#[]⟩, .slice none 0 0, .int .i64 0, .int .i64 0] (c.cells v n).zipIdx 0 18).size = 36 := by kernel_rfl
/-- A command handed over, whole. -/
theorem arg_cmdx {H : Type} {enc : TypeId × Value → H} {w : World} {held : Bool} {cs : Array Value} {y : DataW H} {ps : List MemPlace} (h : DataW.Trod enc Try.prog w 0 (fun _ => true) held 26 (.agg cs) y ps) :
    ∃ (x : CmT) (c : List Value), cs = c.toArray ∧ KCmd.K w x c := by
  obtain ⟨fuel, hf⟩ := h
  obtain ⟨x, hK, _⟩ := opens_cmd.get hf
  exact ⟨x, _, agg_of rfl, hK⟩
set_option maxHeartbeats 3200000 in
set_option maxRecDepth 100000 in
theorem apart_law (x : CmT) (cx : List Value) (y : CmT) (cy : List Value) (w : World) (hx : KCmd.K w x cx) (hy : KCmd.K w y cy) :
    Calls Try.prog 3 #[.agg cx.toArray, .agg cy.toArray] w fun e w' => e = .returned (.bool true) ∧ Below w.heap.size w w' := by
  obtain ⟨A, ca, h1, hC, _⟩ := KCmd_eq hx
  obtain ⟨B, cb, h2, hD, _⟩ := KCmd_eq hy
  have HX := Lib.hid hx
  have HY := Lib.hid hy
  have HC := Lib.hid hC
  have HD := Lib.hid hD
  obtain ⟨m, hm⟩ : ∃ m, m = cmOf x := ⟨_, rfl⟩
  obtain ⟨d, hd⟩ : ∃ d, d = cmOf y := ⟨_, rfl⟩
  rw [← hm] at h1 HC
  rw [← hd] at h2 HD
  obtain ⟨na, hna⟩ : ∃ na, na = m.bodies.length := ⟨_, rfl⟩
  obtain ⟨nb, hnb⟩ : ∃ nb, nb = d.bodies.length := ⟨_, rfl⟩
  rw [← hna] at h1 HC
  rw [← hnb] at h2 HD
  have e1 : cx.toArray = m.cells (.slice A na ca) m.n := by rw [h1]
  have e2 : cy.toArray = d.cells (.slice B nb cb) d.n := by rw [h2]
  obtain ⟨cs, hcs⟩ : ∃ cs : Array Value, cs = cx.toArray := ⟨_, rfl⟩
  obtain ⟨ct, hct⟩ : ∃ ct : Array Value, ct = cy.toArray := ⟨_, rfl⟩
  have HW1 := Lib.hid (fun W (h : Below w.heap.size w W) => write_any m A na ca W (Kd.C_below HC.out h))
  have HW2 := Lib.hid (fun W (h : Below w.heap.size w W) => write_any d B nb cb W (Kd.C_below HD.out h))
  have HL1 := Lib.hid (fun W => lawCmd_any m A na ca m.n W)
  have HL2 := Lib.hid (fun W => lawCmd_any d B nb cb d.n W)
  have HSM := Lib.hid (fun W (h : Below w.heap.size w W) => sameCmd_any m d A na ca B nb cb W (Kd.C_below HC.out h) (Kd.C_below HD.out h))
  unfold Cm.val at HW1 HW2
  rw [← e1] at HW1 HL1 HSM
  rw [← e2] at HW2 HL2 HSM
  have hs1 : cs.size = 18 := by rw [hcs, e1]; rfl
  have hs2 : ct.size = 18 := by rw [hct, e2]; rfl
  have HI1 := Lib.hid (info_cmd.trans (by rw [hs1]) : (Try.prog.info? 26).map (·.size) = some cs.size)
  have HI2 := Lib.hid (info_cmd.trans (by rw [hs2]) : (Try.prog.info? 26).map (·.size) = some ct.size)
  have HCS := Lib.hid hcs
  have HCT := Lib.hid hct
  rw [← hcs, ← hct]
  rw [← hcs] at HW1 HL1 HSM
  rw [← hct] at HW2 HL2 HSM
  have HE1 := Lib.hid (hcs.trans e1)
  have HE2 := Lib.hid (hct.trans e2)
  have HPA := Lib.hid ((Hp.nil w).alloc (.cells cs 26))
  have hp := HPA.out.alloc (.cells ct 26)
  have hz : (w.alloc (.cells cs 26)).heap.size = w.heap.size + 1 := by simp
  rw [hz] at hp
  have HPB := Lib.hid hp
  clear hp hz hx hy hC hD hm hd hna hnb e1 e2 h1 h2 hcs hct HPA
  go_enter Try.func3, Try.ntmps3
  go_upto_region 1 with (fail)
  change Code.wp _ _ _ _ ((w.alloc (.cells cs 26)).alloc (.cells ct 26))
  generalize (w.alloc (.cells cs 26)).alloc (.cells ct 26) = W0 at *
  have HPF := Lib.hid (HPB.out.alloc (.cells (cs.toList ++ ct.toList).toArray 26))
  have HF := Lib.hid (few_any (some ⟨W0.heap.size, 0, none⟩) 2 2 [x, y] (W0.alloc (.cells (cs.toList ++ ct.toList).toArray 26)) (C_pair2 (t := 26) (c1 := cx) (c2 := cy) (KCmd.K_below HPF.out.belowW HX.out) (KCmd.K_below HPF.out.belowW HY.out) (HPF.out.blk0.trans (by rw [HCS.out, HCT.out]))))
  have hfold : Array.foldl (fun (cs : Array Value) (x : Value × Nat) => cs.setIfInBounds (18 + x.snd) x.fst) (Array.foldl (fun (cs : Array Value) (x : Value × Nat) => cs.setIfInBounds x.snd x.fst) #[.int .i64 0, .int .i64 0, .int .i64 0, .string ⟨#[]⟩, .int .i64 0, .int .i64 0, .int .i64 0, .int .i64 0, .int .i64 0, .string ⟨#[]⟩, .bool false, .string ⟨#[]⟩, .string ⟨#[]⟩, .string ⟨#[]⟩, .string ⟨#[]⟩, .slice none 0 0, .int .i64 0, .int .i64 0, .int .i64 0, .int .i64 0, .int .i64 0, .string ⟨#[]⟩, .int .i64 0, .int .i64 0, .int .i64 0, .int .i64 0, .int .i64 0, .string ⟨#[]⟩, .bool false, .string ⟨#[]⟩, .string ⟨#[]⟩, .string ⟨#[]⟩, .string ⟨#[]⟩, .slice none 0 0, .int .i64 0, .int .i64 0] cs.zipIdx 0 18) ct.zipIdx 0 18 = (cs.toList ++ ct.toList).toArray := by rw [HE1.out, HE2.out]; exact fold36 _ _ _ _ _ _
  have hfs : (Array.foldl (fun (cs : Array Value) (x : Value × Nat) => cs.setIfInBounds x.snd x.fst) #[.int .i64 0, .int .i64 0, .int .i64 0, .string ⟨#[]⟩, .int .i64 0, .int .i64 0, .int .i64 0, .int .i64 0, .int .i64 0, .string ⟨#[]⟩, .bool false, .string ⟨#[]⟩, .string ⟨#[]⟩, .string ⟨#[]⟩, .string ⟨#[]⟩, .slice none 0 0, .int .i64 0, .int .i64 0, .int .i64 0, .int .i64 0, .int .i64 0, .string ⟨#[]⟩, .int .i64 0, .int .i64 0, .int .i64 0, .int .i64 0, .int .i64 0, .string ⟨#[]⟩, .bool false, .string ⟨#[]⟩, .string ⟨#[]⟩, .string ⟨#[]⟩, .string ⟨#[]⟩, .slice none 0 0, .int .i64 0, .int .i64 0] cs.zipIdx 0 18).size = 36 := by rw [HE1.out]; exact fold36s _ _ _
  go_wp2_with (first | ((with_reducible refine gate_dst (N := 9) rfl ?_); refine wpList_load_row rfl 26 (.tmp 2) rfl w.heap.size rfl 26 cs (0, 0) _ (HPB.out.blk1) Try.underlying26 rfl HI1.out ?_) | ((with_reducible refine gate_dst (N := 10) rfl ?_); refine wpList_load_row rfl 26 (.tmp 3) rfl (w.heap.size + 1) rfl 26 ct (0, 0) _ (HPB.out.blk0) Try.underlying26 rfl HI2.out ?_))
  clear hfs hfold hs1 hs2
  refine Calls.mono HF.out ?_
  rintro e w1 ⟨⟨b, rfl, _⟩, hB⟩
  have HP1 := Lib.hid (HPF.out.below hB).tail
  clear hB
  cases b
  case false =>
    go_wp2_with fail
    refine Calls.mono (awake_any _) ?_
    rintro e wz ⟨rfl, hBz⟩
    have HPz := Lib.hid (HP1.out.below hBz)
    clear hBz
    go_wp2_with fail
    go_ret
    exact ⟨rfl, HPz.out.belowW⟩
  case true =>
  go_wp2_with ((with_reducible refine gate_dst (N := 16) rfl ?_); refine wpList_load_row rfl 26 (.tmp 2) rfl w.heap.size rfl 26 cs (0, 0) _ (HP1.out.blk1) Try.underlying26 rfl HI1.out ?_)
  refine Calls.mono (HW1.out w1 HP1.out.belowW) ?_
  obtain ⟨R1, hR1⟩ : ∃ R, R = cmRight m := ⟨_, rfl⟩
  obtain ⟨R2, hR2⟩ : ∃ R, R = cmRight d := ⟨_, rfl⟩
  rw [← hR1]
  rw [← hR2] at HW2
  have HR1 := Lib.hid hR1
  have HR2 := Lib.hid hR2
  clear hR1 hR2
  rintro e w2 ⟨hw1, hw2, hB⟩
  have HP2 := Lib.hid (HP1.out.below hB)
  clear hB
  cases R1
  case false =>
    obtain ⟨fb, rfl, _, _⟩ := hw2 rfl
    clear hw1 hw2
    go_wp2_with ((with_reducible refine gate_dst (N := 21) rfl ?_); refine wpList_load_row rfl 26 (.tmp 3) rfl (w.heap.size + 1) rfl 26 ct (0, 0) _ (HP2.out.blk0) Try.underlying26 rfl HI2.out ?_)
    refine Calls.mono (HW2.out w2 HP2.out.belowW) ?_
    rintro e w3 ⟨hv1, hv2, hB⟩
    have HP3 := Lib.hid (HP2.out.below hB)
    clear hB
    cases R2
    case false =>
      obtain ⟨fb2, rfl, _, _⟩ := hv2 rfl
      clear hv1 hv2
      go_wp2_with fail
      refine Calls.mono (awake_any _) ?_
      rintro e wz ⟨rfl, hBz⟩
      have HPz := Lib.hid (HP3.out.below hBz)
      clear hBz
      go_wp2_with fail
      go_ret
      exact ⟨rfl, HPz.out.belowW⟩
    case true =>
      obtain ⟨A9, n9, c9, rfl, _⟩ := hv1 rfl
      clear hv1 hv2
      go_wp2_with fail
      refine Calls.mono (awake_any _) ?_
      rintro e wz ⟨rfl, hBz⟩
      have HPz := Lib.hid (HP3.out.below hBz)
      clear hBz
      go_wp2_with fail
      go_ret
      exact ⟨rfl, HPz.out.belowW⟩
  case true =>
  obtain ⟨A8, n8, c8, rfl, hRd⟩ := hw1 rfl
  have HRD := Lib.hid hRd
  clear hw1 hw2 hRd
  go_wp2_with ((with_reducible refine gate_dst (N := 21) rfl ?_); refine wpList_load_row rfl 26 (.tmp 3) rfl (w.heap.size + 1) rfl 26 ct (0, 0) _ (HP2.out.blk0) Try.underlying26 rfl HI2.out ?_)
  refine Calls.mono (HW2.out w2 HP2.out.belowW) ?_
  rintro e w3 ⟨hv1, hv2, hB⟩
  have HP3 := Lib.hid (HP2.out.below hB)
  have HRD3 := Lib.hid (HRD.out.below hB)
  clear hB
  cases R2
  case false =>
    obtain ⟨fb2, rfl, _, _⟩ := hv2 rfl
    clear hv1 hv2
    go_wp2_with fail
    refine Calls.mono (awake_any _) ?_
    rintro e wz ⟨rfl, hBz⟩
    have HPz := Lib.hid (HP3.out.below hBz)
    clear hBz
    go_wp2_with fail
    go_ret
    exact ⟨rfl, HPz.out.belowW⟩
  case true =>
  obtain ⟨A9, n9, c9, rfl, hRd⟩ := hv1 rfl
  have HRD9 := Lib.hid hRd
  clear hv1 hv2 hRd
  obtain ⟨q, hq⟩ : ∃ q, q = decide (encCmd m = encCmd d) := ⟨_, rfl⟩
  have HEQ := Lib.hid (fun W (h : Below w3.heap.size w3 W) => eqBytes_any (encCmd_ok m) (encCmd_ok d) (HRD3.out.below h) (HRD9.out.below h))
  rw [← hq] at HEQ
  have HQ := Lib.hid hq
  clear hq
  have HPd := Lib.hid (HP3.out.below (Below.refl w3.heap.size w3).drew)
  have HBd := Lib.hid (Below.refl w3.heap.size w3).drew
  go_upto_region 7 with (fail)
  refine start_ (n := 13) (S := fun w' => w'.heap[w.heap.size + 1]? = some (.cells ct 26 (0, 0)) ∧ w'.heap[w.heap.size]? = some (.cells cs 26 (0, 0))) (ds := []) #[false, false, false, false, false, false, false, false, false, false, false, false, false] (by kernel_rfl) rfl rfl (⟨HPd.out.blk0, HPd.out.blk1⟩) (fun hHeld => ?_)
  generalize w3.drew = wd at *
  refine pure_ (i := 0) (N := (some 32)) (v := ?_) (a' := ?_) #[true, false, false, false, false, false, false, false, false, false, false, false, false] rfl rfl (by kernel_rfl) (fun _ _ _ h => h) (Or.inl ⟨by rfl, ?_⟩) ?_ ?_
  rotate_left
  · intro w'
    go_simp
    with_reducible rfl
  rotate_left
  · simp only [Act.put, List.setIfInBounds_toArray, List.set_cons_zero, List.set_cons_succ, i64_w, i32_w]
    rfl
  refine pure_ (i := 1) (N := (some 33)) (v := ?_) (a' := ?_) #[true, true, false, false, false, false, false, false, false, false, false, false, false] rfl rfl (by kernel_rfl) (fun _ _ _ h => h) (Or.inl ⟨by rfl, ?_⟩) ?_ ?_
  rotate_left
  · intro w'
    go_simp
    with_reducible rfl
  rotate_left
  · simp only [Act.put, List.setIfInBounds_toArray, List.set_cons_zero, List.set_cons_succ, i64_w, i32_w]
    rfl
  refine take_ (i := 3) (N := (some 35)) (v := ?_) (a' := ?_) #[true, true, false, true, false, false, false, false, false, false, false, false, false] rfl rfl (by kernel_rfl) (fun _ _ _ h => h) (Or.inl ⟨by rfl, ?_⟩) hHeld ?_ ?_
  rotate_left
  · rintro w' ⟨_, hh⟩
    refine exec_load_row 26 (.tmp 2) ?_ w.heap.size ?_ 26 cs (0, 0) _ hh Try.underlying26 rfl HI1.out <;> rfl
  rotate_left
  · simp only [Act.put, List.setIfInBounds_toArray, List.set_cons_zero, List.set_cons_succ, i64_w, i32_w]
    rfl
  refine take_ (i := 5) (N := (some 37)) (v := ?_) (a' := ?_) #[true, true, false, true, false, true, false, false, false, false, false, false, false] rfl rfl (by kernel_rfl) (fun _ _ _ h => h) (Or.inl ⟨by rfl, ?_⟩) hHeld ?_ ?_
  rotate_left
  · rintro w' ⟨hh, _⟩
    refine exec_load_row 26 (.tmp 3) ?_ (w.heap.size + 1) ?_ 26 ct (0, 0) _ hh Try.underlying26 rfl HI2.out <;> rfl
  rotate_left
  · simp only [Act.put, List.setIfInBounds_toArray, List.set_cons_zero, List.set_cons_succ, i64_w, i32_w]
    rfl
  refine one_ (i := 2) (N := (some 34)) #[true, true, true, true, false, true, false, false, false, false, false, false, false] rfl rfl (by kernel_rfl) (by decide) (fun K hK => ?_)
  refine goes_ Try.func7 (by kernel_rfl) rfl #[.slice A8 n8 c8, .slice A9 n9 c9] (by rfl) rfl rfl (by first | rfl | (go_simp; done) | (simp [Act.eval]; done) | (simp [Act.eval]; rfl)) ?_
  refine Calls.mono (HEQ.out wd HBd.out) ?_
  rintro e we ⟨rfl, rfl⟩
  refine ⟨_, rfl, ?_⟩
  refine hK.out _ _ (⟨HPd.out.blk0, HPd.out.blk1⟩) (fun hHeld => ?_)
  clear hK K
  refine norm_ (a' := ?_) ?_ ?_
  rotate_left
  · show Act.put _ (some 34) _ = _
    simp only [Act.put, List.setIfInBounds_toArray, List.set_cons_zero, List.set_cons_succ, i64_w, i32_w]
    rfl
  refine one_ (i := 4) (N := (some 36)) #[true, true, true, true, true, true, false, false, false, false, false, false, false] rfl rfl (by kernel_rfl) (by decide) (fun K hK => ?_)
  refine goes_ Try.func9 (by kernel_rfl) rfl #[.agg cs] (by rfl) rfl rfl (by first | rfl | (go_simp; done) | (simp [Act.eval]; done) | (simp [Act.eval]; rfl)) ?_
  refine Calls.mono (HL1.out wd) ?_
  rintro e we ⟨rfl, hB⟩
  have HPe := Lib.hid (HPd.out.below hB)
  clear hB
  refine ⟨_, rfl, ?_⟩
  refine hK.out _ _ (⟨HPe.out.blk0, HPe.out.blk1⟩) (fun hHeld => ?_)
  clear hK K
  refine norm_ (a' := ?_) ?_ ?_
  rotate_left
  · show Act.put _ (some 36) _ = _
    simp only [Act.put, List.setIfInBounds_toArray, List.set_cons_zero, List.set_cons_succ, i64_w, i32_w]
    rfl
  refine one_ (i := 6) (N := (some 38)) #[true, true, true, true, true, true, true, false, false, false, false, false, false] rfl rfl (by kernel_rfl) (by decide) (fun K hK => ?_)
  refine goes_ Try.func9 (by kernel_rfl) rfl #[.agg ct] (by rfl) rfl rfl (by first | rfl | (go_simp; done) | (simp [Act.eval]; done) | (simp [Act.eval]; rfl)) ?_
  refine Calls.mono (HL2.out we) ?_
  rintro e wf ⟨rfl, hB⟩
  have HPf := Lib.hid (HPe.out.below hB)
  clear hB
  refine ⟨_, rfl, ?_⟩
  refine hK.out _ _ (⟨HPf.out.blk0, HPf.out.blk1⟩) (fun hHeld => ?_)
  clear hK K
  refine norm_ (a' := ?_) ?_ ?_
  rotate_left
  · show Act.put _ (some 38) _ = _
    simp only [Act.put, List.setIfInBounds_toArray, List.set_cons_zero, List.set_cons_succ, i64_w, i32_w]
    rfl
  refine one_ (i := 7) (N := (some 39)) #[true, true, true, true, true, true, true, true, false, false, false, false, false] rfl rfl (by kernel_rfl) (by decide) (fun K hK => ?_)
  refine goes_ Try.func8 (by kernel_rfl) rfl #[.agg cs, .agg ct] (by rfl) rfl rfl (by first | rfl | (go_simp; done) | (simp [Act.eval]; done) | (simp [Act.eval]; rfl)) ?_
  refine Calls.mono (HSM.out wf HPf.out.belowW) ?_
  rintro e wg ⟨⟨bq, rfl, hbq⟩, hB⟩
  have HPg := Lib.hid (HPf.out.below hB)
  clear hB
  obtain rfl : bq = q := by
    have hiff : bq = true ↔ q = true := by
      rw [hbq, HQ.out, decide_eq_true_iff]
      exact ⟨fun h => by rw [h], fun h => encCmd_inj HR1.out.symm HR2.out.symm h⟩
    cases bq <;> cases q <;> first | rfl | (have h := hiff.1 rfl; cases h) | (have h := hiff.2 rfl; cases h)
  clear hbq
  refine ⟨_, rfl, ?_⟩
  refine hK.out _ _ (⟨HPg.out.blk0, HPg.out.blk1⟩) (fun hHeld => ?_)
  clear hK K
  refine norm_ (a' := ?_) ?_ ?_
  rotate_left
  · show Act.put _ (some 39) _ = _
    simp only [Act.put, List.setIfInBounds_toArray, List.set_cons_zero, List.set_cons_succ, i64_w, i32_w]
    rfl
  refine pure_ (i := 8) (N := (some 40)) (v := ?_) (a' := ?_) #[true, true, true, true, true, true, true, true, true, false, false, false, false] rfl rfl (by kernel_rfl) (fun _ _ _ h => h) (Or.inl ⟨by rfl, ?_⟩) ?_ ?_
  rotate_left
  · intro w'
    go_simp
    with_reducible rfl
  rotate_left
  · simp only [Act.put, List.setIfInBounds_toArray, List.set_cons_zero, List.set_cons_succ, i64_w, i32_w]
    rfl
  refine pure_ (i := 9) (N := (some 41)) (v := ?_) (a' := ?_) #[true, true, true, true, true, true, true, true, true, true, false, false, false] rfl rfl (by kernel_rfl) (fun _ _ _ h => h) (Or.inl ⟨by rfl, ?_⟩) ?_ ?_
  rotate_left
  · intro w'
    go_simp
    with_reducible rfl
  rotate_left
  · simp only [Act.put, List.setIfInBounds_toArray, List.set_cons_zero, List.set_cons_succ, i64_w, i32_w]
    rfl
  refine one_ (i := 10) (N := (some 42)) #[true, true, true, true, true, true, true, true, true, true, true, false, false] rfl rfl (by kernel_rfl) (by decide) (fun K hK => ?_)
  refine goes_ Try.func5 (by kernel_rfl) rfl #[] (by rfl) rfl rfl (by first | rfl | (go_simp; done) | (simp [Act.eval]; done) | (simp [Act.eval]; rfl)) ?_
  refine Calls.mono (awake_any wg) ?_
  rintro e wz ⟨rfl, hB⟩
  have HPz := Lib.hid (HPg.out.below hB)
  clear hB
  refine ⟨_, rfl, ?_⟩
  refine hK.out _ _ (⟨HPz.out.blk0, HPz.out.blk1⟩) (fun hHeld => ?_)
  clear hK K
  refine norm_ (a' := ?_) ?_ ?_
  rotate_left
  · show Act.put _ (some 42) _ = _
    simp only [Act.put, List.setIfInBounds_toArray, List.set_cons_zero, List.set_cons_succ, i64_w, i32_w]
    rfl
  refine pure_ (i := 11) (N := (some 43)) (v := ?_) (a' := ?_) #[true, true, true, true, true, true, true, true, true, true, true, true, false] rfl rfl (by kernel_rfl) (fun _ _ _ h => h) (Or.inl ⟨by rfl, ?_⟩) ?_ ?_
  rotate_left
  · intro w'
    go_simp
    with_reducible rfl
  rotate_left
  · simp only [Act.put, List.setIfInBounds_toArray, List.set_cons_zero, List.set_cons_succ, i64_w, i32_w]
    rfl
  refine pure_ (i := 12) (N := (some 4)) (v := ?_) (a' := ?_) #[true, true, true, true, true, true, true, true, true, true, true, true, true] rfl rfl (by kernel_rfl) (fun _ _ _ h => h) (Or.inl ⟨by rfl, ?_⟩) ?_ ?_
  rotate_left
  · intro w'
    go_simp
    with_reducible rfl
  rotate_left
  · simp only [Act.put, List.setIfInBounds_toArray, List.set_cons_zero, List.set_cons_succ, i64_w, i32_w]
    rfl
  refine done_ (by kernel_rfl) ?_
  go_wp2_with fail
  go_ret
  exact ⟨rfl, HPz.out.belowW⟩
end Go.Proofs.Ytidjapjidihbpaa
