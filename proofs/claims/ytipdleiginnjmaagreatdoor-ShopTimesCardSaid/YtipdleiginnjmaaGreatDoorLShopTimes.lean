/- ShopTimes: a queue has the shop's time from its beginning on; time goes on for all, and not back. -/
import Derived.Test.YtipdleiginnjmaaGreatDoorH15
import Derived.Test.YtipdleiginnjmaaGreatDoorH16
import Derived.Test.YtipdleiginnjmaaGreatDoorWLast
set_option linter.unusedVariables false
set_option linter.unusedSimpArgs false
namespace Go.Proofs.YtipdleiginnjmaaGreatDoor
open Go.RowKit Go.Proofs.YtipdleiginnjmaaGreatDoorW.PrintWords Go.Proofs.YtipdleiginnjmaaGreatDoorW.PrintLast
/-! the law's part -/
theorem now_happen (S : Sh) (c : Cm) : (shHappen S c).1.now = S.now ∨ (c.kind = 0 ∧ (shHappen S c).1.now = c.n ∧ S.now ≤ c.n ∧ (shHappen S c).2.code = 0) := by
  by_cases h0 : c.kind = 0
  · by_cases ht : c.n < S.now ∨ 1099511627776 < c.n
    · rw [hap_0 h0, tick_no ht]; exact .inl rfl
    · rw [hap_0 h0, tick_yes ht]
      exact .inr ⟨h0, rfl, by omega, rfl⟩
  · left
    unfold shHappen
    split
    · rfl
    split
    · unfold shCreate
      split
      · rfl
      split
      · rfl
      split <;> rfl
    cases mget S.l c.queue with
    | none => rfl
    | some σ =>
      dsimp only
      split <;> rfl
theorem now_apply (S : Sh) (c : Cm) : (shApply S c).1.now = S.now ∨ (c.kind = 0 ∧ (shApply S c).1.now = c.n ∧ S.now ≤ c.n ∧ (shApply S c).2.code = 0) := by
  have h := now_happen S c
  unfold shApply
  split
  · exact .inl rfl
  split
  · exact h
  cases mget S.last c.client with
  | none =>
    dsimp only
    split
    · exact .inl rfl
    · exact h
  | some d =>
    dsimp only
    split
    · exact .inl rfl
    split
    · exact .inl rfl
    · exact h
/-- One command of a row that lay there from the beginning. -/
theorem C_nth_cmd2 {w wr : World} {A : Option Addr} {n : Nat} {xs : List CmT} (h : KCmd.C w A n xs) (hB : Below w.heap.size w wr) (k : Nat) (hk : k < n) :
    ∃ ad x m B nb cb, A = some ad ∧ xs[k]? = some x ∧ cmOf x = m ∧ (∀ (j : Nat) v, (m.cells (.slice B nb cb)).toList[j]? = some v → wr.cell? ((ad.add (k * 18)).add j) = some v) ∧ Kd.string.C w B nb m.bodies := by
  obtain ⟨ad, x, m, B, nb, cb, hA, hx, hm, _, hc, hC, _⟩ := C_nth_cmd h k hk
  exact ⟨ad, x, m, B, nb, cb, hA, hx, hm, fun j v hv => cell_later hB (hc j v hv), hC⟩
set_option maxHeartbeats 32000000 in
set_option maxRecDepth 100000 in
theorem times_law (A : Option Addr) (n cap : Nat) (xs : List CmT) (w : World) (hC : KCmd.C w A n xs) (_hc : n ≤ cap) (hok : ∀ x ∈ xs, CmOk (cmOf x)) (hrec : RecTab w) (hE : ErrCell w) :
    Calls Tryz.prog 7 #[.slice A n cap] w fun e w' => e = .returned (.bool true) ∧ Below w.heap.size w w' := by
  have HC := Lib.hid hC
  have HOK := Lib.hid hok
  have HREC := Lib.hid hrec
  have HE := Lib.hid hE
  have hmx := Kd.C_max hC
  have HFW := Lib.hid (few_any A n cap xs w hC)
  clear hC hok hrec hE
  go_enter Tryz.func7, Tryz.ntmps7
  go_wp2_with fail
  refine Calls.mono HFW.out ?_
  rintro e w1 ⟨⟨bf, rfl, hbf⟩, hB1⟩
  have HB1 := Lib.hid hB1
  clear hB1
  cases bf
  case false =>
    clear hbf
    go_wp2_with fail
    refine Calls.mono (awake_any w1 (HREC.out.below HB1.out) (HE.out.below HB1.out)) ?_
    rintro e w2 ⟨rfl, hB2⟩
    have HB2 := Lib.hid (HB1.out.trans (hB2.mono HB1.out.size))
    clear hB2
    go_wp2_with fail
    go_ret
    exact ⟨rfl, HB2.out⟩
  case true =>
  have hn60 := hbf rfl
  clear hbf
  have HNEW := Lib.hid (Hp.of HB1.out).soNew
  go_wp2_with fail
  refine Calls.mono HNEW.out ?_
  rintro e w2 ⟨sb, rfl, hP⟩
  have HP0 := Lib.hid hP
  clear hP
  go_wp2_with fail
  go_loopw [21] (fun i wr => ∃ (k : Nat) (S : Sh), i = .int .i64 k ∧ k ≤ n ∧ Hp w wr [AShO sb S k]) (fun i _ => n - (intOf i).toNat)
  case atStart => exact ⟨0, shNew, rfl, Nat.zero_le _, HP0.out⟩
  case round =>
    obtain ⟨k, S, rfl, hk, hQ⟩ := hrel
    have HQ := Lib.hid hQ
    clear hQ
    by_cases hkn : k < n
    case neg =>
      have i1 : ¬ (k : Int) < (n : Int) := by omega
      go_wp2_with fail
      refine Calls.mono (awake_any wr (HREC.out.below HQ.out.belowW) (HE.out.below HQ.out.belowW)) ?_
      rintro e w3 ⟨rfl, hB2⟩
      have HB2 := Lib.hid (HQ.out.below hB2)
      clear hB2
      go_wp2_with fail
      go_ret
      exact ⟨rfl, HB2.out.belowW⟩
    case pos =>
    have i0 : (0 : Int) ≤ (k : Int) := by omega
    have i1 : (k : Int) < (n : Int) := by omega
    obtain ⟨ad, x, m, B, nb', cb, rfl, hx, hm, hcell, hD⟩ := C_nth_cmd2 HC.out HQ.out.belowW k hkn
    have HCM := Lib.hid (show CmOk m by rw [← hm]; exact HOK.out x (List.mem_of_getElem? hx))
    have HD := Lib.hid hD
    have HCELL := Lib.hid hcell
    unfold Cm.cells at HCELL
    have HPA := Lib.hid (HQ.out.alloc (.cells #[.int .i64 0, .int .i64 0, .int .i64 0, .string ⟨#[]⟩, .int .i64 0, .int .i64 0, .int .i64 0, .int .i64 0, .int .i64 0, .string ⟨#[]⟩, .bool false, .string ⟨#[]⟩, .string ⟨#[]⟩, .string ⟨#[]⟩, .string ⟨#[]⟩, .slice none 0 0, .int .i64 0, .int .i64 0] 32))
    have HPS := Lib.hid (HPA.out.setRowBlkS #[.int .i64 m.client, .int .i64 m.req, .int .i64 m.kind, .string m.queue, .int .i64 m.a.vis, .int .i64 m.a.ret, .int .i64 m.a.del, .int .i64 m.a.win, .int .i64 m.a.max, .string m.a.dead, .bool m.a.fifo, .string m.body, .string m.group, .string m.key, .string m.receipt, .slice B nb' cb, .int .i64 m.n, .int .i64 m.m])
    clear hx hm hcell hD
    go_upto_region 9 with (first | ((with_reducible refine gate_dst (N := 24) rfl ?_); refine wpList_load_at rfl 32 (.tmp 23) rfl (ad.add (k * 18)) (by first | rfl | (go_simp; done) | (go_simp; rfl)) #[.int .i64 m.client, .int .i64 m.req, .int .i64 m.kind, .string m.queue, .int .i64 m.a.vis, .int .i64 m.a.ret, .int .i64 m.a.del, .int .i64 m.a.win, .int .i64 m.a.max, .string m.a.dead, .bool m.a.fifo, .string m.body, .string m.group, .string m.key, .string m.receipt, .slice B nb' cb, .int .i64 m.n, .int .i64 m.m] _ HCELL.out Tryz.underlying32 rfl info_cmdS ?_) | ((with_reducible refine gate_store (t := 32) (p := 5) (v := .tmp 24) rfl ?_); refine wpList_store_row rfl 32 (.tmp 5) (.tmp 24) rfl wr.heap.size #[.int .i64 m.client, .int .i64 m.req, .int .i64 m.kind, .string m.queue, .int .i64 m.a.vis, .int .i64 m.a.ret, .int .i64 m.a.del, .int .i64 m.a.win, .int .i64 m.a.max, .string m.a.dead, .bool m.a.fifo, .string m.body, .string m.group, .string m.key, .string m.receipt, .slice B nb' cb, .int .i64 m.n, .int .i64 m.m] rfl rfl 32 #[.int .i64 0, .int .i64 0, .int .i64 0, .string ⟨#[]⟩, .int .i64 0, .int .i64 0, .int .i64 0, .int .i64 0, .int .i64 0, .string ⟨#[]⟩, .bool false, .string ⟨#[]⟩, .string ⟨#[]⟩, .string ⟨#[]⟩, .string ⟨#[]⟩, .slice none 0 0, .int .i64 0, .int .i64 0] HPA.out.blk0 info_cmdS rfl (by simp [Value.oneCell']) ?_))
    obtain ⟨xb, hxb⟩ : ∃ b, b = wr.heap.size := ⟨_, rfl⟩
    rw [← hxb] at HPS ⊢
    clear hxb HPA HCELL
    generalize (wr.alloc (.cells #[.int .i64 0, .int .i64 0, .int .i64 0, .string ⟨#[]⟩, .int .i64 0, .int .i64 0, .int .i64 0, .int .i64 0, .int .i64 0, .string ⟨#[]⟩, .bool false, .string ⟨#[]⟩, .string ⟨#[]⟩, .string ⟨#[]⟩, .string ⟨#[]⟩, .slice none 0 0, .int .i64 0, .int .i64 0] 32)).setRow xb #[.int .i64 m.client, .int .i64 m.req, .int .i64 m.kind, .string m.queue, .int .i64 m.a.vis, .int .i64 m.a.ret, .int .i64 m.a.del, .int .i64 m.a.win, .int .i64 m.a.max, .string m.a.dead, .bool m.a.fifo, .string m.body, .string m.group, .string m.key, .string m.receipt, .slice B nb' cb, .int .i64 m.n, .int .i64 m.m] = W3 at *
    have HP3 := Lib.hid HPS.out.swap
    have HNO := Lib.hid HP3.out.soNow
    go_wp2_with fail
    refine Calls.mono HNO.out ?_
    rintro e w3 ⟨rfl, rfl⟩
    have HAP := Lib.hid (HP3.out.soApply (show k ≤ 200 by omega) HREC.out HE.out m B nb' cb (fun w1 h1 => Kd.C_below HD.out h1.belowW) HCM.out)
    obtain ⟨⟨S', an⟩, hr⟩ : ∃ r, r = shApply S m := ⟨_, rfl⟩
    have HNA := Lib.hid (now_apply S m)
    rw [← hr] at HNA HAP
    clear hr
    dsimp only at HNA HAP
    go_wp2_with ((with_reducible refine gate_dst (N := 28) rfl ?_); refine wpList_load_row rfl 32 (.tmp 5) rfl xb rfl 32 #[.int .i64 m.client, .int .i64 m.req, .int .i64 m.kind, .string m.queue, .int .i64 m.a.vis, .int .i64 m.a.ret, .int .i64 m.a.del, .int .i64 m.a.win, .int .i64 m.a.max, .string m.a.dead, .bool m.a.fifo, .string m.body, .string m.group, .string m.key, .string m.receipt, .slice B nb' cb, .int .i64 m.n, .int .i64 m.m] (0, 0) _ (HP3.out.blk1) Tryz.underlying32 rfl info_cmdS ?_)
    refine Calls.mono HAP.out ?_
    rintro e w4 ⟨A1, n1, c1, B1, m1, d1, rfl, hn, hm, hP⟩
    have HPa := Lib.hid (hP.alloc (.cells #[.int .i64 0, .slice none 0 0, .slice none 0 0] 36))
    clear hn hm hP
    go_upto_region 11 with ((with_reducible refine gate_store (t := 36) (p := 7) (v := .tmp 29) rfl ?_); refine wpList_store_row rfl 36 (.tmp 7) (.tmp 29) rfl w4.heap.size #[.int .i64 an.code, .slice A1 n1 c1, .slice B1 m1 d1] rfl rfl 36 #[.int .i64 0, .slice none 0 0, .slice none 0 0] HPa.out.blk0 info_ansS rfl (by simp [Value.oneCell']) ?_)
    have HPb := Lib.hid (HPa.out.setRowBlkS #[.int .i64 an.code, .slice A1 n1 c1, .slice B1 m1 d1])
    obtain ⟨yb, hyb⟩ : ∃ b, b = w4.heap.size := ⟨_, rfl⟩
    rw [← hyb] at HPb ⊢
    clear hyb HPa
    generalize (w4.alloc (.cells #[.int .i64 0, .slice none 0 0, .slice none 0 0] 36)).setRow yb #[.int .i64 an.code, .slice A1 n1 c1, .slice B1 m1 d1] = W4 at *
    obtain ⟨T', R, hgr, hso⟩ := (show Hp w W4 (AShO sb S' (k + 1) :: ABlk yb (.cells #[.int .i64 an.code, .slice A1 n1 c1, .slice B1 m1 d1] 36 (0, 0)) :: AInt (.slice A1 n1 c1) an.ids :: ATk (.slice B1 m1 d1) an.took :: ABlk xb (.cells #[.int .i64 m.client, .int .i64 m.req, .int .i64 m.kind, .string m.queue, .int .i64 m.a.vis, .int .i64 m.a.ret, .int .i64 m.a.del, .int .i64 m.a.win, .int .i64 m.a.max, .string m.a.dead, .bool m.a.fifo, .string m.body, .string m.group, .string m.key, .string m.receipt, .slice B nb' cb, .int .i64 m.n, .int .i64 m.m] 32 (0, 0)) :: []) from HPb.out.perm (by (repeat (first | (with_reducible exact List.Perm.refl _) | (with_reducible refine pb0 ?_) | (with_reducible refine pb1 ?_) | (with_reducible refine pb2 ?_) | (with_reducible refine pb3 ?_) | (with_reducible refine pb4 ?_) | (with_reducible refine pb5 ?_) | (with_reducible refine pb6 ?_) | (with_reducible refine pb7 ?_) | (with_reducible refine pb8 ?_) | (with_reducible refine pb9 ?_) | (with_reducible refine pb10 ?_) | (with_reducible refine pb11 ?_) | (with_reducible refine pb12 ?_) | (with_reducible refine pb13 ?_) | (with_reducible refine pb14 ?_) | (with_reducible refine pb15 ?_))))).soOpen
    obtain ⟨mb, lb, q, d, hI, hF, hR, hsr⟩ := hso.srOpen
    obtain ⟨nw, hnw⟩ : ∃ z, z = S'.now := ⟨_, rfl⟩
    rw [← hnw] at hsr HNA
    have HNW := Lib.hid hnw
    have HGR := Lib.hid hgr
    have HIN := Lib.hid hI
    have HQE := Lib.hid (show lq q = S'.l from hF.1)
    have HDE := Lib.hid (show ld d = S'.last from hF.2)
    have HRE := Lib.hid hR
    have HPd := Lib.hid (hsr.below (Below.refl _ _).drew)
    clear hgr hso hI hF hR hsr hnw HPb
    have HPd := Lib.hid (show Hp w W4.drew (ABlk sb (.cells #[.int .i64 nw, .map (some mb), .map (some lb)] 93 (0, 0)) :: AMg KG encB mb (nb q) :: AQs q T' :: AMg KI encD lb d :: ARs R :: ABlk yb (.cells #[.int .i64 an.code, .slice A1 n1 c1, .slice B1 m1 d1] 36 (0, 0)) :: AInt (.slice A1 n1 c1) an.ids :: ATk (.slice B1 m1 d1) an.took :: ABlk xb (.cells #[.int .i64 m.client, .int .i64 m.req, .int .i64 m.kind, .string m.queue, .int .i64 m.a.vis, .int .i64 m.a.ret, .int .i64 m.a.del, .int .i64 m.a.win, .int .i64 m.a.max, .string m.a.dead, .bool m.a.fifo, .string m.body, .string m.group, .string m.key, .string m.receipt, .slice B nb' cb, .int .i64 m.n, .int .i64 m.m] 32 (0, 0)) :: []) from HPd.out)
    have i9 : ¬ nw < S.now := by rcases HNA.out with h | h <;> omega
    by_cases hsame : nw = S.now
    case pos =>
      have HSM := Lib.hid hsame
      have hb1 : (nw != S.now) = false := by simpa using hsame
      clear hsame
      refine start_ (n := 27) (S := fun w' => w'.heap[xb]? = some (.cells #[.int .i64 m.client, .int .i64 m.req, .int .i64 m.kind, .string m.queue, .int .i64 m.a.vis, .int .i64 m.a.ret, .int .i64 m.a.del, .int .i64 m.a.win, .int .i64 m.a.max, .string m.a.dead, .bool m.a.fifo, .string m.body, .string m.group, .string m.key, .string m.receipt, .slice B nb' cb, .int .i64 m.n, .int .i64 m.m] 32 (0, 0)) ∧ w'.heap[yb]? = some (.cells #[.int .i64 an.code, .slice A1 n1 c1, .slice B1 m1 d1] 36 (0, 0))) (ds := []) #[false, false, false, false, false, false, false, false, false, false, false, false, false, false, false, false, false, false, false, false, false, false, false, false, false, false, false] (by kernel_rfl) rfl rfl (⟨HPd.out.tail.tail.tail.tail.tail.tail.tail.tail.blk0, HPd.out.tail.tail.tail.tail.tail.blk0⟩) (fun hHeld => ?_)
      generalize W4.drew = wd at *
      refine pure_ (i := 0) (N := (some 30)) (v := ?_) (a' := ?_) #[true, false, false, false, false, false, false, false, false, false, false, false, false, false, false, false, false, false, false, false, false, false, false, false, false, false, false] rfl rfl (by kernel_rfl) (fun _ _ _ h => h) (Or.inl ⟨by rfl, ?_⟩) ?_ ?_
      rotate_left
      · intro w'
        go_simp
        with_reducible rfl
      rotate_left
      · simp only [Act.put, List.setIfInBounds_toArray, List.set_cons_zero, List.set_cons_succ, i64_w, i32_w]
        rfl
      refine pure_ (i := 2) (N := (some 32)) (v := ?_) (a' := ?_) #[true, false, true, false, false, false, false, false, false, false, false, false, false, false, false, false, false, false, false, false, false, false, false, false, false, false, false] rfl rfl (by kernel_rfl) (fun _ _ _ h => h) (Or.inl ⟨by rfl, ?_⟩) ?_ ?_
      rotate_left
      · intro w'
        go_simp
        with_reducible rfl
      rotate_left
      · simp only [Act.put, List.setIfInBounds_toArray, List.set_cons_zero, List.set_cons_succ, i64_w, i32_w]
        rfl
      refine one_ (i := 1) (N := (some 31)) #[true, true, true, false, false, false, false, false, false, false, false, false, false, false, false, false, false, false, false, false, false, false, false, false, false, false, false] rfl rfl (by kernel_rfl) (by decide) (fun K hK => ?_)
      refine goes_ Tryz.func24 (by kernel_rfl) rfl #[.pointer (some ⟨sb, 0, none⟩)] (by rfl) rfl rfl (by first | rfl | (go_simp; done) | (simp [Act.eval]; done) | (simp [Act.eval]; rfl)) ?_
      refine Calls.mono (HPd.out.shNowC) ?_
      rintro e we ⟨rfl, rfl⟩
      refine ⟨_, rfl, ?_⟩
      refine hK.out _ _ (⟨HPd.out.tail.tail.tail.tail.tail.tail.tail.tail.blk0, HPd.out.tail.tail.tail.tail.tail.blk0⟩) (fun hHeld => ?_)
      clear hK K
      refine norm_ (a' := ?_) ?_ ?_
      rotate_left
      · show Act.put _ (some 31) _ = _
        simp only [Act.put, List.setIfInBounds_toArray, List.set_cons_zero, List.set_cons_succ, i64_w, i32_w]
        rfl
      refine pure_ (i := 3) (N := (some 33)) (v := ?_) (a' := ?_) #[true, true, true, true, false, false, false, false, false, false, false, false, false, false, false, false, false, false, false, false, false, false, false, false, false, false, false] rfl rfl (by kernel_rfl) (fun _ _ _ h => h) (Or.inl ⟨by rfl, ?_⟩) ?_ ?_
      rotate_left
      · intro w'
        go_simp
        with_reducible rfl
      rotate_left
      · simp only [Act.put, List.setIfInBounds_toArray, List.set_cons_zero, List.set_cons_succ, i64_w, i32_w]
        rfl
      refine pure_ (i := 4) (N := (some 34)) (v := ?_) (a' := ?_) #[true, true, true, true, true, false, false, false, false, false, false, false, false, false, false, false, false, false, false, false, false, false, false, false, false, false, false] rfl rfl (by kernel_rfl) (fun _ _ _ h => h) (Or.inl ⟨by rfl, ?_⟩) ?_ ?_
      rotate_left
      · intro w'
        go_simp
        with_reducible rfl
      rotate_left
      · simp only [Act.put, List.setIfInBounds_toArray, List.set_cons_zero, List.set_cons_succ, i64_w, i32_w]
        rfl
      refine pure_ (i := 5) (N := (some 35)) (v := ?_) (a' := ?_) #[true, true, true, true, true, true, false, false, false, false, false, false, false, false, false, false, false, false, false, false, false, false, false, false, false, false, false] rfl rfl (by kernel_rfl) (fun _ _ _ h => h) (Or.inl ⟨by rfl, ?_⟩) ?_ ?_
      rotate_left
      · intro w'
        go_simp
        with_reducible rfl
      rotate_left
      · simp only [Act.put, List.setIfInBounds_toArray, List.set_cons_zero, List.set_cons_succ, i64_w, i32_w]
        rfl
      refine pure_ (i := 7) (N := (some 37)) (v := ?_) (a' := ?_) #[true, true, true, true, true, true, false, true, false, false, false, false, false, false, false, false, false, false, false, false, false, false, false, false, false, false, false] rfl rfl (by kernel_rfl) (fun _ _ _ h => h) (Or.inl ⟨by rfl, ?_⟩) ?_ ?_
      rotate_left
      · intro w'
        go_simp
        with_reducible rfl
      rotate_left
      · simp only [Act.put, List.setIfInBounds_toArray, List.set_cons_zero, List.set_cons_succ, i64_w, i32_w]
        rfl
      refine one_ (i := 6) (N := (some 36)) #[true, true, true, true, true, true, true, true, false, false, false, false, false, false, false, false, false, false, false, false, false, false, false, false, false, false, false] rfl rfl (by kernel_rfl) (by decide) (fun K hK => ?_)
      refine goes_ Tryz.func24 (by kernel_rfl) rfl #[.pointer (some ⟨sb, 0, none⟩)] (by rfl) rfl rfl (by first | rfl | (go_simp; done) | (simp [Act.eval]; done) | (simp [Act.eval]; rfl)) ?_
      refine Calls.mono (HPd.out.shNowC) ?_
      rintro e we ⟨rfl, rfl⟩
      refine ⟨_, rfl, ?_⟩
      refine hK.out _ _ (⟨HPd.out.tail.tail.tail.tail.tail.tail.tail.tail.blk0, HPd.out.tail.tail.tail.tail.tail.blk0⟩) (fun hHeld => ?_)
      clear hK K
      refine norm_ (a' := ?_) ?_ ?_
      rotate_left
      · show Act.put _ (some 36) _ = _
        simp only [Act.put, List.setIfInBounds_toArray, List.set_cons_zero, List.set_cons_succ, i64_w, i32_w]
        rfl
      refine pure_ (i := 8) (N := (some 38)) (v := ?_) (a' := ?_) #[true, true, true, true, true, true, true, true, true, false, false, false, false, false, false, false, false, false, false, false, false, false, false, false, false, false, false] rfl rfl (by kernel_rfl) (fun _ _ _ h => h) (Or.inl ⟨by rfl, ?_⟩) ?_ ?_
      rotate_left
      · intro w'
        go_simp
        with_reducible rfl
      rotate_left
      · simp only [Act.put, List.setIfInBounds_toArray, List.set_cons_zero, List.set_cons_succ, i64_w, i32_w]
        rfl
      refine pure_ (i := 9) (N := (some 39)) (v := ?_) (a' := ?_) #[true, true, true, true, true, true, true, true, true, true, false, false, false, false, false, false, false, false, false, false, false, false, false, false, false, false, false] rfl rfl (by kernel_rfl) (fun _ _ _ h => h) (Or.inl ⟨by rfl, ?_⟩) ?_ ?_
      rotate_left
      · intro w'
        go_simp
        with_reducible rfl
      rotate_left
      · simp only [Act.put, List.setIfInBounds_toArray, List.set_cons_zero, List.set_cons_succ, i64_w, i32_w]
        rfl
      refine pure_ (i := 10) (N := (some 40)) (v := undef) (a' := ?_) #[true, true, true, true, true, true, true, true, true, true, true, false, false, false, false, false, false, false, false, false, false, false, false, false, false, false, false] rfl rfl (by kernel_rfl) (fun _ _ _ h => h) (Or.inr ⟨by rfl, rfl⟩) ?_ ?_
      rotate_left
      · simp only [Act.put, List.setIfInBounds_toArray, List.set_cons_zero, List.set_cons_succ, i64_w, i32_w]
        rfl
      refine pure_ (i := 11) (N := (some 41)) (v := undef) (a' := ?_) #[true, true, true, true, true, true, true, true, true, true, true, true, false, false, false, false, false, false, false, false, false, false, false, false, false, false, false] rfl rfl (by kernel_rfl) (fun _ _ _ h => h) (Or.inr ⟨by rfl, rfl⟩) ?_ ?_
      rotate_left
      · simp only [Act.put, List.setIfInBounds_toArray, List.set_cons_zero, List.set_cons_succ, i64_w, i32_w]
        rfl
      refine pure_ (i := 12) (N := (some 42)) (v := undef) (a' := ?_) #[true, true, true, true, true, true, true, true, true, true, true, true, true, false, false, false, false, false, false, false, false, false, false, false, false, false, false] rfl rfl (by kernel_rfl) (fun _ _ _ h => h) (Or.inr ⟨by rfl, rfl⟩) ?_ ?_
      rotate_left
      · simp only [Act.put, List.setIfInBounds_toArray, List.set_cons_zero, List.set_cons_succ, i64_w, i32_w]
        rfl
      refine pure_ (i := 13) (N := (some 43)) (v := undef) (a' := ?_) #[true, true, true, true, true, true, true, true, true, true, true, true, true, true, false, false, false, false, false, false, false, false, false, false, false, false, false] rfl rfl (by kernel_rfl) (fun _ _ _ h => h) (Or.inr ⟨by rfl, rfl⟩) ?_ ?_
      rotate_left
      · simp only [Act.put, List.setIfInBounds_toArray, List.set_cons_zero, List.set_cons_succ, i64_w, i32_w]
        rfl
      refine pure_ (i := 14) (N := (some 44)) (v := undef) (a' := ?_) #[true, true, true, true, true, true, true, true, true, true, true, true, true, true, true, false, false, false, false, false, false, false, false, false, false, false, false] rfl rfl (by kernel_rfl) (fun _ _ _ h => h) (Or.inr ⟨by rfl, rfl⟩) ?_ ?_
      rotate_left
      · simp only [Act.put, List.setIfInBounds_toArray, List.set_cons_zero, List.set_cons_succ, i64_w, i32_w]
        rfl
      refine pure_ (i := 15) (N := (some 45)) (v := undef) (a' := ?_) #[true, true, true, true, true, true, true, true, true, true, true, true, true, true, true, true, false, false, false, false, false, false, false, false, false, false, false] rfl rfl (by kernel_rfl) (fun _ _ _ h => h) (Or.inr ⟨by rfl, rfl⟩) ?_ ?_
      rotate_left
      · simp only [Act.put, List.setIfInBounds_toArray, List.set_cons_zero, List.set_cons_succ, i64_w, i32_w]
        rfl
      refine pure_ (i := 16) (N := (some 46)) (v := undef) (a' := ?_) #[true, true, true, true, true, true, true, true, true, true, true, true, true, true, true, true, true, false, false, false, false, false, false, false, false, false, false] rfl rfl (by kernel_rfl) (fun _ _ _ h => h) (Or.inr ⟨by rfl, rfl⟩) ?_ ?_
      rotate_left
      · simp only [Act.put, List.setIfInBounds_toArray, List.set_cons_zero, List.set_cons_succ, i64_w, i32_w]
        rfl
      refine pure_ (i := 17) (N := (some 47)) (v := undef) (a' := ?_) #[true, true, true, true, true, true, true, true, true, true, true, true, true, true, true, true, true, true, false, false, false, false, false, false, false, false, false] rfl rfl (by kernel_rfl) (fun _ _ _ h => h) (Or.inr ⟨by rfl, rfl⟩) ?_ ?_
      rotate_left
      · simp only [Act.put, List.setIfInBounds_toArray, List.set_cons_zero, List.set_cons_succ, i64_w, i32_w]
        rfl
      refine pure_ (i := 18) (N := (some 48)) (v := undef) (a' := ?_) #[true, true, true, true, true, true, true, true, true, true, true, true, true, true, true, true, true, true, true, false, false, false, false, false, false, false, false] rfl rfl (by kernel_rfl) (fun _ _ _ h => h) (Or.inr ⟨by rfl, rfl⟩) ?_ ?_
      rotate_left
      · simp only [Act.put, List.setIfInBounds_toArray, List.set_cons_zero, List.set_cons_succ, i64_w, i32_w]
        rfl
      refine pure_ (i := 19) (N := (some 49)) (v := undef) (a' := ?_) #[true, true, true, true, true, true, true, true, true, true, true, true, true, true, true, true, true, true, true, true, false, false, false, false, false, false, false] rfl rfl (by kernel_rfl) (fun _ _ _ h => h) (Or.inr ⟨by rfl, rfl⟩) ?_ ?_
      rotate_left
      · simp only [Act.put, List.setIfInBounds_toArray, List.set_cons_zero, List.set_cons_succ, i64_w, i32_w]
        rfl
      refine pure_ (i := 20) (N := (some 50)) (v := undef) (a' := ?_) #[true, true, true, true, true, true, true, true, true, true, true, true, true, true, true, true, true, true, true, true, true, false, false, false, false, false, false] rfl rfl (by kernel_rfl) (fun _ _ _ h => h) (Or.inr ⟨by rfl, rfl⟩) ?_ ?_
      rotate_left
      · simp only [Act.put, List.setIfInBounds_toArray, List.set_cons_zero, List.set_cons_succ, i64_w, i32_w]
        rfl
      refine pure_ (i := 21) (N := (some 51)) (v := undef) (a' := ?_) #[true, true, true, true, true, true, true, true, true, true, true, true, true, true, true, true, true, true, true, true, true, true, false, false, false, false, false] rfl rfl (by kernel_rfl) (fun _ _ _ h => h) (Or.inr ⟨by rfl, rfl⟩) ?_ ?_
      rotate_left
      · simp only [Act.put, List.setIfInBounds_toArray, List.set_cons_zero, List.set_cons_succ, i64_w, i32_w]
        rfl
      refine pure_ (i := 22) (N := (some 52)) (v := undef) (a' := ?_) #[true, true, true, true, true, true, true, true, true, true, true, true, true, true, true, true, true, true, true, true, true, true, true, false, false, false, false] rfl rfl (by kernel_rfl) (fun _ _ _ h => h) (Or.inr ⟨by rfl, rfl⟩) ?_ ?_
      rotate_left
      · simp only [Act.put, List.setIfInBounds_toArray, List.set_cons_zero, List.set_cons_succ, i64_w, i32_w]
        rfl
      refine pure_ (i := 23) (N := (some 53)) (v := undef) (a' := ?_) #[true, true, true, true, true, true, true, true, true, true, true, true, true, true, true, true, true, true, true, true, true, true, true, true, false, false, false] rfl rfl (by kernel_rfl) (fun _ _ _ h => h) (Or.inr ⟨by rfl, rfl⟩) ?_ ?_
      rotate_left
      · simp only [Act.put, List.setIfInBounds_toArray, List.set_cons_zero, List.set_cons_succ, i64_w, i32_w]
        rfl
      refine pure_ (i := 24) (N := (some 54)) (v := undef) (a' := ?_) #[true, true, true, true, true, true, true, true, true, true, true, true, true, true, true, true, true, true, true, true, true, true, true, true, true, false, false] rfl rfl (by kernel_rfl) (fun _ _ _ h => h) (Or.inr ⟨by rfl, rfl⟩) ?_ ?_
      rotate_left
      · simp only [Act.put, List.setIfInBounds_toArray, List.set_cons_zero, List.set_cons_succ, i64_w, i32_w]
        rfl
      refine pure_ (i := 25) (N := (some 55)) (v := ?_) (a' := ?_) #[true, true, true, true, true, true, true, true, true, true, true, true, true, true, true, true, true, true, true, true, true, true, true, true, true, true, false] rfl rfl (by kernel_rfl) (fun _ _ _ h => h) (Or.inl ⟨by rfl, ?_⟩) ?_ ?_
      rotate_left
      · intro w'
        go_simp
        with_reducible rfl
      rotate_left
      · simp only [Act.put, List.setIfInBounds_toArray, List.set_cons_zero, List.set_cons_succ, i64_w, i32_w]
        rfl
      refine pure_ (i := 26) (N := (some 56)) (v := ?_) (a' := ?_) #[true, true, true, true, true, true, true, true, true, true, true, true, true, true, true, true, true, true, true, true, true, true, true, true, true, true, true] rfl rfl (by kernel_rfl) (fun _ _ _ h => h) (Or.inl ⟨by rfl, ?_⟩) ?_ ?_
      rotate_left
      · intro w'
        go_simp
        with_reducible rfl
      rotate_left
      · simp only [Act.put, List.setIfInBounds_toArray, List.set_cons_zero, List.set_cons_succ, i64_w, i32_w]
        rfl
      refine done_ (by kernel_rfl) ?_
      clear hHeld hb1 i9
      have HNAM := Lib.hid (HPd.out.perm (show List.Perm _ (ABlk sb (.cells #[.int .i64 nw, .map (some mb), .map (some lb)] 93 (0, 0)) :: AMg KG encB mb (nb q) :: AQs q T' :: AMg KI encD lb d :: ARs R :: ABlk yb (.cells #[.int .i64 an.code, .slice A1 n1 c1, .slice B1 m1 d1] 36 (0, 0)) :: AInt (.slice A1 n1 c1) an.ids :: ATk (.slice B1 m1 d1) an.took :: ABlk xb (.cells #[.int .i64 m.client, .int .i64 m.req, .int .i64 m.kind, .string m.queue, .int .i64 m.a.vis, .int .i64 m.a.ret, .int .i64 m.a.del, .int .i64 m.a.win, .int .i64 m.a.max, .string m.a.dead, .bool m.a.fifo, .string m.body, .string m.group, .string m.key, .string m.receipt, .slice B nb' cb, .int .i64 m.n, .int .i64 m.m] 32 (0, 0)) :: []) by (repeat (first | (with_reducible exact List.Perm.refl _) | (with_reducible refine pb0 ?_) | (with_reducible refine pb1 ?_) | (with_reducible refine pb2 ?_) | (with_reducible refine pb3 ?_) | (with_reducible refine pb4 ?_) | (with_reducible refine pb5 ?_) | (with_reducible refine pb6 ?_) | (with_reducible refine pb7 ?_) | (with_reducible refine pb8 ?_) | (with_reducible refine pb9 ?_) | (with_reducible refine pb10 ?_) | (with_reducible refine pb11 ?_) | (with_reducible refine pb12 ?_) | (with_reducible refine pb13 ?_) | (with_reducible refine pb14 ?_) | (with_reducible refine pb15 ?_)))))
      have HNM := Lib.hid (HNAM.out.shNames (HIN.out.ris.of_keys (by rw [nb_keys, ← lq_keys, HQE.out])) (by rw [← lq_len, HQE.out]; have := HIN.out.len; omega))
      obtain ⟨names, hnames⟩ : ∃ l, l = q.map (·.1) := ⟨_, rfl⟩
      rw [← hnames] at HNM
      have hnl : names.length = q.length := by rw [hnames, List.length_map]
      have HNS := Lib.hid hnames
      clear hnames HNAM
      go_wp2_with fail
      refine Calls.mono HNM.out ?_
      rintro e w3 ⟨AN, nN, cN, rfl, hn, hP⟩
      have HNN := Lib.hid (hn.trans hnl)
      have HP3 := Lib.hid hP
      clear hn hnl hP
      have hmN := Kd.C_max (Kd.R_reads' HP3.out.head).2.2
      rw [← (Kd.R_reads' HP3.out.head).1] at hmN
      go_wp2_with fail
      go_loopw [60] (fun jv wx => ∃ (j : Nat), jv = .int .i64 j ∧ j ≤ nN ∧ w3 = wx) (fun jv _ => nN - (intOf jv).toNat)
      case atStart => exact ⟨0, rfl, Nat.zero_le _, rfl⟩
      case round =>
        obtain ⟨j, rfl, hj, rfl⟩ := hrel
        by_cases hjn : j < nN
        case pos =>
          obtain ⟨ae, nm, hA, hx, d0⟩ := C_nth_scalar (Kd.R_reads' HP3.out.head).2.2 j (by rw [← (Kd.R_reads' HP3.out.head).1]; exact hjn)
          subst hA
          have j0 : (0 : Int) ≤ (j : Int) := by omega
          have j1 : (j : Int) < (nN : Int) := by omega
          have hqi : ∃ b σ, q[j]? = some (nm, (b, σ)) := by
            rw [HNS.out, List.getElem?_map] at hx
            obtain ⟨⟨a, b, σ⟩, h1, h2⟩ := Option.map_eq_some_iff.1 hx
            obtain rfl : a = nm := h2
            exact ⟨b, σ, h1⟩
          obtain ⟨b, σ, hqi⟩ := hqi
          have hmem : (nm, (b, σ)) ∈ q := List.mem_of_getElem? hqi
          have hml : (nm, σ) ∈ S'.l := by rw [← HQE.out]; exact List.mem_map.2 ⟨_, hmem, rfl⟩
          have hnmz : nm.size ≤ maxLen := by have h1 := (HIN.out.names _ hml).2; simp [maxLen]; dsimp only at h1; omega
          have hmg : mget (nb q) nm = some b := mget_mem (by rw [nb_keys, ← lq_keys, HQE.out]; exact HIN.out.ris.keys) (p := (nm, b)) (by unfold nb; exact List.mem_map.2 ⟨_, hmem, rfl⟩)
          have hti : σ.now = nw := (HIN.out.time _ hml).trans HNW.out.symm
          obtain ⟨l1, l2, hsp⟩ := List.append_of_mem hmem
          have hQC := HP3.out.tail.shQueueC hnmz
          rw [hmg] at hQC
          have HQC := Lib.hid (show Calls Tryz.prog 25 #[.pointer (some ⟨sb, 0, none⟩), .string nm] w3 fun e w' => e = .returned (.tuple #[.pointer (some ⟨b, 0, none⟩), .bool true]) ∧ w3 = w' from hQC)
          have HQN := Lib.hid (show Calls Tryz.prog 26 #[.pointer (some ⟨b, 0, none⟩)] w3 fun e w' => e = .returned (.int .i64 nw) ∧ w3 = w' from by
            have h1 := HP3.out.up3
            have e : AQs q T' = AQs (l1 ++ (nm, (b, σ)) :: l2) T' := by rw [← hsp]
            rw [e] at h1
            have h2 := h1.qsPick.quNow
            dsimp only at h2
            rw [hti] at h2
            exact h2)
          have HSN := Lib.hid (show Calls Tryz.prog 24 #[.pointer (some ⟨sb, 0, none⟩)] w3 fun e w' => e = .returned (.int .i64 nw) ∧ w3 = w' from HP3.out.tail.shNowC)
          clear hx hqi hmem hml hnmz hmg hti hsp hQC
          go_wp2_with fail
          refine Calls.mono HQC.out ?_
          rintro e w7 ⟨rfl, rfl⟩
          go_wp2_with (first | (go_at_call 26; refine Calls.mono HQN.out ?_; rintro e w8 ⟨rfl, rfl⟩) | (go_at_call 24; refine Calls.mono HSN.out ?_; rintro e w8 ⟨rfl, rfl⟩))
          refine ⟨⟨j + 1, by simp, by omega, by first | rfl | trivial⟩, ?_⟩
          simp [intOf]
          omega
        case neg =>
        have j1 : ¬ (j : Int) < (nN : Int) := by omega
        have HPE := Lib.hid (show Hp w w3 [AShO sb S' (k + 1)] from by
          have h1 : Hp w w3 (ABlk sb (.cells #[.int .i64 S'.now, .map (some mb), .map (some lb)] 93 (0, 0)) :: AMg KG encB mb (nb q) :: AQs q T' :: AMg KI encD lb d :: [ARs R]) := by
            rw [← HNW.out]
            exact (HP3.out.tail.perm (show List.Perm _ (AInt (.slice A1 n1 c1) an.ids :: ATk (.slice B1 m1 d1) an.took :: ABlk yb (.cells #[.int .i64 an.code, .slice A1 n1 c1, .slice B1 m1 d1] 36 (0, 0)) :: ABlk xb (.cells #[.int .i64 m.client, .int .i64 m.req, .int .i64 m.kind, .string m.queue, .int .i64 m.a.vis, .int .i64 m.a.ret, .int .i64 m.a.del, .int .i64 m.a.win, .int .i64 m.a.max, .string m.a.dead, .bool m.a.fifo, .string m.body, .string m.group, .string m.key, .string m.receipt, .slice B nb' cb, .int .i64 m.n, .int .i64 m.m] 32 (0, 0)) :: ABlk sb (.cells #[.int .i64 nw, .map (some mb), .map (some lb)] 93 (0, 0)) :: AMg KG encB mb (nb q) :: AQs q T' :: AMg KI encD lb d :: [ARs R]) by (repeat (first | (with_reducible exact List.Perm.refl _) | (with_reducible refine pb0 ?_) | (with_reducible refine pb1 ?_) | (with_reducible refine pb2 ?_) | (with_reducible refine pb3 ?_) | (with_reducible refine pb4 ?_) | (with_reducible refine pb5 ?_) | (with_reducible refine pb6 ?_) | (with_reducible refine pb7 ?_) | (with_reducible refine pb8 ?_) | (with_reducible refine pb9 ?_) | (with_reducible refine pb10 ?_) | (with_reducible refine pb11 ?_) | (with_reducible refine pb12 ?_) | (with_reducible refine pb13 ?_) | (with_reducible refine pb14 ?_) | (with_reducible refine pb15 ?_))))).tail.tail.tail.tail
          exact (h1.srShut HIN.out ⟨HQE.out, HDE.out⟩ HRE.out).soShut HGR.out)
        go_wp2_with fail
        refine ⟨⟨k + 1, S', by simp, by omega, HPE.out⟩, ?_⟩
        simp [intOf]
        omega
    case neg =>
    have hb1 : (nw != S.now) = true := by simpa using hsame
    have HNB := Lib.hid (HNA.out.resolve_left hsame)
    have hb2 : (m.kind != 0) = false := by simpa using HNB.out.1
    have hb3 : (an.code != 0) = false := by simpa using HNB.out.2.2.2
    have hb4 : (nw != m.n) = false := by simpa using HNB.out.2.1
    clear hsame
    refine start_ (n := 27) (S := fun w' => w'.heap[xb]? = some (.cells #[.int .i64 m.client, .int .i64 m.req, .int .i64 m.kind, .string m.queue, .int .i64 m.a.vis, .int .i64 m.a.ret, .int .i64 m.a.del, .int .i64 m.a.win, .int .i64 m.a.max, .string m.a.dead, .bool m.a.fifo, .string m.body, .string m.group, .string m.key, .string m.receipt, .slice B nb' cb, .int .i64 m.n, .int .i64 m.m] 32 (0, 0)) ∧ w'.heap[yb]? = some (.cells #[.int .i64 an.code, .slice A1 n1 c1, .slice B1 m1 d1] 36 (0, 0))) (ds := []) #[false, false, false, false, false, false, false, false, false, false, false, false, false, false, false, false, false, false, false, false, false, false, false, false, false, false, false] (by kernel_rfl) rfl rfl (⟨HPd.out.tail.tail.tail.tail.tail.tail.tail.tail.blk0, HPd.out.tail.tail.tail.tail.tail.blk0⟩) (fun hHeld => ?_)
    generalize W4.drew = wd at *
    refine pure_ (i := 0) (N := (some 30)) (v := ?_) (a' := ?_) #[true, false, false, false, false, false, false, false, false, false, false, false, false, false, false, false, false, false, false, false, false, false, false, false, false, false, false] rfl rfl (by kernel_rfl) (fun _ _ _ h => h) (Or.inl ⟨by rfl, ?_⟩) ?_ ?_
    rotate_left
    · intro w'
      go_simp
      with_reducible rfl
    rotate_left
    · simp only [Act.put, List.setIfInBounds_toArray, List.set_cons_zero, List.set_cons_succ, i64_w, i32_w]
      rfl
    refine pure_ (i := 2) (N := (some 32)) (v := ?_) (a' := ?_) #[true, false, true, false, false, false, false, false, false, false, false, false, false, false, false, false, false, false, false, false, false, false, false, false, false, false, false] rfl rfl (by kernel_rfl) (fun _ _ _ h => h) (Or.inl ⟨by rfl, ?_⟩) ?_ ?_
    rotate_left
    · intro w'
      go_simp
      with_reducible rfl
    rotate_left
    · simp only [Act.put, List.setIfInBounds_toArray, List.set_cons_zero, List.set_cons_succ, i64_w, i32_w]
      rfl
    refine one_ (i := 1) (N := (some 31)) #[true, true, true, false, false, false, false, false, false, false, false, false, false, false, false, false, false, false, false, false, false, false, false, false, false, false, false] rfl rfl (by kernel_rfl) (by decide) (fun K hK => ?_)
    refine goes_ Tryz.func24 (by kernel_rfl) rfl #[.pointer (some ⟨sb, 0, none⟩)] (by rfl) rfl rfl (by first | rfl | (go_simp; done) | (simp [Act.eval]; done) | (simp [Act.eval]; rfl)) ?_
    refine Calls.mono (HPd.out.shNowC) ?_
    rintro e we ⟨rfl, rfl⟩
    refine ⟨_, rfl, ?_⟩
    refine hK.out _ _ (⟨HPd.out.tail.tail.tail.tail.tail.tail.tail.tail.blk0, HPd.out.tail.tail.tail.tail.tail.blk0⟩) (fun hHeld => ?_)
    clear hK K
    refine norm_ (a' := ?_) ?_ ?_
    rotate_left
    · show Act.put _ (some 31) _ = _
      simp only [Act.put, List.setIfInBounds_toArray, List.set_cons_zero, List.set_cons_succ, i64_w, i32_w]
      rfl
    refine pure_ (i := 3) (N := (some 33)) (v := ?_) (a' := ?_) #[true, true, true, true, false, false, false, false, false, false, false, false, false, false, false, false, false, false, false, false, false, false, false, false, false, false, false] rfl rfl (by kernel_rfl) (fun _ _ _ h => h) (Or.inl ⟨by rfl, ?_⟩) ?_ ?_
    rotate_left
    · intro w'
      go_simp
      with_reducible rfl
    rotate_left
    · simp only [Act.put, List.setIfInBounds_toArray, List.set_cons_zero, List.set_cons_succ, i64_w, i32_w]
      rfl
    refine pure_ (i := 4) (N := (some 34)) (v := ?_) (a' := ?_) #[true, true, true, true, true, false, false, false, false, false, false, false, false, false, false, false, false, false, false, false, false, false, false, false, false, false, false] rfl rfl (by kernel_rfl) (fun _ _ _ h => h) (Or.inl ⟨by rfl, ?_⟩) ?_ ?_
    rotate_left
    · intro w'
      go_simp
      with_reducible rfl
    rotate_left
    · simp only [Act.put, List.setIfInBounds_toArray, List.set_cons_zero, List.set_cons_succ, i64_w, i32_w]
      rfl
    refine pure_ (i := 5) (N := (some 35)) (v := ?_) (a' := ?_) #[true, true, true, true, true, true, false, false, false, false, false, false, false, false, false, false, false, false, false, false, false, false, false, false, false, false, false] rfl rfl (by kernel_rfl) (fun _ _ _ h => h) (Or.inl ⟨by rfl, ?_⟩) ?_ ?_
    rotate_left
    · intro w'
      go_simp
      with_reducible rfl
    rotate_left
    · simp only [Act.put, List.setIfInBounds_toArray, List.set_cons_zero, List.set_cons_succ, i64_w, i32_w]
      rfl
    refine pure_ (i := 7) (N := (some 37)) (v := ?_) (a' := ?_) #[true, true, true, true, true, true, false, true, false, false, false, false, false, false, false, false, false, false, false, false, false, false, false, false, false, false, false] rfl rfl (by kernel_rfl) (fun _ _ _ h => h) (Or.inl ⟨by rfl, ?_⟩) ?_ ?_
    rotate_left
    · intro w'
      go_simp
      with_reducible rfl
    rotate_left
    · simp only [Act.put, List.setIfInBounds_toArray, List.set_cons_zero, List.set_cons_succ, i64_w, i32_w]
      rfl
    refine one_ (i := 6) (N := (some 36)) #[true, true, true, true, true, true, true, true, false, false, false, false, false, false, false, false, false, false, false, false, false, false, false, false, false, false, false] rfl rfl (by kernel_rfl) (by decide) (fun K hK => ?_)
    refine goes_ Tryz.func24 (by kernel_rfl) rfl #[.pointer (some ⟨sb, 0, none⟩)] (by rfl) rfl rfl (by first | rfl | (go_simp; done) | (simp [Act.eval]; done) | (simp [Act.eval]; rfl)) ?_
    refine Calls.mono (HPd.out.shNowC) ?_
    rintro e we ⟨rfl, rfl⟩
    refine ⟨_, rfl, ?_⟩
    refine hK.out _ _ (⟨HPd.out.tail.tail.tail.tail.tail.tail.tail.tail.blk0, HPd.out.tail.tail.tail.tail.tail.blk0⟩) (fun hHeld => ?_)
    clear hK K
    refine norm_ (a' := ?_) ?_ ?_
    rotate_left
    · show Act.put _ (some 36) _ = _
      simp only [Act.put, List.setIfInBounds_toArray, List.set_cons_zero, List.set_cons_succ, i64_w, i32_w]
      rfl
    refine pure_ (i := 8) (N := (some 38)) (v := ?_) (a' := ?_) #[true, true, true, true, true, true, true, true, true, false, false, false, false, false, false, false, false, false, false, false, false, false, false, false, false, false, false] rfl rfl (by kernel_rfl) (fun _ _ _ h => h) (Or.inl ⟨by rfl, ?_⟩) ?_ ?_
    rotate_left
    · intro w'
      go_simp
      with_reducible rfl
    rotate_left
    · simp only [Act.put, List.setIfInBounds_toArray, List.set_cons_zero, List.set_cons_succ, i64_w, i32_w]
      rfl
    refine pure_ (i := 9) (N := (some 39)) (v := ?_) (a' := ?_) #[true, true, true, true, true, true, true, true, true, true, false, false, false, false, false, false, false, false, false, false, false, false, false, false, false, false, false] rfl rfl (by kernel_rfl) (fun _ _ _ h => h) (Or.inl ⟨by rfl, ?_⟩) ?_ ?_
    rotate_left
    · intro w'
      go_simp
      with_reducible rfl
    rotate_left
    · simp only [Act.put, List.setIfInBounds_toArray, List.set_cons_zero, List.set_cons_succ, i64_w, i32_w]
      rfl
    refine pure_ (i := 10) (N := (some 40)) (v := ?_) (a' := ?_) #[true, true, true, true, true, true, true, true, true, true, true, false, false, false, false, false, false, false, false, false, false, false, false, false, false, false, false] rfl rfl (by kernel_rfl) (fun _ _ _ h => h) (Or.inl ⟨by rfl, ?_⟩) ?_ ?_
    rotate_left
    · intro w'
      go_simp
      with_reducible rfl
    rotate_left
    · simp only [Act.put, List.setIfInBounds_toArray, List.set_cons_zero, List.set_cons_succ, i64_w, i32_w]
      rfl
    refine take_ (i := 11) (N := (some 41)) (v := ?_) (a' := ?_) #[true, true, true, true, true, true, true, true, true, true, true, true, false, false, false, false, false, false, false, false, false, false, false, false, false, false, false] rfl rfl (by kernel_rfl) (fun _ _ _ h => h) (Or.inl ⟨by rfl, ?_⟩) hHeld ?_ ?_
    rotate_left
    · rintro w' ⟨hh, -⟩
      have g2 : w'.cell? ⟨xb, 2, none⟩ = some (.int .i64 m.kind) := blk_cell hh 2
      go_simp
      with_reducible rfl
    rotate_left
    · simp only [Act.put, List.setIfInBounds_toArray, List.set_cons_zero, List.set_cons_succ, i64_w, i32_w]
      rfl
    refine pure_ (i := 12) (N := (some 42)) (v := ?_) (a' := ?_) #[true, true, true, true, true, true, true, true, true, true, true, true, true, false, false, false, false, false, false, false, false, false, false, false, false, false, false] rfl rfl (by kernel_rfl) (fun _ _ _ h => h) (Or.inl ⟨by rfl, ?_⟩) ?_ ?_
    rotate_left
    · intro w'
      go_simp
      with_reducible rfl
    rotate_left
    · simp only [Act.put, List.setIfInBounds_toArray, List.set_cons_zero, List.set_cons_succ, i64_w, i32_w]
      rfl
    refine pure_ (i := 13) (N := (some 43)) (v := ?_) (a' := ?_) #[true, true, true, true, true, true, true, true, true, true, true, true, true, true, false, false, false, false, false, false, false, false, false, false, false, false, false] rfl rfl (by kernel_rfl) (fun _ _ _ h => h) (Or.inl ⟨by rfl, ?_⟩) ?_ ?_
    rotate_left
    · intro w'
      go_simp
      with_reducible rfl
    rotate_left
    · simp only [Act.put, List.setIfInBounds_toArray, List.set_cons_zero, List.set_cons_succ, i64_w, i32_w]
      rfl
    refine pure_ (i := 14) (N := (some 44)) (v := ?_) (a' := ?_) #[true, true, true, true, true, true, true, true, true, true, true, true, true, true, true, false, false, false, false, false, false, false, false, false, false, false, false] rfl rfl (by kernel_rfl) (fun _ _ _ h => h) (Or.inl ⟨by rfl, ?_⟩) ?_ ?_
    rotate_left
    · intro w'
      go_simp
      with_reducible rfl
    rotate_left
    · simp only [Act.put, List.setIfInBounds_toArray, List.set_cons_zero, List.set_cons_succ, i64_w, i32_w]
      rfl
    refine take_ (i := 15) (N := (some 45)) (v := ?_) (a' := ?_) #[true, true, true, true, true, true, true, true, true, true, true, true, true, true, true, true, false, false, false, false, false, false, false, false, false, false, false] rfl rfl (by kernel_rfl) (fun _ _ _ h => h) (Or.inl ⟨by rfl, ?_⟩) hHeld ?_ ?_
    rotate_left
    · rintro w' ⟨-, hh⟩
      have g0 : w'.cell? ⟨yb, 0, none⟩ = some (.int .i64 an.code) := blk_cell hh 0
      go_simp
      with_reducible rfl
    rotate_left
    · simp only [Act.put, List.setIfInBounds_toArray, List.set_cons_zero, List.set_cons_succ, i64_w, i32_w]
      rfl
    refine pure_ (i := 16) (N := (some 46)) (v := ?_) (a' := ?_) #[true, true, true, true, true, true, true, true, true, true, true, true, true, true, true, true, true, false, false, false, false, false, false, false, false, false, false] rfl rfl (by kernel_rfl) (fun _ _ _ h => h) (Or.inl ⟨by rfl, ?_⟩) ?_ ?_
    rotate_left
    · intro w'
      go_simp
      with_reducible rfl
    rotate_left
    · simp only [Act.put, List.setIfInBounds_toArray, List.set_cons_zero, List.set_cons_succ, i64_w, i32_w]
      rfl
    refine pure_ (i := 17) (N := (some 47)) (v := ?_) (a' := ?_) #[true, true, true, true, true, true, true, true, true, true, true, true, true, true, true, true, true, true, false, false, false, false, false, false, false, false, false] rfl rfl (by kernel_rfl) (fun _ _ _ h => h) (Or.inl ⟨by rfl, ?_⟩) ?_ ?_
    rotate_left
    · intro w'
      go_simp
      with_reducible rfl
    rotate_left
    · simp only [Act.put, List.setIfInBounds_toArray, List.set_cons_zero, List.set_cons_succ, i64_w, i32_w]
      rfl
    refine pure_ (i := 18) (N := (some 48)) (v := ?_) (a' := ?_) #[true, true, true, true, true, true, true, true, true, true, true, true, true, true, true, true, true, true, true, false, false, false, false, false, false, false, false] rfl rfl (by kernel_rfl) (fun _ _ _ h => h) (Or.inl ⟨by rfl, ?_⟩) ?_ ?_
    rotate_left
    · intro w'
      go_simp
      with_reducible rfl
    rotate_left
    · simp only [Act.put, List.setIfInBounds_toArray, List.set_cons_zero, List.set_cons_succ, i64_w, i32_w]
      rfl
    refine pure_ (i := 19) (N := (some 49)) (v := ?_) (a' := ?_) #[true, true, true, true, true, true, true, true, true, true, true, true, true, true, true, true, true, true, true, true, false, false, false, false, false, false, false] rfl rfl (by kernel_rfl) (fun _ _ _ h => h) (Or.inl ⟨by rfl, ?_⟩) ?_ ?_
    rotate_left
    · intro w'
      go_simp
      with_reducible rfl
    rotate_left
    · simp only [Act.put, List.setIfInBounds_toArray, List.set_cons_zero, List.set_cons_succ, i64_w, i32_w]
      rfl
    refine pure_ (i := 21) (N := (some 51)) (v := ?_) (a' := ?_) #[true, true, true, true, true, true, true, true, true, true, true, true, true, true, true, true, true, true, true, true, false, true, false, false, false, false, false] rfl rfl (by kernel_rfl) (fun _ _ _ h => h) (Or.inl ⟨by rfl, ?_⟩) ?_ ?_
    rotate_left
    · intro w'
      go_simp
      with_reducible rfl
    rotate_left
    · simp only [Act.put, List.setIfInBounds_toArray, List.set_cons_zero, List.set_cons_succ, i64_w, i32_w]
      rfl
    refine take_ (i := 22) (N := (some 52)) (v := ?_) (a' := ?_) #[true, true, true, true, true, true, true, true, true, true, true, true, true, true, true, true, true, true, true, true, false, true, true, false, false, false, false] rfl rfl (by kernel_rfl) (fun _ _ _ h => h) (Or.inl ⟨by rfl, ?_⟩) hHeld ?_ ?_
    rotate_left
    · rintro w' ⟨hh, -⟩
      have g2 : w'.cell? ⟨xb, 16, none⟩ = some (.int .i64 m.n) := blk_cell hh 16
      go_simp
      with_reducible rfl
    rotate_left
    · simp only [Act.put, List.setIfInBounds_toArray, List.set_cons_zero, List.set_cons_succ, i64_w, i32_w]
      rfl
    refine one_ (i := 20) (N := (some 50)) #[true, true, true, true, true, true, true, true, true, true, true, true, true, true, true, true, true, true, true, true, true, true, true, false, false, false, false] rfl rfl (by kernel_rfl) (by decide) (fun K hK => ?_)
    refine goes_ Tryz.func24 (by kernel_rfl) rfl #[.pointer (some ⟨sb, 0, none⟩)] (by rfl) rfl rfl (by first | rfl | (go_simp; done) | (simp [Act.eval]; done) | (simp [Act.eval]; rfl)) ?_
    refine Calls.mono (HPd.out.shNowC) ?_
    rintro e we ⟨rfl, rfl⟩
    refine ⟨_, rfl, ?_⟩
    refine hK.out _ _ (⟨HPd.out.tail.tail.tail.tail.tail.tail.tail.tail.blk0, HPd.out.tail.tail.tail.tail.tail.blk0⟩) (fun hHeld => ?_)
    clear hK K
    refine norm_ (a' := ?_) ?_ ?_
    rotate_left
    · show Act.put _ (some 50) _ = _
      simp only [Act.put, List.setIfInBounds_toArray, List.set_cons_zero, List.set_cons_succ, i64_w, i32_w]
      rfl
    refine pure_ (i := 23) (N := (some 53)) (v := ?_) (a' := ?_) #[true, true, true, true, true, true, true, true, true, true, true, true, true, true, true, true, true, true, true, true, true, true, true, true, false, false, false] rfl rfl (by kernel_rfl) (fun _ _ _ h => h) (Or.inl ⟨by rfl, ?_⟩) ?_ ?_
    rotate_left
    · intro w'
      go_simp
      with_reducible rfl
    rotate_left
    · simp only [Act.put, List.setIfInBounds_toArray, List.set_cons_zero, List.set_cons_succ, i64_w, i32_w]
      rfl
    refine pure_ (i := 24) (N := (some 54)) (v := ?_) (a' := ?_) #[true, true, true, true, true, true, true, true, true, true, true, true, true, true, true, true, true, true, true, true, true, true, true, true, true, false, false] rfl rfl (by kernel_rfl) (fun _ _ _ h => h) (Or.inl ⟨by rfl, ?_⟩) ?_ ?_
    rotate_left
    · intro w'
      go_simp
      with_reducible rfl
    rotate_left
    · simp only [Act.put, List.setIfInBounds_toArray, List.set_cons_zero, List.set_cons_succ, i64_w, i32_w]
      rfl
    refine pure_ (i := 25) (N := (some 55)) (v := ?_) (a' := ?_) #[true, true, true, true, true, true, true, true, true, true, true, true, true, true, true, true, true, true, true, true, true, true, true, true, true, true, false] rfl rfl (by kernel_rfl) (fun _ _ _ h => h) (Or.inl ⟨by rfl, ?_⟩) ?_ ?_
    rotate_left
    · intro w'
      go_simp
      with_reducible rfl
    rotate_left
    · simp only [Act.put, List.setIfInBounds_toArray, List.set_cons_zero, List.set_cons_succ, i64_w, i32_w]
      rfl
    refine pure_ (i := 26) (N := (some 56)) (v := ?_) (a' := ?_) #[true, true, true, true, true, true, true, true, true, true, true, true, true, true, true, true, true, true, true, true, true, true, true, true, true, true, true] rfl rfl (by kernel_rfl) (fun _ _ _ h => h) (Or.inl ⟨by rfl, ?_⟩) ?_ ?_
    rotate_left
    · intro w'
      go_simp
      with_reducible rfl
    rotate_left
    · simp only [Act.put, List.setIfInBounds_toArray, List.set_cons_zero, List.set_cons_succ, i64_w, i32_w]
      rfl
    refine done_ (by kernel_rfl) ?_
    clear hHeld hb1 hb2 hb3 hb4 i9
    have HNAM := Lib.hid (HPd.out.perm (show List.Perm _ (ABlk sb (.cells #[.int .i64 nw, .map (some mb), .map (some lb)] 93 (0, 0)) :: AMg KG encB mb (nb q) :: AQs q T' :: AMg KI encD lb d :: ARs R :: ABlk yb (.cells #[.int .i64 an.code, .slice A1 n1 c1, .slice B1 m1 d1] 36 (0, 0)) :: AInt (.slice A1 n1 c1) an.ids :: ATk (.slice B1 m1 d1) an.took :: ABlk xb (.cells #[.int .i64 m.client, .int .i64 m.req, .int .i64 m.kind, .string m.queue, .int .i64 m.a.vis, .int .i64 m.a.ret, .int .i64 m.a.del, .int .i64 m.a.win, .int .i64 m.a.max, .string m.a.dead, .bool m.a.fifo, .string m.body, .string m.group, .string m.key, .string m.receipt, .slice B nb' cb, .int .i64 m.n, .int .i64 m.m] 32 (0, 0)) :: []) by (repeat (first | (with_reducible exact List.Perm.refl _) | (with_reducible refine pb0 ?_) | (with_reducible refine pb1 ?_) | (with_reducible refine pb2 ?_) | (with_reducible refine pb3 ?_) | (with_reducible refine pb4 ?_) | (with_reducible refine pb5 ?_) | (with_reducible refine pb6 ?_) | (with_reducible refine pb7 ?_) | (with_reducible refine pb8 ?_) | (with_reducible refine pb9 ?_) | (with_reducible refine pb10 ?_) | (with_reducible refine pb11 ?_) | (with_reducible refine pb12 ?_) | (with_reducible refine pb13 ?_) | (with_reducible refine pb14 ?_) | (with_reducible refine pb15 ?_)))))
    have HNM := Lib.hid (HNAM.out.shNames (HIN.out.ris.of_keys (by rw [nb_keys, ← lq_keys, HQE.out])) (by rw [← lq_len, HQE.out]; have := HIN.out.len; omega))
    obtain ⟨names, hnames⟩ : ∃ l, l = q.map (·.1) := ⟨_, rfl⟩
    rw [← hnames] at HNM
    have hnl : names.length = q.length := by rw [hnames, List.length_map]
    have HNS := Lib.hid hnames
    clear hnames HNAM
    go_wp2_with fail
    refine Calls.mono HNM.out ?_
    rintro e w3 ⟨AN, nN, cN, rfl, hn, hP⟩
    have HNN := Lib.hid (hn.trans hnl)
    have HP3 := Lib.hid hP
    clear hn hnl hP
    have hmN := Kd.C_max (Kd.R_reads' HP3.out.head).2.2
    rw [← (Kd.R_reads' HP3.out.head).1] at hmN
    go_wp2_with fail
    go_loopw [60] (fun jv wx => ∃ (j : Nat), jv = .int .i64 j ∧ j ≤ nN ∧ w3 = wx) (fun jv _ => nN - (intOf jv).toNat)
    case atStart => exact ⟨0, rfl, Nat.zero_le _, rfl⟩
    case round =>
      obtain ⟨j, rfl, hj, rfl⟩ := hrel
      by_cases hjn : j < nN
      case pos =>
        obtain ⟨ae, nm, hA, hx, d0⟩ := C_nth_scalar (Kd.R_reads' HP3.out.head).2.2 j (by rw [← (Kd.R_reads' HP3.out.head).1]; exact hjn)
        subst hA
        have j0 : (0 : Int) ≤ (j : Int) := by omega
        have j1 : (j : Int) < (nN : Int) := by omega
        have hqi : ∃ b σ, q[j]? = some (nm, (b, σ)) := by
          rw [HNS.out, List.getElem?_map] at hx
          obtain ⟨⟨a, b, σ⟩, h1, h2⟩ := Option.map_eq_some_iff.1 hx
          obtain rfl : a = nm := h2
          exact ⟨b, σ, h1⟩
        obtain ⟨b, σ, hqi⟩ := hqi
        have hmem : (nm, (b, σ)) ∈ q := List.mem_of_getElem? hqi
        have hml : (nm, σ) ∈ S'.l := by rw [← HQE.out]; exact List.mem_map.2 ⟨_, hmem, rfl⟩
        have hnmz : nm.size ≤ maxLen := by have h1 := (HIN.out.names _ hml).2; simp [maxLen]; dsimp only at h1; omega
        have hmg : mget (nb q) nm = some b := mget_mem (by rw [nb_keys, ← lq_keys, HQE.out]; exact HIN.out.ris.keys) (p := (nm, b)) (by unfold nb; exact List.mem_map.2 ⟨_, hmem, rfl⟩)
        have hti : σ.now = nw := (HIN.out.time _ hml).trans HNW.out.symm
        obtain ⟨l1, l2, hsp⟩ := List.append_of_mem hmem
        have hQC := HP3.out.tail.shQueueC hnmz
        rw [hmg] at hQC
        have HQC := Lib.hid (show Calls Tryz.prog 25 #[.pointer (some ⟨sb, 0, none⟩), .string nm] w3 fun e w' => e = .returned (.tuple #[.pointer (some ⟨b, 0, none⟩), .bool true]) ∧ w3 = w' from hQC)
        have HQN := Lib.hid (show Calls Tryz.prog 26 #[.pointer (some ⟨b, 0, none⟩)] w3 fun e w' => e = .returned (.int .i64 nw) ∧ w3 = w' from by
          have h1 := HP3.out.up3
          have e : AQs q T' = AQs (l1 ++ (nm, (b, σ)) :: l2) T' := by rw [← hsp]
          rw [e] at h1
          have h2 := h1.qsPick.quNow
          dsimp only at h2
          rw [hti] at h2
          exact h2)
        have HSN := Lib.hid (show Calls Tryz.prog 24 #[.pointer (some ⟨sb, 0, none⟩)] w3 fun e w' => e = .returned (.int .i64 nw) ∧ w3 = w' from HP3.out.tail.shNowC)
        clear hx hqi hmem hml hnmz hmg hti hsp hQC
        go_wp2_with fail
        refine Calls.mono HQC.out ?_
        rintro e w7 ⟨rfl, rfl⟩
        go_wp2_with (first | (go_at_call 26; refine Calls.mono HQN.out ?_; rintro e w8 ⟨rfl, rfl⟩) | (go_at_call 24; refine Calls.mono HSN.out ?_; rintro e w8 ⟨rfl, rfl⟩))
        refine ⟨⟨j + 1, by simp, by omega, by first | rfl | trivial⟩, ?_⟩
        simp [intOf]
        omega
      case neg =>
      have j1 : ¬ (j : Int) < (nN : Int) := by omega
      have HPE := Lib.hid (show Hp w w3 [AShO sb S' (k + 1)] from by
        have h1 : Hp w w3 (ABlk sb (.cells #[.int .i64 S'.now, .map (some mb), .map (some lb)] 93 (0, 0)) :: AMg KG encB mb (nb q) :: AQs q T' :: AMg KI encD lb d :: [ARs R]) := by
          rw [← HNW.out]
          exact (HP3.out.tail.perm (show List.Perm _ (AInt (.slice A1 n1 c1) an.ids :: ATk (.slice B1 m1 d1) an.took :: ABlk yb (.cells #[.int .i64 an.code, .slice A1 n1 c1, .slice B1 m1 d1] 36 (0, 0)) :: ABlk xb (.cells #[.int .i64 m.client, .int .i64 m.req, .int .i64 m.kind, .string m.queue, .int .i64 m.a.vis, .int .i64 m.a.ret, .int .i64 m.a.del, .int .i64 m.a.win, .int .i64 m.a.max, .string m.a.dead, .bool m.a.fifo, .string m.body, .string m.group, .string m.key, .string m.receipt, .slice B nb' cb, .int .i64 m.n, .int .i64 m.m] 32 (0, 0)) :: ABlk sb (.cells #[.int .i64 nw, .map (some mb), .map (some lb)] 93 (0, 0)) :: AMg KG encB mb (nb q) :: AQs q T' :: AMg KI encD lb d :: [ARs R]) by (repeat (first | (with_reducible exact List.Perm.refl _) | (with_reducible refine pb0 ?_) | (with_reducible refine pb1 ?_) | (with_reducible refine pb2 ?_) | (with_reducible refine pb3 ?_) | (with_reducible refine pb4 ?_) | (with_reducible refine pb5 ?_) | (with_reducible refine pb6 ?_) | (with_reducible refine pb7 ?_) | (with_reducible refine pb8 ?_) | (with_reducible refine pb9 ?_) | (with_reducible refine pb10 ?_) | (with_reducible refine pb11 ?_) | (with_reducible refine pb12 ?_) | (with_reducible refine pb13 ?_) | (with_reducible refine pb14 ?_) | (with_reducible refine pb15 ?_))))).tail.tail.tail.tail
        exact (h1.srShut HIN.out ⟨HQE.out, HDE.out⟩ HRE.out).soShut HGR.out)
      go_wp2_with fail
      refine ⟨⟨k + 1, S', by simp, by omega, HPE.out⟩, ?_⟩
      simp [intOf]
      omega
end Go.Proofs.YtipdleiginnjmaaGreatDoor
