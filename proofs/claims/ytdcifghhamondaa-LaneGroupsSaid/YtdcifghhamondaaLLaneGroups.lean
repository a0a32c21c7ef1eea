/- The statement LaneGroups of layer 6: every call of it tells true and leaves what was there as it was. -/
import Derived.Test.YtdcifghhamondaaLnOps
import Derived.Deep.DeepCutAuto
namespace Go.Proofs.Ytdcifghhamondaa
open Go.RowKit Go.Proofs.YtdcifghhamondaaW.PrintWords

set_option maxHeartbeats 3200000 in
set_option maxRecDepth 100000 in
theorem groups_law (A : Option Addr) (n cap : Nat) (ops : List Op) (group : ByteArray) (id : Int) (w : World) (hC : KOp.C w A n ops) (hc : n ≤ cap) (ho : ∀ x ∈ ops, (Lit.int .i64 x.1).wf = true ∧ (Lit.int .i64 x.2.1).wf = true ∧ x.2.2.size ≤ maxLen) (hgs : group.size ≤ maxLen) (hid : (Lit.int .i64 id).wf = true) :
    Calls Try.prog 3 #[.slice A n cap, .string group, .int .i64 id] w fun e w' => e = .returned (.bool true) ∧ Below w.heap.size w w' := by
  have HN := Lib.hid (Kd.C_len hC)
  have HC := Lib.hid hC
  have HO := Lib.hid ho
  have hm1 := Kd.C_max hC
  clear hC ho
  by_cases h60 : 60 < n
  · have h60i : (60 : Int) < n := by omega
    go_enter Try.func3, Try.ntmps3
    go_wp2_with (go_at_call 8; refine Calls.mono (awake_any _) ?_; rintro e w1 ⟨rfl, hB⟩)
    go_ret
    exact ⟨rfl, hB⟩
  · have h60i : ¬ (60 : Int) < n := by omega
    by_cases hg20 : 20 < group.size
    · have hg20i : (20 : Int) < group.size := by omega
      go_enter Try.func3, Try.ntmps3
      go_wp2_with (go_at_call 8; refine Calls.mono (awake_any _) ?_; rintro e w1 ⟨rfl, hB⟩)
      go_ret
      exact ⟨rfl, hB⟩
    have hg20i : ¬ (20 : Int) < group.size := by omega
    go_enter Try.func3, Try.ntmps3
    go_wp2_with fail
    refine Calls.mono (Hp.lnNew (Hp.nil w)) ?_
    rintro e w1 ⟨rfl, hP1⟩
    generalize w.heap.size + 2 = lb at *
    have HP1 := Lib.hid hP1.thNil
    clear hP1
    go_wp2_with fail
    go_loopw [8, 31] (fun v i wr => ∃ (k : Nat) (s : List En), i = .int .i64 k ∧ k ≤ n ∧ Hp w wr [ATh v (th s), ALn lb s k] ∧ s.length ≤ k) (fun _ i _ => n - (intOf i).toNat)
    case atStart => exact ⟨0, [], rfl, Nat.zero_le _, HP1.out, Nat.le_refl _⟩
    case round =>
      obtain ⟨k, s, rfl, hk, hP, hsl⟩ := hrel
      have HP := Lib.hid hP
      clear hP
      have hthl : (th s).length ≤ k := by rw [th_len s]; exact hsl
      by_cases hlt : k < n
      · obtain ⟨ad, kind, oid, og, rfl, hx, hf0, hf1, hf2⟩ := C_nth_op (Kd.C_below HC.out HP.out.belowW) k hlt
        obtain ⟨_, hwo, hgo⟩ := HO.out _ (List.mem_of_getElem? hx)
        have i0 : (0 : Int) ≤ (k : Int) := by omega
        have i1 : (k : Int) < (n : Int) := by omega
        clear hx
        obtain ⟨Ar, cr, rfl, hcr, hCr⟩ := HP.out.thRow
        clear hCr
        have hbl : wr.heap.size < (wr.alloc (.cells #[.int .i64 kind, .int .i64 oid, .string og] 28)).heap.size := by simp
        by_cases hog : 20 < og.size
        · have hog' : (20 : Int) < og.size := by omega
          have HBW := Lib.hid (HP.out.alloc (.cells #[.int .i64 kind, .int .i64 oid, .string og] 28)).belowW
          go_wp2_with (go_at_call 8; refine Calls.mono (awake_any _) ?_; rintro e w1 ⟨rfl, hB⟩)
          go_ret
          exact ⟨rfl, HBW.out.trans (hB.mono HBW.out.size)⟩
        have hog' : ¬ (20 : Int) < og.size := by omega
        by_cases hk1 : kind = 1
        · have hkb : (kind == 1) = true := by simp [hk1]
          clear hk1
          go_wp2_with fail
          refine Calls.mono (((HP.out.alloc _).up2).lnDrop oid hwo (by omega)) ?_
          rintro e w2 ⟨rfl, hT2⟩
          have b1 := blk_cell hT2.blk1 1
          simp only [List.getElem?_toArray, List.getElem?_cons_succ, List.getElem?_cons_zero] at b1
          have HT2 := Lib.hid hT2.up2
          clear hT2
          go_wp2_with fail
          refine Calls.mono (HT2.out.refDrop oid (by omega)) ?_
          rintro e w3 ⟨A3, c3, rfl, hT3⟩
          have hdl := lDrop_len s oid
          rw [← th_drop] at hT3 ⊢
          have HT3 := Lib.hid hT3.drop2
          clear hT3
          go_wp2_with fail
          refine ⟨⟨k + 1, lDrop s oid, by simp, by omega, ?_, by omega⟩, ?_⟩
          · exact (HT3.out.swap.lnT (Nat.le_succ k)).swap
          · simp [intOf]
            omega
        · have hkb : (kind == 1) = false := by simp [hk1]
          clear hk1
          go_wp2_with fail
          refine Calls.mono (((HP.out.alloc _).up2).lnAdd og oid hwo hgo (by omega)) ?_
          rintro e w2 ⟨rfl, t, hT2⟩
          have b1 := blk_cell hT2.blk1 1
          have b2 := blk_cell hT2.blk1 2
          simp only [List.getElem?_toArray, List.getElem?_cons_succ, List.getElem?_cons_zero] at b1 b2
          have HT2 := Lib.hid hT2.up2
          clear hT2
          go_wp2_with fail
          refine Calls.mono (HT2.out.refAdd og oid (by omega)) ?_
          rintro e w3 ⟨A3, c3, rfl, hT3⟩
          have hdl := lAdd_len s og oid t
          rw [← th_add s og oid t] at hT3 ⊢
          have HT3 := Lib.hid hT3.drop2
          clear hT3
          go_wp2_with fail
          refine ⟨⟨k + 1, lAdd s og oid t, by simp, by omega, HT3.out, by omega⟩, ?_⟩
          simp [intOf]
          omega
      · have hkn : k = n := by omega
        subst hkn
        obtain ⟨Ar, cr, rfl, hcr, hCr⟩ := HP.out.thRow
        have HCr := Lib.hid hCr
        clear hCr
        have hl0 := headOf_of (grp s group)
        generalize hgl : grp s group = l at hl0
        have HGL := Lib.hid hgl
        clear hgl
        have hids := Lib.hid (HP.out.swap.lnIds)
        cases hm : mget s id
        case' none =>
          have hat := Lib.hid (en_at_none hm)
          have hgo := Lib.hid (groupOf_none hm)
          clear hm
          go_wp2_with fail
          refine Calls.mono (HP.out.swap.lnGroup id hid) ?_
          rintro e w2 ⟨rfl, hT2⟩
          rw [hgo.out]
          have HT2 := Lib.hid hT2.swap
          clear hT2
          go_wp2_with fail
          refine Calls.mono (HT2.out.refAt id) ?_
          rintro e w3 ⟨rfl, hT3⟩
          rw [hat.out]
          have HT3 := Lib.hid hT3.swap
          clear hT3
        case' some v =>
          obtain ⟨j, hx, hat⟩ := en_at hids.out hm
          have hat := Lib.hid hat
          have hgo := Lib.hid (groupOf_some hm)
          clear hm
          go_wp2_with fail
          refine Calls.mono (HP.out.swap.lnGroup id hid) ?_
          rintro e w2 ⟨rfl, hT2⟩
          rw [hgo.out]
          have HT2 := Lib.hid hT2.swap
          clear hT2
          go_wp2_with fail
          refine Calls.mono (HT2.out.refAt id) ?_
          rintro e w3 ⟨rfl, hT3⟩
          rw [hat.out]
          have HT3 := Lib.hid hT3.swap
          obtain ⟨Ar2, cr2, hv2, _, hC2⟩ := hT3.thRow
          injection hv2 with hv2 hv3 hv4
          subst hv2 hv4
          clear hv3
          have hjl : j < (th s).length := (List.getElem?_eq_some_iff.1 hx).1
          obtain ⟨ad, y, hA, hy, d0, d1⟩ := C_nth_th hC2 j hjl
          have hy : (v.1, id) = y := Option.some.inj (hx.symm.trans hy)
          subst hA hy
          have i0 : (0 : Int) ≤ (j : Int) := by omega
          have i1 : (j : Int) < ((th s).length : Int) := by omega
          clear hT3 hC2 hx d1
        all_goals
          go_wp2_with fail
          refine Calls.mono (HT3.out.lnHead group hgs) ?_
          rintro e w4 ⟨rfl, rfl⟩
          rw [HGL.out]
          rcases hl0 with rfl | ⟨x, l', rfl⟩
          · rw [show headOf [] = (0, false) from rfl]
            go_wp2_with fail
            refine Calls.mono (HT3.out.swap.refOf group (by omega)) ?_
            rintro e w5 ⟨A5, c5, rfl, hT5⟩
            rw [show (thOf (th s) group).length = 0 by rw [th_of, HGL.out]; rfl]
            have HB5 := Lib.hid hT5.belowW
            clear hT5
            go_wp2_with (go_at_call 8; refine Calls.mono (awake_any _) ?_; rintro e w6 ⟨rfl, hB⟩)
            go_ret
            exact ⟨rfl, HB5.out.trans (hB.mono HB5.out.size)⟩
          · rw [show headOf (x :: l') = (x, true) from rfl]
            go_wp2_with fail
            refine Calls.mono (HT3.out.swap.refOf group (by omega)) ?_
            rintro e w5 ⟨A5, c5, rfl, hT5⟩
            have hC5 := (Kd.R_reads' hT5.head).2.2
            have hthof : thOf (th s) group = x :: l' := by rw [th_of, HGL.out]
            rw [hthof] at hC5 ⊢
            obtain ⟨ad5, y5, rfl, hy5, d5⟩ := C_nth_scalar hC5 0 (by simp)
            obtain rfl : x = y5 := by simpa using hy5
            have d5 : w5.cell? ad5 = some (.int .i64 x) := by simpa [Addr.add] using d5
            obtain ⟨ln, hln⟩ : ∃ ln : Nat, ln = (x :: l').length := ⟨_, rfl⟩
            have hln0 : (0 : Int) < (ln : Int) := by rw [hln]; simp
            have hlne : ((ln : Int) == 0) = false := by rw [hln]; simp; omega
            rw [← hln]
            have hxx : (x == x) = true := by simp
            have HB5 := Lib.hid hT5.belowW
            clear hT5 hC5 hy5 hln hthof
            go_wp2_with (go_at_call 8; refine Calls.mono (awake_any _) ?_; rintro e w6 ⟨rfl, hB⟩)
            go_ret
            exact ⟨rfl, HB5.out.trans (hB.mono HB5.out.size)⟩
end Go.Proofs.Ytdcifghhamondaa
