/- The statement LaneCopies of layer 6: every call of it tells true and leaves what was there as it was. -/
import Derived.Test.YtdcifghhamondaaLnOps
namespace Go.Proofs.Ytdcifghhamondaa
open Go.RowKit Go.Proofs.YtdcifghhamondaaW.PrintWords

set_option maxHeartbeats 3200000 in
set_option maxRecDepth 100000 in
theorem copies_law (A : Option Addr) (n cap : Nat) (ops : List Op) (A2 : Option Addr) (n2 cap2 : Nat) (more : List Op) (w : World) (hC : KOp.C w A n ops) (hc : n ≤ cap) (ho : ∀ x ∈ ops, (Lit.int .i64 x.1).wf = true ∧ (Lit.int .i64 x.2.1).wf = true ∧ x.2.2.size ≤ maxLen)
    (hC2 : KOp.C w A2 n2 more) (hc2 : n2 ≤ cap2) (ho2 : ∀ x ∈ more, (Lit.int .i64 x.1).wf = true ∧ (Lit.int .i64 x.2.1).wf = true ∧ x.2.2.size ≤ maxLen) :
    Calls Try.prog 7 #[.slice A n cap, .slice A2 n2 cap2] w fun e w' => e = .returned (.bool true) ∧ Below w.heap.size w w' := by
  have HC := Lib.hid hC
  have HO := Lib.hid ho
  have hm1 := Kd.C_max hC
  have HC2 := Lib.hid hC2
  have HO2 := Lib.hid ho2
  have hm2 := Kd.C_max hC2
  clear hC ho hC2 ho2
  by_cases h60 : 60 < n
  · have h60i : (60 : Int) < n := by omega
    go_enter Try.func7, Try.ntmps7
    go_wp2_with (go_at_call 8; refine Calls.mono (awake_any _) ?_; rintro e w1 ⟨rfl, hB⟩)
    go_ret
    exact ⟨rfl, hB⟩
  · have h60i : ¬ (60 : Int) < n := by omega
    by_cases hm60 : 60 < n2
    · have hm60i : (60 : Int) < n2 := by omega
      go_enter Try.func7, Try.ntmps7
      go_wp2_with (go_at_call 8; refine Calls.mono (awake_any _) ?_; rintro e w1 ⟨rfl, hB⟩)
      go_ret
      exact ⟨rfl, hB⟩
    have hm60i : ¬ (60 : Int) < n2 := by omega
    go_enter Try.func7, Try.ntmps7
    go_wp2_with fail
    refine Calls.mono (Hp.lnNew (Hp.nil w)) ?_
    rintro e w1 ⟨rfl, hP1⟩
    generalize w.heap.size + 2 = lb at *
    have HP1 := Lib.hid hP1
    clear hP1
    go_wp2_with fail
    go_loopw [29] (fun i wr => ∃ (k : Nat) (s : List En), i = .int .i64 k ∧ k ≤ n ∧ Hp w wr [ALn lb s k] ∧ s.length ≤ k) (fun i _ => n - (intOf i).toNat)
    case atStart => exact ⟨0, [], rfl, Nat.zero_le _, HP1.out, Nat.le_refl _⟩
    case round =>
      obtain ⟨k, s, rfl, hk, hP, hsl⟩ := hrel
      have HP := Lib.hid hP
      clear hP
      by_cases hlt : k < n
      · obtain ⟨ad, kind, oid, og, rfl, hx, hf0, hf1, hf2⟩ := C_nth_op (Kd.C_below HC.out HP.out.belowW) k hlt
        obtain ⟨_, hwo, hgo⟩ := HO.out _ (List.mem_of_getElem? hx)
        have i0 : (0 : Int) ≤ (k : Int) := by omega
        have i1 : (k : Int) < (n : Int) := by omega
        clear hx
        have hbl : wr.heap.size < (wr.alloc (.cells #[.int .i64 kind, .int .i64 oid, .string og] 28)).heap.size := by simp
        go_wp2_with fail
        refine Calls.mono (((HP.out.alloc _).swap).lnAdd og oid hwo hgo (by omega)) ?_
        rintro e w2 ⟨rfl, t, hT2⟩
        have HT2 := Lib.hid hT2.drop1
        have hdl := lAdd_len s og oid t
        clear hT2
        go_wp2_with fail
        refine ⟨⟨k + 1, lAdd s og oid t, by simp, by omega, HT2.out, by omega⟩, ?_⟩
        simp [intOf]
        omega
      · have hkn : k = n := by omega
        subst hkn
        go_wp2_with fail
        refine Calls.mono (HP.out.lnAll (by omega)) ?_
        rintro e w2 ⟨Aw, cw, rfl, hT2⟩
        have HT2 := Lib.hid hT2
        clear hT2
        go_wp2_with fail
        refine Calls.mono (HT2.out.swap.lnCopy (by omega)) ?_
        rintro e w3 ⟨cb, rfl, hT3⟩
        have HT3 := Lib.hid hT3
        clear hT3
        go_wp2_with fail
        go_loopw [48] (fun i wq => ∃ (j : Nat) (s2 : List En), i = .int .i64 j ∧ j ≤ n2 ∧ Hp w wq [ALn cb s2 (k + j), ALn lb s k, ARow (Kd.int .i64) 3 (.slice Aw s.length cw) (s.map (·.1))]) (fun i _ => n2 - (intOf i).toNat)
        case atStart => exact ⟨0, s, rfl, Nat.zero_le _, HT3.out⟩
        case round =>
          obtain ⟨j, s2, rfl, hj, hQ⟩ := hrel
          have HQ := Lib.hid hQ
          clear hQ
          by_cases hlt2 : j < n2
          · obtain ⟨ad, kind, oid, og, rfl, hx, hf0, hf1, hf2⟩ := C_nth_op (Kd.C_below HC2.out HQ.out.belowW) j hlt2
            obtain ⟨_, hwo, hgo⟩ := HO2.out _ (List.mem_of_getElem? hx)
            have i0 : (0 : Int) ≤ (j : Int) := by omega
            have i1 : (j : Int) < (n2 : Int) := by omega
            clear hx
            have hbl : wr.heap.size < (wr.alloc (.cells #[.int .i64 kind, .int .i64 oid, .string og] 28)).heap.size := by simp
            by_cases hog : 20 < og.size
            · have hog' : (20 : Int) < og.size := by omega
              have HBW := Lib.hid (HQ.out.alloc (.cells #[.int .i64 kind, .int .i64 oid, .string og] 28)).belowW
              go_wp2_with (go_at_call 8; refine Calls.mono (awake_any _) ?_; rintro e w1 ⟨rfl, hB⟩)
              go_ret
              exact ⟨rfl, HBW.out.trans (hB.mono HBW.out.size)⟩
            have hog' : ¬ (20 : Int) < og.size := by omega
            by_cases hk1 : kind = 1
            · have hkb : (kind == 1) = true := by simp [hk1]
              clear hk1
              go_wp2_with fail
              refine Calls.mono (((HQ.out.alloc _).swap).lnDrop oid hwo (by omega)) ?_
              rintro e w5 ⟨rfl, hT5⟩
              have HT5 := Lib.hid (hT5.drop1.lnT (Nat.le_succ (k + j)))
              clear hT5
              go_wp2_with fail
              refine ⟨⟨j + 1, lDrop s2 oid, by simp, by omega, HT5.out⟩, ?_⟩
              simp [intOf]
              omega
            · have hkb : (kind == 1) = false := by simp [hk1]
              clear hk1
              go_wp2_with fail
              refine Calls.mono (((HQ.out.alloc _).swap).lnAdd og oid hwo hgo (by omega)) ?_
              rintro e w5 ⟨rfl, t, hT5⟩
              have HT5 := Lib.hid hT5.drop1
              clear hT5
              go_wp2_with fail
              refine ⟨⟨j + 1, lAdd s2 og oid t, by simp, by omega, HT5.out⟩, ?_⟩
              simp [intOf]
              omega
          · have hjn : j = n2 := by omega
            subst hjn
            have HQ2 := Lib.hid HQ.out.tail
            obtain ⟨m, hm⟩ : ∃ m, m = s.length := ⟨_, rfl⟩
            rw [← hm] at hsl ⊢
            have HM := Lib.hid hm
            have HIDS := Lib.hid HQ2.out.lnIds
            have HWF := Lib.hid HQ2.out.lnWf
            clear hm
            go_wp2_with fail
            go_loopw [73] (fun i wp => ∃ q : Nat, i = .int .i64 q ∧ q ≤ m ∧ Hp w wp [ALn lb s k, ARow (Kd.int .i64) 3 (.slice Aw s.length cw) (s.map (·.1))]) (fun i _ => m - (intOf i).toNat)
            case atStart => exact ⟨0, rfl, Nat.zero_le _, HQ2.out⟩
            case round =>
              obtain ⟨q, rfl, hq, hR⟩ := hrel
              have HR := Lib.hid hR
              clear hR
              by_cases hlt3 : q < m
              · have hCw := (Kd.R_reads' HR.out.tail.head).2.2
                obtain ⟨adw, x, rfl, hx, d0⟩ := C_nth_scalar hCw q (by rw [List.length_map, ← HM.out]; exact hlt3)
                rw [List.getElem?_map] at hx
                obtain ⟨p, hp, hpx⟩ := Option.map_eq_some_iff.1 hx
                subst hpx
                have hps := List.mem_of_getElem? hp
                have hpw := HWF.out p hps
                have hgo := Lib.hid (show groupOf s p.1 = (p.2.1, true) by rw [groupOf_some (mget_mem HIDS.out hps)])
                have hpg : 0 < (grp s p.2.1).length := List.length_pos_of_mem (grp_mem.2 ⟨p.2.2, hps⟩)
                have hgok : p.2.1.size ≤ maxLen := by
                  obtain ⟨ma, mg, turn, gs, h1, _⟩ := HR.out.head
                  obtain ⟨v, _, hh⟩ := h1.gok (id := p.1) (g := p.2.1) (t := p.2.2) hps
                  exact hh
                have i0 : (0 : Int) ≤ (q : Int) := by omega
                have i1 : (q : Int) < (m : Int) := by omega
                clear hCw hx hp hps
                go_wp2_with fail
                refine Calls.mono (HR.out.lnGroup p.1 hpw) ?_
                rintro e w6 ⟨rfl, hT6⟩
                rw [hgo.out]
                have HT6 := Lib.hid hT6
                clear hT6
                go_wp2_with fail
                refine Calls.mono (HT6.out.lnOf p.2.1 hgok (by omega)) ?_
                rintro e w7 ⟨A7, c7, rfl, hT7⟩
                obtain ⟨ln, hln⟩ : ∃ ln, ln = (grp s p.2.1).length := ⟨_, rfl⟩
                rw [← hln] at hpg ⊢
                have hln0 : ((ln : Int) == 0) = false := by simp; omega
                have HT7 := Lib.hid hT7.tail
                clear hT7 hln
                go_wp2_with fail
                refine ⟨⟨q + 1, by simp, by omega, HT7.out⟩, ?_⟩
                simp [intOf]
                omega
              · have hqm : q = m := by omega
                subst hqm
                have hmm : ((q : Int) == (q : Int)) = true := by simp
                go_wp2_with fail
                refine Calls.mono (HR.out.lnAll (by omega)) ?_
                rintro e w6 ⟨A6, c6, rfl, hT6⟩
                rw [← HM.out] at hT6 ⊢
                have HT6 := Lib.hid hT6
                clear hT6
                go_wp2_with fail
                refine Calls.mono (HT6.out.sameI (List.mem_cons_self ..) (List.mem_cons_of_mem _ (List.mem_cons_of_mem _ (List.mem_cons_self ..)))) ?_
                rintro e w7 ⟨rfl, hT7⟩
                have HT7 := Lib.hid hT7
                clear hT7
                go_wp2_with fail
                refine Calls.mono HT7.out.tail.lnLenC ?_
                rintro e w8 ⟨rfl, rfl⟩
                rw [← HM.out]
                go_wp2_with (go_at_call 8; refine Calls.mono (awake_any _) ?_; rintro e w9 ⟨rfl, hB⟩)
                go_ret
                exact ⟨rfl, HT7.out.belowW.trans (hB.mono HT7.out.belowW.size)⟩
end Go.Proofs.Ytdcifghhamondaa
