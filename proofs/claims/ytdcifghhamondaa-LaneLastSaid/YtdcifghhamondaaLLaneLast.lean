/- The statement LaneLast of layer 6: every call of it tells true and leaves what was there as it was. -/
import Derived.Test.YtdcifghhamondaaLnOps
namespace Go.Proofs.Ytdcifghhamondaa
open Go.RowKit Go.Proofs.YtdcifghhamondaaW.PrintWords

theorem hasEn_drop (s : List En) (id : Int) : hasEn (lDrop s id) id = false := by
  unfold hasEn lDrop
  rw [List.any_eq_false]
  intro p hp
  have := (List.mem_filter.1 hp).2
  simpa using this
theorem lDrop_has {s : List En} (hn : (s.map (·.1)).Nodup) {id : Int} (h : hasEn s id = true) : s.length = (lDrop s id).length + 1 := by
  have h1 := mdel_length hn id
  rw [← en_has s id, h] at h1
  exact h1.symm
theorem lAdd_new {s : List En} {id : Int} (h : hasEn s id = false) (g : ByteArray) (t : Int) : lAdd s g id t = s ++ [(id, (g, t))] := by unfold lAdd; rw [h]; rfl

set_option maxHeartbeats 3200000 in
set_option maxRecDepth 100000 in
theorem last_law (A : Option Addr) (n cap : Nat) (ops : List Op) (group : ByteArray) (id : Int) (w : World) (hC : KOp.C w A n ops) (hc : n ≤ cap) (ho : ∀ x ∈ ops, (Lit.int .i64 x.1).wf = true ∧ (Lit.int .i64 x.2.1).wf = true ∧ x.2.2.size ≤ maxLen) (hgs : group.size ≤ maxLen) (hid : (Lit.int .i64 id).wf = true) :
    Calls Try.prog 4 #[.slice A n cap, .string group, .int .i64 id] w fun e w' => e = .returned (.bool true) ∧ Below w.heap.size w w' := by
  have HN := Lib.hid (Kd.C_len hC)
  have HC := Lib.hid hC
  have HO := Lib.hid ho
  have hm1 := Kd.C_max hC
  clear hC ho
  by_cases h60 : 60 < n
  · have h60i : (60 : Int) < n := by omega
    go_enter Try.func4, Try.ntmps4
    go_wp2_with (go_at_call 8; refine Calls.mono (awake_any _) ?_; rintro e w1 ⟨rfl, hB⟩)
    go_ret
    exact ⟨rfl, hB⟩
  · have h60i : ¬ (60 : Int) < n := by omega
    by_cases hg20 : 20 < group.size
    · have hg20i : (20 : Int) < group.size := by omega
      go_enter Try.func4, Try.ntmps4
      go_wp2_with (go_at_call 8; refine Calls.mono (awake_any _) ?_; rintro e w1 ⟨rfl, hB⟩)
      go_ret
      exact ⟨rfl, hB⟩
    have hg20i : ¬ (20 : Int) < group.size := by omega
    go_enter Try.func4, Try.ntmps4
    go_wp2_with fail
    refine Calls.mono (Hp.lnNew (Hp.nil w)) ?_
    rintro e w1 ⟨rfl, hP1⟩
    generalize w.heap.size + 2 = lb at *
    have HP1 := Lib.hid hP1
    clear hP1
    go_wp2_with fail
    go_loopw [27] (fun i wr => ∃ (k : Nat) (s : List En), i = .int .i64 k ∧ k ≤ n ∧ Hp w wr [ALn lb s k] ∧ s.length ≤ k) (fun i _ => n - (intOf i).toNat)
    case atStart => exact ⟨0, [], rfl, Nat.zero_le _, HP1.out, Nat.le_refl _⟩
    case round =>
      obtain ⟨k, s, rfl, hk, hP, hsl⟩ := hrel
      have HP := Lib.hid hP
      clear hP
      by_cases hlt : k < n
      · obtain ⟨ad, kind, oid, og, rfl, hx, hf0, hf1, hf2⟩ := C_nth_op (Kd.C_below HC.out HP.out.belowW) k hlt
        obtain ⟨_, hwo, hgo⟩ := HO.out _ (List.mem_of_getElem? hx)
        have i0 : (0 : Int) ≤ (k : Int) := by omega
        have i1 : (k : Int) < (n : Int) := by omega
        clear hx
        have hbl : wr.heap.size < (wr.alloc (.cells #[.int .i64 kind, .int .i64 oid, .string og] 28)).heap.size := by simp
        by_cases hog : 20 < og.size
        · have hog' : (20 : Int) < og.size := by omega
          have HBW := Lib.hid (HP.out.alloc (.cells #[.int .i64 kind, .int .i64 oid, .string og] 28)).belowW
          go_wp2_with (go_at_call 8; refine Calls.mono (awake_any _) ?_; rintro e w1 ⟨rfl, hB⟩)
          go_ret
          exact ⟨rfl, HBW.out.trans (hB.mono HBW.out.size)⟩
        have hog' : ¬ (20 : Int) < og.size := by omega
        go_wp2_with fail
        refine Calls.mono (((HP.out.alloc _).swap).lnAdd og oid hwo hgo (by omega)) ?_
        rintro e w2 ⟨rfl, t, hT2⟩
        have HT2 := Lib.hid hT2.drop1
        have hdl := lAdd_len s og oid t
        clear hT2
        go_wp2_with fail
        refine ⟨⟨k + 1, lAdd s og oid t, by simp, by omega, HT2.out, by omega⟩, ?_⟩
        simp [intOf]
        omega
      · have hkn : k = n := by omega
        subst hkn
        obtain ⟨m, hm⟩ : ∃ m, m = (lDrop s id).length := ⟨_, rfl⟩
        have hml : m ≤ s.length := by rw [hm]; exact lDrop_len s id
        have HM := Lib.hid hm
        have hh := hasEn_drop s id
        have HH := Lib.hid hh
        have HIDS := Lib.hid HP.out.lnIds
        clear hm hh
        go_wp2_with fail
        refine Calls.mono HP.out.lnLenC ?_
        rintro e w2 ⟨rfl, rfl⟩
        cases hhas : hasEn s id
        case' false =>
          have hsm : s.length = m := by rw [HM.out, lDrop_none hhas]
          rw [hsm]
          have HS := Lib.hid hhas
          clear hhas hsm
          go_wp2_with fail
          refine Calls.mono (HP.out.lnDrop id hid (by omega)) ?_
          rintro e w3 ⟨rfl, hT3⟩
          rw [HS.out]
          have HT3 := Lib.hid hT3
          clear hT3
        case' true =>
          have hsm : s.length = m + 1 := by rw [HM.out]; exact lDrop_has HIDS.out hhas
          rw [hsm]
          have HS := Lib.hid hhas
          clear hhas hsm
          go_wp2_with fail
          refine Calls.mono (HP.out.lnDrop id hid (by omega)) ?_
          rintro e w3 ⟨rfl, hT3⟩
          rw [HS.out]
          have HT3 := Lib.hid hT3
          clear hT3
        all_goals
          go_wp2_with fail
          refine Calls.mono (HT3.out.lnAdd group id hid hgs (by omega)) ?_
          rintro e w4 ⟨rfl, t, hT4⟩
          rw [lAdd_new HH.out] at hT4
          rw [HH.out]
          have hlen2 : (lDrop s id ++ [(id, (group, t))]).length = m + 1 := by rw [List.length_append, ← HM.out]; rfl
          have hlast : ((lDrop s id ++ [(id, (group, t))]).map (·.1))[m]? = some id := by
            rw [HM.out, List.map_append, List.getElem?_append_right (by simp)]
            simp
          have hgl : grp (lDrop s id ++ [(id, (group, t))]) group = grp (lDrop s id) group ++ [id] := by rw [grp_snoc, if_pos rfl]
          generalize lDrop s id ++ [(id, (group, t))] = s2 at *
          generalize grp (lDrop s id) group = l at *
          have HL2 := Lib.hid hlen2
          have HLA := Lib.hid hlast
          have HGL := Lib.hid hgl
          have HT4 := Lib.hid hT4
          clear hT4 hlen2 hlast hgl
          go_wp2_with fail
          refine Calls.mono HT4.out.lnLenC ?_
          rintro e w5 ⟨rfl, rfl⟩
          rw [HL2.out]
          go_wp2_with fail
          refine Calls.mono (HT4.out.lnAll (by omega)) ?_
          rintro e w6 ⟨A6, c6, rfl, hT6⟩
          rw [HL2.out] at hT6 ⊢
          have HT6 := Lib.hid hT6
          clear hT6
          go_wp2_with fail
          refine Calls.mono (HT6.out.swap.lnOf group hgs (by omega)) ?_
          rintro e w7 ⟨A7, c7, rfl, hT7⟩
          rw [HGL.out] at hT7 ⊢
          have hC7 := (Kd.R_reads' hT7.head).2.2
          have hC6 := (Kd.R_reads' (hT7.tail.tail.head)).2.2
          obtain ⟨ad6, y6, rfl, hy6, d6⟩ := C_nth_scalar hC6 m (by rw [List.length_map, HL2.out]; omega)
          have hy6 : id = y6 := Option.some.inj (HLA.out.symm.trans hy6)
          subst hy6
          obtain ⟨ln, hln⟩ : ∃ ln : Nat, ln = l.length := ⟨_, rfl⟩
          have hl7 : (l ++ [id]).length = ln + 1 := by rw [hln]; simp
          rw [hl7] at hC7 ⊢
          obtain ⟨ad7, y7, rfl, hy7, d7⟩ := C_nth_scalar hC7 ln (by omega)
          have hy7 : id = y7 := by
            rw [hln, List.getElem?_append_right (Nat.le_refl _)] at hy7
            simpa using hy7
          subst hy7
          have hln2 := Kd.C_max hC7
          have HB7 := Lib.hid hT7.belowW
          have i0 : (0 : Int) ≤ (m : Int) := by omega
          have i1 : (m : Int) < ((m + 1 : Nat) : Int) := by omega
          have i2 : (0 : Int) ≤ (ln : Int) := by omega
          have i3 : (ln : Int) < ((ln + 1 : Nat) : Int) := by omega
          have i4 : (0 : Int) < ((ln + 1 : Nat) : Int) := by omega
          have hxx : (id == id) = true := by simp
          clear hT7 hC7 hC6 hln hl7 hy7
          go_wp2_with (go_at_call 8; refine Calls.mono (awake_any _) ?_; rintro e w8 ⟨rfl, hB⟩)
          go_ret
          exact ⟨rfl, HB7.out.trans (hB.mono HB7.out.size)⟩
end Go.Proofs.Ytdcifghhamondaa
