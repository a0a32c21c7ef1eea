/- The statement LedgerRoom of layer 7: every call of it tells true and leaves what was there as it was. -/
import Derived.Test.YtehkhopkedbngaaLdOps
namespace Go.Proofs.Ytehkhopkedbngaa
open Go.RowKit Go.Proofs.YtehkhopkedbngaaW.PrintWords

set_option maxHeartbeats 3200000 in
set_option maxRecDepth 100000 in
theorem room_law (room : Int) (A : Option Addr) (n cap : Nat) (ops : List Op) (w : World) (_ : (Lit.int .i64 room).wf = true) (hC : KOp.C w A n ops) (hc : n ≤ cap) (ho : ∀ x ∈ ops, (Lit.int .i64 x.1).wf = true ∧ (Lit.int .i64 x.2.1).wf = true ∧ (Lit.int .i64 x.2.2.1).wf = true ∧ x.2.2.2.size ≤ maxLen) :
    Calls Try.prog 3 #[.int .i64 room, .slice A n cap] w fun e w' => e = .returned (.bool true) ∧ Below w.heap.size w w' := by
  have HN := Lib.hid (Kd.C_len hC)
  have HC := Lib.hid hC
  have HO := Lib.hid ho
  have hm1 := Kd.C_max hC
  clear hC ho
  by_cases h60 : 60 < n
  · have h60i : (60 : Int) < n := by omega
    go_enter Try.func3, Try.ntmps3
    go_wp2_with (go_at_call 8; refine Calls.mono (awake_any _) ?_; rintro e w1 ⟨rfl, hB⟩)
    go_ret
    exact ⟨rfl, hB⟩
  · have h60i : ¬ (60 : Int) < n := by omega
    obtain ⟨rm, hrm⟩ : ∃ rm, rm = max room 0 := ⟨_, rfl⟩
    have hmx : ∀ ts t W, (Builtin.max_ ts t #[.int .i64 room, .int .i64 0]).run Try.prog W = .ok (.int .i64 rm) W := by
      intro ts t W
      simp [Builtin.max_, Builtin.max2]
      rw [hrm]
      split <;> omega
    go_enter Try.func3, Try.ntmps3
    go_wp2_with fail
    refine Calls.mono (Hp.ldINew (Hp.nil w) room) ?_
    rintro e w1 ⟨lb, rfl, hP1⟩
    rw [← hrm] at hP1
    have HP1 := Lib.hid hP1
    have hrmm : room ≤ rm ∧ 0 ≤ rm ∧ (rm ≤ room ∨ rm ≤ 0) := by omega
    have HRM := Lib.hid hrmm
    clear hP1 hrm hrmm
    go_wp2_with fail
    go_loopw [22] (fun i wr => ∃ (k : Nat) (r : List (Ent Int)), i = .int .i64 k ∧ k ≤ n ∧ Hp w wr [ALdI lb rm r] ∧ r.length ≤ k ∧ (r.length : Int) ≤ rm) (fun i _ => n - (intOf i).toNat)
    case atStart => exact ⟨0, [], rfl, Nat.zero_le _, HP1.out, Nat.le_refl _, HRM.out.2.1⟩
    case round =>
      obtain ⟨k, r, rfl, hk, hP, hrl, hrr⟩ := hrel
      have HP := Lib.hid hP
      clear hP
      by_cases hlt : k < n
      · obtain ⟨ad, kind, ov, ou, og, rfl, hx, hf0, hf1, hf2, hf3⟩ := C_nth_op (Kd.C_below HC.out HP.out.belowW) k hlt
        obtain ⟨_, _, _, hgo⟩ := HO.out _ (List.mem_of_getElem? hx)
        have i0 : (0 : Int) ≤ (k : Int) := by omega
        have i1 : (k : Int) < (n : Int) := by omega
        clear hx
        have hbl : wr.heap.size < (wr.alloc (.cells #[.int .i64 kind, .int .i64 ov, .int .i64 ou, .string og] 27)).heap.size := by simp
        by_cases hog : 20 < og.size
        · have hog' : (20 : Int) < og.size := by omega
          have HBW := Lib.hid (HP.out.alloc (.cells #[.int .i64 kind, .int .i64 ov, .int .i64 ou, .string og] 27)).belowW
          go_wp2_with (go_at_call 8; refine Calls.mono (awake_any _) ?_; rintro e w1 ⟨rfl, hB⟩)
          go_ret
          exact ⟨rfl, HBW.out.trans (hB.mono HBW.out.size)⟩
        have hog' : ¬ (20 : Int) < og.size := by omega
        go_wp2_with fail
        refine Calls.mono (((HP.out.alloc _).swap).ldIGetC og hgo) ?_
        rintro e w2 ⟨rfl, hT2⟩
        have b1 := blk_cell hT2.blk1 1
        have b2 := blk_cell hT2.blk1 2
        have b3 := blk_cell hT2.blk1 3
        simp only [List.getElem?_toArray, List.getElem?_cons_succ, List.getElem?_cons_zero] at b1 b2 b3
        rw [ldI_has]
        have HT2 := Lib.hid hT2
        have HRI := Lib.hid HP.out.ldIRow
        generalize (ldIGet r og).1.1 = gv at *
        clear hT2
        obtain ⟨m, hm⟩ : ∃ m, m = r.length := ⟨_, rfl⟩
        have hmp : mayPut rm r og = (hasKey r og || decide ((m : Int) < room)) := by
          unfold mayPut
          have := HRM.out
          rw [hm]
          congr 1
          rw [decide_eq_decide]
          omega
        have hpl := ldPut_len HRI.out og (ov, ou)
        rw [← hm] at hpl
        have hrm1 : (m : Int) ≤ rm := by rw [hm]; exact hrr
        have hmk : m ≤ k := by rw [hm]; exact hrl
        have HM := Lib.hid hm
        have HRR := Lib.hid hrr
        have HRL := Lib.hid hrl
        clear hm hrr hrl
        cases hh : hasKey r og
        case' true =>
          rw [hh] at hmp hpl
          have hpl : (ldPut r og (ov, ou)).length = m := hpl
          have hmp : mayPut rm r og = true := hmp
          have HPL := Lib.hid hpl
          clear hh hpl
          go_wp2_with fail
          refine Calls.mono HT2.out.ldILen ?_
          rintro e w3 ⟨rfl, rfl⟩
          rw [← HM.out]
          go_wp2_with fail
          refine Calls.mono (HT2.out.ldIPut og ov ou hgo (by have := HRL.out; omega)) ?_
          rintro e w3 ⟨rfl, hT3⟩
          rw [if_pos hmp] at hT3 ⊢
          have HT3 := Lib.hid hT3
          have hr1 : ¬ rm < (m : Int) := by omega
          clear hT3 hmp
          go_wp2_with fail
          refine Calls.mono HT3.out.ldILen ?_
          rintro e w4 ⟨rfl, rfl⟩
          rw [HPL.out]
          go_wp2_with fail
          have HPL := HPL.out
          refine ⟨⟨k + 1, ldPut r og (ov, ou), by simp, by omega, HT3.out.drop1, by omega, by omega⟩, ?_⟩
          simp [intOf]
          omega
        case' false =>
          rw [hh] at hmp hpl
          have hpl : (ldPut r og (ov, ou)).length = m + 1 := hpl
          have hmp : mayPut rm r og = decide ((m : Int) < room) := hmp
          have HPL := Lib.hid hpl
          clear hh hpl
          go_wp2_with fail
          refine Calls.mono HT2.out.ldILen ?_
          rintro e w3 ⟨rfl, rfl⟩
          rw [← HM.out]
          go_wp2_with fail
          refine Calls.mono (HT2.out.ldIPut og ov ou hgo (by have := HRL.out; omega)) ?_
          rintro e w3 ⟨rfl, hT3⟩
          by_cases hmr : (m : Int) < room
          · rw [decide_eq_true hmr] at hmp
            rw [if_pos hmp] at hT3 ⊢
            have HT3 := Lib.hid hT3
            have hr1 : ¬ rm < ((m + 1 : Nat) : Int) := by have := HRM.out; omega
            clear hT3 hmp
            go_wp2_with fail
            refine Calls.mono HT3.out.ldILen ?_
            rintro e w4 ⟨rfl, rfl⟩
            rw [HPL.out]
            go_wp2_with fail
            have HPL := HPL.out
            refine ⟨⟨k + 1, ldPut r og (ov, ou), by simp, by omega, HT3.out.drop1, by omega, by omega⟩, ?_⟩
            simp [intOf]
            omega
          · rw [decide_eq_false hmr] at hmp
            rw [if_neg (by rw [hmp]; decide)] at hT3 ⊢
            have HT3 := Lib.hid hT3
            have hr1 : ¬ rm < (m : Int) := by omega
            clear hT3 hmp
            go_wp2_with fail
            refine Calls.mono HT3.out.ldILen ?_
            rintro e w4 ⟨rfl, rfl⟩
            rw [← HM.out]
            go_wp2_with fail
            refine Calls.mono HT3.out.ldILen ?_
            rintro e w4 ⟨rfl, rfl⟩
            rw [← HM.out]
            go_wp2_with fail
            have HM := HM.out
            refine ⟨⟨k + 1, r, by simp, by omega, HT3.out.drop1, by omega, by omega⟩, ?_⟩
            simp [intOf]
            omega
      · have hkn : k = n := by omega
        subst hkn
        have HBW := Lib.hid HP.out.belowW
        go_wp2_with (go_at_call 8; refine Calls.mono (awake_any _) ?_; rintro e w7 ⟨rfl, hB⟩)
        go_ret
        exact ⟨rfl, HBW.out.trans (hB.mono HBW.out.size)⟩
end Go.Proofs.Ytehkhopkedbngaa
