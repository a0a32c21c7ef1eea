/- The statement LedgerLast of layer 7: every call of it tells true and leaves what was there as it was. -/
import Derived.Test.YtehkhopkedbngaaLdOps
namespace Go.Proofs.Ytehkhopkedbngaa
open Go.RowKit Go.Proofs.YtehkhopkedbngaaW.PrintWords

set_option maxHeartbeats 3200000 in
set_option maxRecDepth 100000 in
theorem last_law (A : Option Addr) (n cap : Nat) (ops : List Op) (key : ByteArray) (v until_ : Int) (w : World) (hC : KOp.C w A n ops) (hc : n ≤ cap) (ho : ∀ x ∈ ops, (Lit.int .i64 x.1).wf = true ∧ (Lit.int .i64 x.2.1).wf = true ∧ (Lit.int .i64 x.2.2.1).wf = true ∧ x.2.2.2.size ≤ maxLen) (hks : key.size ≤ maxLen) (_ : (Lit.int .i64 v).wf = true) (_ : (Lit.int .i64 until_).wf = true) :
    Calls Try.prog 5 #[.slice A n cap, .string key, .int .i64 v, .int .i64 until_] w fun e w' => e = .returned (.bool true) ∧ Below w.heap.size w w' := by
  have HN := Lib.hid (Kd.C_len hC)
  have HC := Lib.hid hC
  have HO := Lib.hid ho
  have hm1 := Kd.C_max hC
  clear hC ho
  by_cases h60 : 60 < n
  · have h60i : (60 : Int) < n := by omega
    go_enter Try.func5, Try.ntmps5
    go_wp2_with (go_at_call 8; refine Calls.mono (awake_any _) ?_; rintro e w1 ⟨rfl, hB⟩)
    go_ret
    exact ⟨rfl, hB⟩
  · have h60i : ¬ (60 : Int) < n := by omega
    by_cases hg20 : 20 < key.size
    · have hg20i : (20 : Int) < key.size := by omega
      go_enter Try.func5, Try.ntmps5
      go_wp2_with (go_at_call 8; refine Calls.mono (awake_any _) ?_; rintro e w1 ⟨rfl, hB⟩)
      go_ret
      exact ⟨rfl, hB⟩
    have hg20i : ¬ (20 : Int) < key.size := by omega
    go_enter Try.func5, Try.ntmps5
    go_wp2_with fail
    refine Calls.mono (Hp.ldINew (Hp.nil w) 100) ?_
    rintro e w1 ⟨lb, rfl, hP1⟩
    rw [show max (100 : Int) 0 = 100 by decide] at hP1
    have HP1 := Lib.hid hP1
    clear hP1
    go_wp2_with fail
    go_loopw [30] (fun i wr => ∃ (k : Nat) (r : List (Ent Int)), i = .int .i64 k ∧ k ≤ n ∧ Hp w wr [ALdI lb 100 r] ∧ r.length ≤ k) (fun i _ => n - (intOf i).toNat)
    case atStart => exact ⟨0, [], rfl, Nat.zero_le _, HP1.out, Nat.le_refl _⟩
    case round =>
      obtain ⟨k, r, rfl, hk, hP, hrl⟩ := hrel
      have HP := Lib.hid hP
      clear hP
      by_cases hlt : k < n
      · obtain ⟨ad, kind, ov, ou, og, rfl, hx, hf0, hf1, hf2, hf3⟩ := C_nth_op (Kd.C_below HC.out HP.out.belowW) k hlt
        obtain ⟨_, _, _, hgo⟩ := HO.out _ (List.mem_of_getElem? hx)
        have i0 : (0 : Int) ≤ (k : Int) := by omega
        have i1 : (k : Int) < (n : Int) := by omega
        clear hx
        have hbl : wr.heap.size < (wr.alloc (.cells #[.int .i64 kind, .int .i64 ov, .int .i64 ou, .string og] 27)).heap.size := by simp
        by_cases hog : 20 < og.size
        · have hog' : (20 : Int) < og.size := by omega
          have HBW := Lib.hid (HP.out.alloc (.cells #[.int .i64 kind, .int .i64 ov, .int .i64 ou, .string og] 27)).belowW
          go_wp2_with (go_at_call 8; refine Calls.mono (awake_any _) ?_; rintro e w1 ⟨rfl, hB⟩)
          go_ret
          exact ⟨rfl, HBW.out.trans (hB.mono HBW.out.size)⟩
        have hog' : ¬ (20 : Int) < og.size := by omega
        go_wp2_with fail
        refine Calls.mono (((HP.out.alloc _).swap).ldIPut og ov ou hgo (by omega)) ?_
        rintro e w2 ⟨rfl, hT2⟩
        have hdl := ldPut_len HP.out.ldIRow og (ov, ou)
        rw [if_pos (mayPut_room (room := 100) (key := og) hrl hk (by omega))] at hT2 ⊢
        have HT2 := Lib.hid hT2.drop1
        have hlen : (ldPut r og (ov, ou)).length ≤ k + 1 := by rw [hdl]; split <;> omega
        clear hT2 hdl
        go_wp2_with fail
        refine ⟨⟨k + 1, ldPut r og (ov, ou), by simp, by omega, HT2.out, hlen⟩, ?_⟩
        simp [intOf]
        omega
      · have hkn : k = n := by omega
        subst hkn
        go_wp2_with fail
        refine Calls.mono (HP.out.ldIPut key v until_ hks (by omega)) ?_
        rintro e w2 ⟨rfl, hT2⟩
        rw [if_pos (mayPut_room (room := 100) (key := key) hrl hk (by omega))] at hT2 ⊢
        have HR := Lib.hid HP.out.ldIRow
        have HT2 := Lib.hid hT2
        clear hT2
        go_wp2_with fail
        refine Calls.mono (HT2.out.ldIGetC key hks) ?_
        rintro e w3 ⟨rfl, hT3⟩
        rw [ldIGet_put HR.out key (v, until_)]
        have HT3 := Lib.hid hT3
        clear hT3
        go_wp2_with fail
        refine Calls.mono (HT3.out.ldIUntilC key hks) ?_
        rintro e w4 ⟨rfl, hT4⟩
        rw [ldIGet_put HR.out key (v, until_)]
        have HT4 := Lib.hid hT4
        clear hT4
        go_wp2_with fail
        refine Calls.mono (HT4.out.ldIDrop key hks) ?_
        rintro e w5 ⟨rfl, hT5⟩
        rw [show hasKey (ldPut r key (v, until_)) key = true by rw [hasKey_put HR.out]; simp]
        have HT5 := Lib.hid hT5
        clear hT5
        go_wp2_with fail
        refine Calls.mono (HT5.out.ldIDrop key hks) ?_
        rintro e w6 ⟨rfl, hT6⟩
        rw [show hasKey (mdel (ldPut r key (v, until_)) key) key = false by rw [hasKey_del]; simp]
        have HBW := Lib.hid hT6.belowW
        clear hT6
        go_wp2_with (go_at_call 8; refine Calls.mono (awake_any _) ?_; rintro e w7 ⟨rfl, hB⟩)
        go_ret
        exact ⟨rfl, HBW.out.trans (hB.mono HBW.out.size)⟩
end Go.Proofs.Ytehkhopkedbngaa
