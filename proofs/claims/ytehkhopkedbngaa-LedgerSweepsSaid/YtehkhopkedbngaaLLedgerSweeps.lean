/- The statement LedgerSweeps of layer 7: every call of it tells true and leaves what was there as it was. -/
import Derived.Test.YtehkhopkedbngaaLdOps
namespace Go.Proofs.Ytehkhopkedbngaa
open Go.RowKit Go.Proofs.YtehkhopkedbngaaW.PrintWords

theorem left_past (r : List (Ent Int)) (now : Int) : past (left r now) now = [] := by
  have h := past_perm (left r now) now
  rw [show (left r now).filter (fun p => decide (p.2.2 ≤ now)) = [] by
    rw [List.filter_eq_nil_iff]
    intro p hp
    have := (List.mem_filter.1 hp).2
    simp at this ⊢
    exact this] at h
  exact List.Perm.eq_nil h
theorem get_of {r : List (Ent Int)} (h : Rising r) {p : Ent Int} (hp : p ∈ r) : ldIGet r p.1 = (p.2, true) := by
  unfold ldIGet
  rw [mget_mem h.keys hp]
theorem get_left {r : List (Ent Int)} (h : Rising r) {now : Int} {p : Ent Int} (hp : p ∈ past r now) : ldIGet (left r now) p.1 = ((0, 0), false) := by
  obtain ⟨hp1, hp2⟩ := past_mem.1 hp
  unfold ldIGet
  rw [mget_none.2 (fun q hq e => by
    obtain ⟨hq1, hq2⟩ := List.mem_filter.1 hq
    have h3 := mget_mem h.keys hq1
    have h4 := mget_mem h.keys hp1
    rw [e, h4] at h3
    have e2 := Option.some.inj h3
    rw [← e2] at hq2
    simp at hq2
    omega)]
theorem past_steps {r : List (Ent Int)} {now : Int} {j : Nat} {p q : Ent Int} (hp : (past r now)[j]? = some p) (hq : (past r now)[j + 1]? = some q) : p.2.2 ≤ q.2.2 := by
  obtain ⟨h1, e1⟩ := List.getElem?_eq_some_iff.1 hp
  obtain ⟨h2, e2⟩ := List.getElem?_eq_some_iff.1 hq
  have h := List.pairwise_iff_getElem.1 (past_sorted r now) j (j + 1) h1 h2 (by omega)
  rw [e1, e2] at h
  unfold leE at h
  rw [decide_eq_true_iff] at h
  omega

set_option maxHeartbeats 3200000 in
set_option maxRecDepth 100000 in
theorem sweeps_law (A : Option Addr) (n cap : Nat) (ops : List Op) (now : Int) (w : World) (hC : KOp.C w A n ops) (hc : n ≤ cap) (ho : ∀ x ∈ ops, (Lit.int .i64 x.1).wf = true ∧ (Lit.int .i64 x.2.1).wf = true ∧ (Lit.int .i64 x.2.2.1).wf = true ∧ x.2.2.2.size ≤ maxLen) (_ : (Lit.int .i64 now).wf = true) :
    Calls Try.prog 6 #[.slice A n cap, .int .i64 now] w fun e w' => e = .returned (.bool true) ∧ Below w.heap.size w w' := by
  have HN := Lib.hid (Kd.C_len hC)
  have HC := Lib.hid hC
  have HO := Lib.hid ho
  have hm1 := Kd.C_max hC
  clear hC ho
  by_cases h60 : 60 < n
  · have h60i : (60 : Int) < n := by omega
    go_enter Try.func6, Try.ntmps6
    go_wp2_with (go_at_call 8; refine Calls.mono (awake_any _) ?_; rintro e w1 ⟨rfl, hB⟩)
    go_ret
    exact ⟨rfl, hB⟩
  · have h60i : ¬ (60 : Int) < n := by omega
    go_enter Try.func6, Try.ntmps6
    go_wp2_with fail
    refine Calls.mono (Hp.ldINew (Hp.nil w) 100) ?_
    rintro e w1 ⟨lb, rfl, hP1⟩
    rw [show max (100 : Int) 0 = 100 by decide] at hP1
    have HP1 := Lib.hid hP1
    clear hP1
    go_wp2_with fail
    go_loopw [31] (fun i wr => ∃ (k : Nat) (r : List (Ent Int)), i = .int .i64 k ∧ k ≤ n ∧ Hp w wr [ALdI lb 100 r] ∧ r.length ≤ k) (fun i _ => n - (intOf i).toNat)
    case atStart => exact ⟨0, [], rfl, Nat.zero_le _, HP1.out, Nat.le_refl _⟩
    case round =>
      obtain ⟨k, r, rfl, hk, hP, hrl⟩ := hrel
      have HP := Lib.hid hP
      clear hP
      by_cases hlt : k < n
      · obtain ⟨ad, kind, ov, ou, og, rfl, hx, hf0, hf1, hf2, hf3⟩ := C_nth_op (Kd.C_below HC.out HP.out.belowW) k hlt
        obtain ⟨_, _, _, hgo⟩ := HO.out _ (List.mem_of_getElem? hx)
        have i0 : (0 : Int) ≤ (k : Int) := by omega
        have i1 : (k : Int) < (n : Int) := by omega
        clear hx
        have hbl : wr.heap.size < (wr.alloc (.cells #[.int .i64 kind, .int .i64 ov, .int .i64 ou, .string og] 27)).heap.size := by simp
        by_cases hog : 20 < og.size
        · have hog' : (20 : Int) < og.size := by omega
          have HBW := Lib.hid (HP.out.alloc (.cells #[.int .i64 kind, .int .i64 ov, .int .i64 ou, .string og] 27)).belowW
          go_wp2_with (go_at_call 8; refine Calls.mono (awake_any _) ?_; rintro e w1 ⟨rfl, hB⟩)
          go_ret
          exact ⟨rfl, HBW.out.trans (hB.mono HBW.out.size)⟩
        have hog' : ¬ (20 : Int) < og.size := by omega
        go_wp2_with fail
        refine Calls.mono (((HP.out.alloc _).swap).ldIPut og ov ou hgo (by omega)) ?_
        rintro e w2 ⟨rfl, hT2⟩
        have hdl := ldPut_len HP.out.ldIRow og (ov, ou)
        rw [if_pos (mayPut_room (room := 100) (key := og) hrl hk (by omega))] at hT2 ⊢
        have HT2 := Lib.hid hT2.drop1
        have hlen : (ldPut r og (ov, ou)).length ≤ k + 1 := by rw [hdl]; split <;> omega
        clear hT2 hdl
        go_wp2_with fail
        refine ⟨⟨k + 1, ldPut r og (ov, ou), by simp, by omega, HT2.out, hlen⟩, ?_⟩
        simp [intOf]
        omega
      · have hkn : k = n := by omega
        subst hkn
        have hr60 : r.length ≤ 60 := by omega
        have HR6 := Lib.hid hr60
        have HRI := Lib.hid HP.out.ldIRow
        have HOK := Lib.hid HP.out.ldIOk
        clear hr60 hrl
        go_wp2_with fail
        refine Calls.mono HP.out.ldICopy ?_
        rintro e w2 ⟨cb, rfl, hT2⟩
        have HT2 := Lib.hid hT2
        clear hT2
        go_wp2_with fail
        refine Calls.mono (HT2.out.swap.ldISweep now (by have := HR6.out; omega)) ?_
        rintro e w3 ⟨A3, c3, rfl, hT3⟩
        have hll := left_len r now
        obtain ⟨m, hm⟩ : ∃ m, m = (past r now).length := ⟨_, rfl⟩
        obtain ⟨ml, hml⟩ : ∃ ml, ml = (left r now).length := ⟨_, rfl⟩
        obtain ⟨mr, hmr⟩ : ∃ mr, mr = r.length := ⟨_, rfl⟩
        rw [← hm, ← hml, ← hmr] at hll
        rw [← hm] at hT3 ⊢
        have hm60 : mr ≤ 60 := by rw [hmr]; exact HR6.out
        have HM := Lib.hid hm
        have HML := Lib.hid hml
        have HMR := Lib.hid hmr
        have HT3 := Lib.hid hT3
        clear hT3 hm hml hmr
        go_wp2_with fail
        go_loopw [10, 11, 58] (fun la f i wq => ∃ (j : Nat) (lv : Int) (fb : Bool), i = .int .i64 j ∧ la = .int .i64 lv ∧ f = .bool fb ∧ j ≤ m ∧ Hp w wq [AStr (.slice A3 m c3) ((past r now).map (·.1)), ALdI lb 100 (left r now), ALdI cb 100 r] ∧ (fb = false → ∃ j' p, j = j' + 1 ∧ (past r now)[j']? = some p ∧ lv = p.2.2)) (fun _ _ i _ => m - (intOf i).toNat)
        case atStart => exact ⟨0, 0, true, rfl, rfl, rfl, Nat.zero_le _, HT3.out, fun h => by cases h⟩
        case round =>
          obtain ⟨j, lv, fb, rfl, rfl, rfl, hj, hQ, hfb⟩ := hrel
          have HQ := Lib.hid hQ
          have HFB := Lib.hid hfb
          clear hQ hfb
          by_cases hjm : j < m
          · obtain ⟨ad3, key, rfl, hky, d3⟩ := C_nth_scalar (Kd.R_reads' HQ.out.head).2.2 j (by rw [List.length_map, ← HM.out]; exact hjm)
            rw [List.getElem?_map] at hky
            obtain ⟨⟨pk, pv, pu⟩, hp, hpk⟩ := Option.map_eq_some_iff.1 hky
            have hpk : pk = key := hpk
            subst hpk
            have hpm := List.mem_of_getElem? hp
            obtain ⟨hpr, hpn⟩ := past_mem.1 hpm
            have hpn : pu ≤ now := hpn
            have hg1 : ldIGet r pk = ((pv, pu), true) := get_of HRI.out hpr
            have hg2 : ldIGet (left r now) pk = ((0, 0), false) := get_left HRI.out hpm
            have hps : pk.size ≤ maxLen := HOK.out _ hpr
            have hlast : fb = false → ¬ pu < lv := fun h => by
              obtain ⟨j', q, rfl, hq, rfl⟩ := HFB.out h
              have : q.2.2 ≤ pu := past_steps hq hp
              omega
            have HLS := Lib.hid hlast
            have i0 : (0 : Int) ≤ (j : Int) := by omega
            have i1 : (j : Int) < (m : Int) := by omega
            have hpn' : ¬ now < pu := by omega
            have HP3 := Lib.hid hp
            have HG1 := Lib.hid hg1
            have HG2 := Lib.hid hg2
            clear hky hp hpm hpr hg1 hg2 hlast
            go_wp2_with fail
            refine Calls.mono (HQ.out.up2.ldIUntilC pk hps) ?_
            rintro e w4 ⟨rfl, hT4⟩
            rw [HG1.out]
            have HT4 := Lib.hid hT4
            clear hT4
            go_wp2_with fail
            refine Calls.mono (HT4.out.up2.ldIGetC pk hps) ?_
            rintro e w5 ⟨rfl, hT5⟩
            rw [HG2.out]
            have HT5 := Lib.hid hT5.up2
            clear hT5
            cases fb
            case' false => 
              have hll2 := HLS.out rfl
            all_goals
              go_wp2_with fail
              refine ⟨⟨j + 1, pu, false, by simp, rfl, rfl, by omega, HT5.out, fun _ => ⟨j, (pk, pv, pu), rfl, HP3.out, rfl⟩⟩, ?_⟩
              simp [intOf]
              omega
          · have hjm2 : j = m := by omega
            subst hjm2
            go_wp2_with fail
            refine Calls.mono (HQ.out.swap.ldIKeys (by have := left_len r now; have := HR6.out; omega)) ?_
            rintro e w4 ⟨A4, c4, rfl, hT4⟩
            rw [← HML.out] at hT4 ⊢
            have HT4 := Lib.hid hT4.drop2
            have HRL := Lib.hid HQ.out.tail.ldIRow
            clear hT4
            go_wp2_with fail
            go_loopw [98] (fun i wz => ∃ (q : Nat), i = .int .i64 q ∧ q ≤ ml ∧ Hp w wz [AStr (.slice A4 ml c4) ((left r now).map (·.1)), ALdI lb 100 (left r now), ALdI cb 100 r]) (fun i _ => ml - (intOf i).toNat)
            case atStart => exact ⟨0, rfl, Nat.zero_le _, HT4.out⟩
            case round =>
              obtain ⟨q, rfl, hq, hZ⟩ := hrel
              have HZ := Lib.hid hZ
              clear hZ
              by_cases hqm : q < ml
              · obtain ⟨ad4, key, rfl, hky, d4⟩ := C_nth_scalar (Kd.R_reads' HZ.out.head).2.2 q (by rw [List.length_map, ← HML.out]; exact hqm)
                rw [List.getElem?_map] at hky
                obtain ⟨⟨pk, pv, pu⟩, hp, hpk⟩ := Option.map_eq_some_iff.1 hky
                have hpk : pk = key := hpk
                subst hpk
                have hpm := List.mem_of_getElem? hp
                obtain ⟨hpr, hpn⟩ := List.mem_filter.1 hpm
                have hpn : now < pu := by simpa using hpn
                have hg1 : ldIGet (left r now) pk = ((pv, pu), true) := get_of HRL.out hpm
                have hps : pk.size ≤ maxLen := HOK.out _ hpr
                have i0 : (0 : Int) ≤ (q : Int) := by omega
                have i1 : (q : Int) < (ml : Int) := by omega
                have hpn' : ¬ pu ≤ now := by omega
                have HG1 := Lib.hid hg1
                clear hky hp hpm hpr hg1
                go_wp2_with fail
                refine Calls.mono (HZ.out.swap.ldIUntilC pk hps) ?_
                rintro e w5 ⟨rfl, hT5⟩
                rw [HG1.out]
                have HT5 := Lib.hid hT5.swap
                clear hT5
                go_wp2_with fail
                refine ⟨⟨q + 1, by simp, by omega, HT5.out⟩, ?_⟩
                simp [intOf]
                omega
              · have hqm2 : q = ml := by omega
                subst hqm2
                go_wp2_with fail
                refine Calls.mono HZ.out.tail.ldILen ?_
                rintro e w5 ⟨rfl, rfl⟩
                rw [← HML.out]
                go_wp2_with fail
                refine Calls.mono HZ.out.tail.tail.ldILen ?_
                rintro e w5 ⟨rfl, rfl⟩
                rw [← HMR.out]
                have hsum : ((j : Int) + (q : Int) == (mr : Int)) = true := by simp; omega
                go_wp2_with fail
                refine Calls.mono (HZ.out.tail.ldISweep now (by have := left_len r now; have := HR6.out; omega)) ?_
                rintro e w6 ⟨A6, c6, rfl, hT6⟩
                rw [left_past]
                have HBW := Lib.hid hT6.belowW
                clear hT6
                go_wp2_with (go_at_call 8; refine Calls.mono (awake_any _) ?_; rintro e w7 ⟨rfl, hB⟩)
                go_ret
                exact ⟨rfl, HBW.out.trans (hB.mono HBW.out.size)⟩
end Go.Proofs.Ytehkhopkedbngaa
