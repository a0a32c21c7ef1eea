/- The statement TimerLate of layer 5: every call of it tells true and leaves what was there as it was. -/
import Derived.Test.YtihmblkfbcnllaaTmT2
import Derived.Test.YtihmblkfbcnllaaOpen
namespace Go.Proofs.Ytihmblkfbcnllaa
open Go.RowKit Go.Proofs.YtihmblkfbcnllaaW.PrintWords

def cntId (l : List It) (id : Int) : Nat := (l.filter (fun p => decide (p.1 = id))).length
theorem cntId_nil (id : Int) : cntId [] id = 0 := rfl
theorem cntId_snoc (l : List It) (x : It) (id : Int) : cntId (l ++ [x]) id = cntId l id + if x.1 = id then 1 else 0 := by
  unfold cntId
  rw [List.filter_append, List.length_append]
  by_cases h : x.1 = id <;> simp [h]
theorem cntId_le (l : List It) (id : Int) : cntId l id ≤ l.length := List.length_filter_le _ _
theorem cntId_zero {l : List It} {id : Int} (h : ∀ p ∈ l, p.1 ≠ id) : cntId l id = 0 := by
  unfold cntId
  rw [List.length_eq_zero_iff, List.filter_eq_nil_iff]
  intro p hp
  simpa using h p hp
theorem cntId_one {id t : Int} : ∀ {l : List It}, (l.map (·.1)).Nodup → (id, t) ∈ l → cntId l id = 1
  | p :: l, hn, hm => by
    rw [List.map_cons, List.nodup_cons] at hn
    rcases List.mem_cons.1 hm with rfl | hm
    · have : cntId l id = 0 := cntId_zero (fun q hq e => hn.1 (List.mem_map.2 ⟨q, hq, e⟩))
      unfold cntId at *
      simp [this]
    · have hne : p.1 ≠ id := fun e => hn.1 (List.mem_map.2 ⟨(id, t), hm, e.symm⟩)
      have := cntId_one hn.2 hm
      unfold cntId at *
      simp [hne, this]
/-- What is due stands in front. -/
theorem due_mem {now : Int} : ∀ {s : List It}, s.Pairwise tLt → ∀ p, (p ∈ s.take (tDue s now) ↔ p ∈ s ∧ p.2 ≤ now) ∧ (p ∈ s.drop (tDue s now) ↔ p ∈ s ∧ now < p.2)
  | [], _, p => by simp
  | q :: s, h, p => by
    rw [List.pairwise_cons] at h
    rw [tDue_cons]
    by_cases hq : q.2 ≤ now
    · rw [if_pos hq, List.take_succ_cons, List.drop_succ_cons, List.mem_cons, List.mem_cons, (due_mem h.2 p).1, (due_mem h.2 p).2]
      constructor
      · constructor
        · rintro (rfl | h)
          · exact ⟨.inl rfl, hq⟩
          · exact ⟨.inr h.1, h.2⟩
        · rintro ⟨rfl | h, h2⟩
          · exact .inl rfl
          · exact .inr ⟨h, h2⟩
      · constructor
        · rintro h
          exact ⟨.inr h.1, h.2⟩
        · rintro ⟨rfl | h, h2⟩
          · omega
          · exact ⟨h, h2⟩
    · rw [if_neg hq, List.take_zero, List.drop_zero]
      have hall : ∀ z ∈ q :: s, now < z.2 := by
        intro z hz
        rcases List.mem_cons.1 hz with rfl | hz
        · omega
        · have := h.1 z hz
          unfold tLt at this
          omega
      constructor
      · constructor
        · intro h; simp at h
        · rintro ⟨h1, h2⟩
          have := hall p h1
          omega
      · exact ⟨fun h => ⟨h, hall p h⟩, fun h => h.1⟩
theorem tSet_mem (s : List It) (id t : Int) : (id, t) ∈ tSet s id t := (tIns_perm _ _).mem_iff.2 (List.mem_cons_self ..)
theorem late_cnt {s : List It} {id t : Int} (now : Int) (h : tRow s) (hm : (id, t) ∈ s) : cntId (s.take (tDue s now)) id = if t ≤ now then 1 else 0 := by
  by_cases ht : t ≤ now
  · rw [if_pos ht]
    exact cntId_one ((List.Sublist.map _ (List.take_sublist _ _)).nodup h.2) (((due_mem h.1 _).1).2 ⟨hm, ht⟩)
  · rw [if_neg ht]
    refine cntId_zero (fun p hp e => ?_)
    obtain ⟨hp1, hp2⟩ := ((due_mem h.1 p).1).1 hp
    have h1 := itAt_some h.2 hm
    have h2 := itAt_some h.2 (id := p.1) (t := p.2) hp1
    rw [e, h1] at h2
    have := congrArg Prod.fst h2
    simp only at this
    omega
theorem late_left {s : List It} {id t : Int} (now : Int) (h : tRow s) (hm : (id, t) ∈ s) : (itAt (s.drop (tDue s now)) id).2 = decide (now < t) := by
  have hn : ((s.drop (tDue s now)).map (·.1)).Nodup := (List.Sublist.map _ (List.drop_sublist _ _)).nodup h.2
  by_cases ht : now < t
  · rw [itAt_some hn (((due_mem h.1 _).2).2 ⟨hm, ht⟩)]
    simp [ht]
  · rw [itAt_none]
    · simp [ht]
    · intro p hp e
      obtain ⟨hp1, hp2⟩ := ((due_mem h.1 p).2).1 hp
      have h1 := itAt_some h.2 hm
      have h2 := itAt_some h.2 (id := p.1) (t := p.2) hp1
      rw [e, h1] at h2
      have := congrArg Prod.fst h2
      simp only at this
      omega
theorem tDrop_gone (s : List It) (id : Int) : ∀ p ∈ tDrop s id, p.1 ≠ id := by
  intro p hp
  have := (List.mem_filter.1 hp).2
  simpa using this

set_option maxHeartbeats 1600000 in
set_option maxRecDepth 100000 in
theorem late_law (A : Option Addr) (n cap : Nat) (xs : List It) (id at_ now : Int) (w : World) (hC : KIt.C w A n xs) (hc : n ≤ cap) (ho : ∀ x ∈ xs, (Lit.int .i64 x.1).wf = true ∧ (Lit.int .i64 x.2).wf = true) (hid : (Lit.int .i64 id).wf = true) (_hat : (Lit.int .i64 at_).wf = true) (_hnow : (Lit.int .i64 now).wf = true) :
    Calls Try.prog 5 #[.slice A n cap, .int .i64 id, .int .i64 at_, .int .i64 now] w fun e w' => e = .returned (.bool true) ∧ Below w.heap.size w w' := by
  have HN := Lib.hid (Kd.C_len hC)
  have HC := Lib.hid hC
  have HO := Lib.hid ho
  have hm1 := Kd.C_max hC
  clear hC ho
  by_cases h80 : 80 < n
  · have h80i : (80 : Int) < n := by omega
    go_enter Try.func5, Try.ntmps5
    go_wp2_with (go_at_call 9; refine Calls.mono (awake_any _) ?_; rintro e w1 ⟨rfl, hB⟩)
    go_ret
    exact ⟨rfl, hB⟩
  · have h80i : ¬ (80 : Int) < n := by omega
    have hn80 : n ≤ 80 := by omega
    go_enter Try.func5, Try.ntmps5
    go_wp2_with fail
    refine Calls.mono (T1_new w) ?_
    rintro e w1 ⟨rfl, hP1⟩
    generalize w.heap.size + 1 = tb at *
    have HP1 := Lib.hid hP1
    clear hP1
    go_wp2_with fail
    go_loopw [29] (fun i wr => ∃ (k : Nat) (s : List It), i = .int .i64 k ∧ k ≤ n ∧ T1 w wr tb s ∧ s.length ≤ k) (fun i _ => n - (intOf i).toNat)
    case atStart => exact ⟨0, [], rfl, Nat.zero_le _, HP1.out, Nat.le_refl _⟩
    case round =>
      obtain ⟨k, s, rfl, hk, hTR, hsl⟩ := hrel
      have HTR := Lib.hid hTR
      clear hTR
      by_cases hlt : k < n
      · obtain ⟨ad, x, rfl, hx, hf0, hf1⟩ := C_nth_it (Kd.C_below HC.out HTR.out.belowW) k hlt
        have hwo := (HO.out _ (List.mem_of_getElem? hx)).1
        have i0 : (0 : Int) ≤ (k : Int) := by omega
        have i1 : (k : Int) < (n : Int) := by omega
        clear hx
        go_wp2_with fail
        refine Calls.mono ((HTR.out.below (below_alloc (Below.refl _ _) _)).set x.1 x.2 hwo (by omega)) ?_
        rintro e w2 ⟨rfl, hT2⟩
        have HT2 := Lib.hid hT2
        have hsl2 := tSet_len s x.1 x.2
        clear hT2
        go_wp2_with fail
        refine ⟨⟨k + 1, tSet s x.1 x.2, by simp, by omega, HT2.out, by omega⟩, ?_⟩
        simp [intOf]
        omega
      · have hkn : k = n := by omega
        subst hkn
        go_wp2_with fail
        refine Calls.mono (HTR.out.set id at_ hid (by omega)) ?_
        rintro e w2 ⟨rfl, hT2⟩
        have hsl2 := tSet_len s id at_
        have hin := tSet_mem s id at_
        generalize tSet s id at_ = s1 at *
        have HIN := Lib.hid hin
        have HT2 := Lib.hid hT2
        clear hT2 hin
        go_wp2_with fail
        refine Calls.mono (HT2.out.copy (by omega)) ?_
        rintro e w3 ⟨cb, b1, b2, rfl, hT3⟩
        have HT3 := Lib.hid hT3
        have hhas : hasId s1 id = true := by
          unfold hasId
          rw [List.any_eq_true]
          exact ⟨_, HIN.out, by simp⟩
        clear hT3
        go_wp2_with fail
        refine Calls.mono (HT3.out.dropC id hid (by omega)) ?_
        rintro e w4 ⟨rfl, hT4⟩
        rw [hhas]
        have hdl := tDrop_len s1 id
        have HROW := Lib.hid hT4.t.trow
        have HNO := Lib.hid (tDrop_gone s1 id)
        generalize tDrop s1 id = sc at *
        have HT4 := Lib.hid hT4
        clear hT4 hhas
        go_wp2_with fail
        refine Calls.mono (HT4.out.dueT now (by omega)) ?_
        rintro e w5 ⟨v5, rfl, hR5, hT5, hK5⟩
        have hcnt := late_cnt now HROW.out HIN.out
        have hleft := late_left now HROW.out HIN.out
        have hrl : (s1.take (tDue s1 now)).length ≤ 81 := by simp; omega
        generalize s1.take (tDue s1 now) = r at *
        generalize s1.drop (tDue s1 now) = s3 at *
        obtain ⟨A5, c5, hv5⟩ := Kd.R_slice hR5
        subst hv5
        have hC5 := (Kd.R_reads' hR5).2.2
        obtain ⟨nr, hnr⟩ : ∃ nr, nr = r.length := ⟨_, rfl⟩
        rw [← hnr] at hC5 hrl ⊢
        have HNR := Lib.hid hnr
        have HC5 := Lib.hid hC5
        have HT5 := Lib.hid hT5
        have HCNT := Lib.hid hcnt
        have HLEFT := Lib.hid hleft
        clear hnr hC5 hR5 hT5 hK5 hcnt hleft
        go_wp2_with fail
        go_loopw [13, 58] (fun c i wq => ∃ j : Nat, i = .int .i64 j ∧ j ≤ nr ∧ c = .int .i64 (cntId (r.take j) id) ∧ Below w5.heap.size w5 wq) (fun _ i _ => nr - (intOf i).toNat)
        case atStart => exact ⟨0, rfl, Nat.zero_le _, rfl, Below.refl _ _⟩
        case round =>
          obtain ⟨j, rfl, hj, rfl, hB⟩ := hrel
          have HB := Lib.hid hB
          clear hB
          by_cases hjl : j < nr
          · obtain ⟨ad, x, rfl, hx, d0, d1⟩ := C_nth_it (Kd.C_below HC5.out HB.out) j hjl
            have htk : r.take (j + 1) = r.take j ++ [x] := by rw [List.take_add_one, hx]; rfl
            have hcs : cntId (r.take (j + 1)) id = cntId (r.take j) id + if x.1 = id then 1 else 0 := by rw [htk, cntId_snoc]
            have hcl := cntId_le (r.take j) id
            rw [List.length_take] at hcl
            have hcl' : cntId (r.take j) id ≤ 81 := by omega
            have i0 : (0 : Int) ≤ (j : Int) := by omega
            have i1 : (j : Int) < (nr : Int) := by omega
            have HCS := Lib.hid hcs
            generalize cntId (r.take j) id = cj at *
            clear hcl htk hcs hx
            by_cases hxi : x.1 = id
            · have hxb : (x.1 == id) = true := by simp [hxi]
              go_wp2_with fail
              refine ⟨⟨j + 1, by simp, by omega, by rw [HCS.out, if_pos hxi]; simp, HB.out.trans ((below_alloc (Below.refl _ _) _).mono HB.out.size)⟩, ?_⟩
              simp [intOf]
              omega
            · have hxb : (x.1 == id) = false := by simp [hxi]
              go_wp2_with fail
              refine ⟨⟨j + 1, by simp, by omega, by rw [HCS.out, if_neg hxi]; simp, HB.out.trans ((below_alloc (Below.refl _ _) _).mono HB.out.size)⟩, ?_⟩
              simp [intOf]
              omega
          · have hjn : j = nr := by omega
            subst hjn
            have hrt : r.take j = r := List.take_of_length_le (by rw [HNR.out]; exact Nat.le_refl _)
            obtain ⟨cn, hcn⟩ : ∃ cn : Nat, cn = if at_ ≤ now then 1 else 0 := ⟨_, rfl⟩
            rw [hrt, HCNT.out, ← hcn]
            have HCN := Lib.hid hcn
            clear hcn
            have hT6 := HT5.out.below HB.out
            have HT6 := Lib.hid hT6
            clear hT6 hrt
            go_wp2_with fail
            refine Calls.mono (HT6.out.dueC now (by omega)) ?_
            rintro e w7 ⟨v7, rfl, hR7, hT7, hK7⟩
            have hno : ∀ p ∈ sc.take (tDue sc now), p.1 ≠ id := fun p hp => HNO.out p (List.mem_of_mem_take hp)
            generalize sc.take (tDue sc now) = q at *
            obtain ⟨A7, c7, hv7⟩ := Kd.R_slice hR7
            subst hv7
            have hC7 := (Kd.R_reads' hR7).2.2
            have HC7 := Lib.hid hC7
            have hqm := Kd.C_max hC7
            obtain ⟨nq, hnq⟩ : ∃ nq, nq = q.length := ⟨_, rfl⟩
            rw [← hnq] at hqm ⊢
            have HNQ := Lib.hid hnq
            have HT7 := Lib.hid hT7
            have HNOQ := Lib.hid hno
            clear hnq hC7 hR7 hT7 hK7 hno
            go_wp2_with fail
            go_loopw [73] (fun i wq => ∃ j : Nat, i = .int .i64 j ∧ j ≤ nq ∧ Below w7.heap.size w7 wq) (fun i _ => nq - (intOf i).toNat)
            case atStart => exact ⟨0, rfl, Nat.zero_le _, Below.refl _ _⟩
            case round =>
              obtain ⟨j2, rfl, hj2, hB2⟩ := hrel
              have HB2 := Lib.hid hB2
              clear hB2
              by_cases hjl2 : j2 < nq
              · obtain ⟨ad, x, rfl, hx, d0, d1⟩ := C_nth_it (Kd.C_below HC7.out HB2.out) j2 (by rw [← HNQ.out]; exact hjl2)
                have i0 : (0 : Int) ≤ (j2 : Int) := by omega
                have i1 : (j2 : Int) < (nq : Int) := by omega
                have hxb : (x.1 == id) = false := by simpa using HNOQ.out x (List.mem_of_getElem? hx)
                clear hx
                go_wp2_with fail
                refine ⟨⟨j2 + 1, by simp, by omega, HB2.out.trans ((below_alloc (Below.refl _ _) _).mono HB2.out.size)⟩, ?_⟩
                simp [intOf]
                omega
              · have hjn2 : j2 = nq := by omega
                subst hjn2
                have hT8 := HT7.out.below HB2.out
                have HT8 := Lib.hid hT8
                clear hT8
                go_wp2_with fail
                refine Calls.mono (HT8.out.atT id hid) ?_
                rintro e w8 ⟨rfl, rfl⟩
                rw [HLEFT.out]
                generalize (itAt s3 id).1 = lt at *
                by_cases hnow : at_ ≤ now
                · obtain rfl : cn = 1 := by rw [HCN.out, if_pos hnow]
                  have hn2 : ¬ now < at_ := by omega
                  rw [decide_eq_false hn2]
                  go_wp2_with (go_at_call 9; refine Calls.mono (awake_any _) ?_; rintro e w9 ⟨rfl, hB9⟩)
                  rw [show (!decide (now < at_)) = true by simp; omega]
                  go_ret
                  exact ⟨rfl, HT8.out.belowW.trans (hB9.mono HT8.out.belowW.size)⟩
                · obtain rfl : cn = 0 := by rw [HCN.out, if_neg hnow]
                  have hn2 : now < at_ := by omega
                  rw [decide_eq_true hn2]
                  go_wp2_with (go_at_call 9; refine Calls.mono (awake_any _) ?_; rintro e w9 ⟨rfl, hB9⟩)
                  rw [show (!decide (at_ ≤ now)) = true by simp; omega]
                  go_ret
                  exact ⟨rfl, HT8.out.belowW.trans (hB9.mono HT8.out.belowW.size)⟩
end Go.Proofs.Ytihmblkfbcnllaa
