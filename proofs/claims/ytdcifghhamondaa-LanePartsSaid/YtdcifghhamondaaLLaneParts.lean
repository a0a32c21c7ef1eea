/- The statement LaneParts of layer 6: every call of it tells true and leaves what was there as it was. -/
import Derived.Test.YtdcifghhamondaaLnOps
namespace Go.Proofs.Ytdcifghhamondaa
open Go.RowKit Go.Proofs.YtdcifghhamondaaW.PrintWords

/-- How many things the groups of the first heads have. -/
def cntH (s : List En) (hs : List En) : Nat := (hs.map (fun p => (grp s p.2.1).length)).sum
theorem cntH_snoc (s hs : List En) (p : En) : cntH s (hs ++ [p]) = cntH s hs + (grp s p.2.1).length := by unfold cntH; simp
theorem filter_split (s : List En) (f : En → Bool) : s.length = (s.filter f).length + (s.filter (fun p => !f p)).length := by
  induction s with
  | nil => rfl
  | cons p s ih =>
    rw [List.filter_cons, List.filter_cons, List.length_cons, ih]
    cases f p <;> simp <;> omega
/-- Every thing is of just one head's group. -/
theorem parts_aux (s : List En) : ∀ (gs : List ByteArray), gs.Nodup → (∀ p ∈ s, p.2.1 ∈ gs) → (gs.map (fun g => (grp s g).length)).sum = s.length := by
  intro gs
  induction gs generalizing s with
  | nil =>
    intro _ h
    cases s with
    | nil => rfl
    | cons p s => exact absurd (h p (List.mem_cons_self ..)) (by simp)
  | cons g gs ih =>
    intro hn h
    rw [List.nodup_cons] at hn
    have h1 := ih (s.filter (fun p => !decide (p.2.1 = g))) hn.2 (fun p hp => by
      obtain ⟨hp1, hp2⟩ := List.mem_filter.1 hp
      rcases List.mem_cons.1 (h p hp1) with e | e
      · simp [e] at hp2
      · exact e)
    have h2 : ∀ g' ∈ gs, grp (s.filter (fun p => !decide (p.2.1 = g))) g' = grp s g' := fun g' hg' => by
      unfold grp
      rw [List.filter_filter]
      congr 1
      apply List.filter_congr
      intro p _
      by_cases e : p.2.1 = g'
      · have : p.2.1 ≠ g := fun e2 => hn.1 (by rw [← e2, e]; exact hg')
        simp [e]
        rw [← e]; exact this
      · simp [e]
    have h3 : gs.map (fun g' => (grp (s.filter (fun p => !decide (p.2.1 = g))) g').length) = gs.map (fun g' => (grp s g').length) := List.map_congr_left (fun g' hg' => by rw [h2 g' hg'])
    rw [h3] at h1
    rw [List.map_cons, List.sum_cons, h1, filter_split s (fun p => decide (p.2.1 = g))]
    congr 1
    unfold grp
    rw [List.length_map]
theorem parts_sum {s : List En} (hn : (s.map (·.1)).Nodup) : cntH s (lHeads s) = s.length := by
  have hmap : cntH s (lHeads s) = (((lHeads s).map (fun p => p.2.1)).map (fun g => (grp s g).length)).sum := by unfold cntH; rw [List.map_map]; rfl
  rw [hmap]
  refine parts_aux s _ ?_ (fun p hp => ?_)
  · rw [List.nodup_iff_pairwise_ne, List.pairwise_map]
    have hnd : (lHeads s).Nodup := by
      have := (List.Sublist.map (·.1) (List.filter_sublist (l := s) (p := fun p => decide ((grp s p.2.1).head? = some p.1)))).nodup hn
      rw [List.nodup_iff_pairwise_ne, List.pairwise_map] at this
      rw [List.nodup_iff_pairwise_ne]
      exact this.imp (fun h e => h (congrArg _ e))
    rw [List.nodup_iff_pairwise_ne] at hnd
    refine hnd.imp_of_mem (fun {p q} hp hq hne e => hne ?_)
    obtain ⟨p1, p2⟩ := (lHeads_mem hn).1 hp
    obtain ⟨q1, q2⟩ := (lHeads_mem hn).1 hq
    rw [e, q2] at p2
    have e1 : q.1 = p.1 := Option.some.inj p2
    have a1 := mget_mem hn p1
    have a2 := mget_mem hn q1
    rw [← e1, a2] at a1
    have e2 := Option.some.inj a1
    exact Prod.ext e1.symm e2.symm
  · have hm : p.1 ∈ grp s p.2.1 := grp_mem.2 ⟨p.2.2, hp⟩
    cases hl : grp s p.2.1 with
    | nil => rw [hl] at hm; simp at hm
    | cons x l =>
      obtain ⟨t, ht⟩ := grp_mem.1 (show x ∈ grp s p.2.1 by rw [hl]; simp)
      exact List.mem_map.2 ⟨_, (lHeads_mem hn).2 ⟨ht, by rw [hl]; rfl⟩, rfl⟩
theorem cntH_le (s : List En) (hs : List En) : ∀ m, cntH s (hs.take m) ≤ cntH s hs := by
  intro m
  have : hs = hs.take m ++ hs.drop m := (List.take_append_drop m hs).symm
  unfold cntH
  conv => rhs; rw [this]
  rw [List.map_append, List.sum_append]
  omega

set_option maxHeartbeats 3200000 in
set_option maxRecDepth 100000 in
theorem parts_law (A : Option Addr) (n cap : Nat) (ops : List Op) (w : World) (hC : KOp.C w A n ops) (hc : n ≤ cap) (ho : ∀ x ∈ ops, (Lit.int .i64 x.1).wf = true ∧ (Lit.int .i64 x.2.1).wf = true ∧ x.2.2.size ≤ maxLen) :
    Calls Try.prog 5 #[.slice A n cap] w fun e w' => e = .returned (.bool true) ∧ Below w.heap.size w w' := by
  have HN := Lib.hid (Kd.C_len hC)
  have HC := Lib.hid hC
  have HO := Lib.hid ho
  have hm1 := Kd.C_max hC
  clear hC ho
  by_cases h60 : 60 < n
  · have h60i : (60 : Int) < n := by omega
    go_enter Try.func5, Try.ntmps5
    go_wp2_with (go_at_call 8; refine Calls.mono (awake_any _) ?_; rintro e w1 ⟨rfl, hB⟩)
    go_ret
    exact ⟨rfl, hB⟩
  · have h60i : ¬ (60 : Int) < n := by omega
    go_enter Try.func5, Try.ntmps5
    go_wp2_with fail
    refine Calls.mono (Hp.lnNew (Hp.nil w)) ?_
    rintro e w1 ⟨rfl, hP1⟩
    generalize w.heap.size + 2 = lb at *
    have HP1 := Lib.hid hP1
    clear hP1
    go_wp2_with fail
    go_loopw [21] (fun i wr => ∃ (k : Nat) (s : List En), i = .int .i64 k ∧ k ≤ n ∧ Hp w wr [ALn lb s k] ∧ s.length ≤ k) (fun i _ => n - (intOf i).toNat)
    case atStart => exact ⟨0, [], rfl, Nat.zero_le _, HP1.out, Nat.le_refl _⟩
    case round =>
      obtain ⟨k, s, rfl, hk, hP, hsl⟩ := hrel
      have HP := Lib.hid hP
      clear hP
      by_cases hlt : k < n
      · obtain ⟨ad, kind, oid, og, rfl, hx, hf0, hf1, hf2⟩ := C_nth_op (Kd.C_below HC.out HP.out.belowW) k hlt
        obtain ⟨_, hwo, hgo⟩ := HO.out _ (List.mem_of_getElem? hx)
        have i0 : (0 : Int) ≤ (k : Int) := by omega
        have i1 : (k : Int) < (n : Int) := by omega
        clear hx
        have hbl : wr.heap.size < (wr.alloc (.cells #[.int .i64 kind, .int .i64 oid, .string og] 28)).heap.size := by simp
        by_cases hog : 20 < og.size
        · have hog' : (20 : Int) < og.size := by omega
          have HBW := Lib.hid (HP.out.alloc (.cells #[.int .i64 kind, .int .i64 oid, .string og] 28)).belowW
          go_wp2_with (go_at_call 8; refine Calls.mono (awake_any _) ?_; rintro e w1 ⟨rfl, hB⟩)
          go_ret
          exact ⟨rfl, HBW.out.trans (hB.mono HBW.out.size)⟩
        have hog' : ¬ (20 : Int) < og.size := by omega
        by_cases hk1 : kind = 1
        · have hkb : (kind == 1) = true := by simp [hk1]
          clear hk1
          go_wp2_with fail
          refine Calls.mono (((HP.out.alloc _).swap).lnDrop oid hwo (by omega)) ?_
          rintro e w2 ⟨rfl, hT2⟩
          have HT2 := Lib.hid (hT2.drop1.lnT (Nat.le_succ k))
          have hdl := lDrop_len s oid
          clear hT2
          go_wp2_with fail
          refine ⟨⟨k + 1, lDrop s oid, by simp, by omega, HT2.out, by omega⟩, ?_⟩
          simp [intOf]
          omega
        · have hkb : (kind == 1) = false := by simp [hk1]
          clear hk1
          go_wp2_with fail
          refine Calls.mono (((HP.out.alloc _).swap).lnAdd og oid hwo hgo (by omega)) ?_
          rintro e w2 ⟨rfl, t, hT2⟩
          have HT2 := Lib.hid hT2.drop1
          have hdl := lAdd_len s og oid t
          clear hT2
          go_wp2_with fail
          refine ⟨⟨k + 1, lAdd s og oid t, by simp, by omega, HT2.out, by omega⟩, ?_⟩
          simp [intOf]
          omega
      · have hkn : k = n := by omega
        subst hkn
        have HIDS := Lib.hid HP.out.lnIds
        have HSUM := Lib.hid (parts_sum HIDS.out)
        have hhl : (lHeads s).length ≤ s.length := List.length_filter_le _ _
        have HMEM := Lib.hid (fun p (hp : p ∈ lHeads s) => (lHeads_mem HIDS.out).1 hp)
        have HWF := Lib.hid HP.out.lnWf
        go_wp2_with fail
        refine Calls.mono (HP.out.lnHeads (by omega)) ?_
        rintro e w2 ⟨A2, c2, rfl, hT2⟩
        obtain ⟨hs, hhs⟩ : ∃ hs, hs = lHeads s := ⟨_, rfl⟩
        rw [← hhs] at hT2 HSUM hhl HMEM ⊢
        have HHS := Lib.hid hhs
        have HT2 := Lib.hid hT2
        obtain ⟨m, hm⟩ : ∃ m, m = hs.length := ⟨_, rfl⟩
        rw [← hm] at hhl ⊢
        have HM := Lib.hid hm
        clear hT2 hhs hm
        go_wp2_with fail
        go_loopw [6, 47] (fun c i wq => ∃ j : Nat, i = .int .i64 j ∧ c = .int .i64 (cntH s (hs.take j)) ∧ j ≤ m ∧ Hp w wq [ARow (Kd.int .i64) 3 (.slice A2 hs.length c2) (hs.map (·.1)), ALn lb s k]) (fun _ i _ => m - (intOf i).toNat)
        case atStart => exact ⟨0, rfl, rfl, Nat.zero_le _, HT2.out⟩
        case round =>
          obtain ⟨j, rfl, rfl, hj, hQ⟩ := hrel
          have hcl : cntH s (hs.take j) ≤ s.length := by rw [← HSUM.out]; exact cntH_le s hs j
          have HQ := Lib.hid hQ
          clear hQ
          by_cases hlt2 : j < m
          · have hC2 := (Kd.R_reads' HQ.out.head).2.2
            obtain ⟨ad2, x, rfl, hx, d0⟩ := C_nth_scalar hC2 j (by rw [List.length_map, ← HM.out]; exact hlt2)
            rw [List.getElem?_map] at hx
            obtain ⟨p, hp, hpx⟩ := Option.map_eq_some_iff.1 hx
            subst hpx
            obtain ⟨hps, hph⟩ := HMEM.out p (List.mem_of_getElem? hp)
            have hpw := HWF.out p hps
            have hgo := Lib.hid (show groupOf s p.1 = (p.2.1, true) by have := mget_mem HIDS.out hps; rw [groupOf_some this])
            have HCN := Lib.hid (show cntH s (hs.take (j + 1)) = cntH s (hs.take j) + (grp s p.2.1).length by rw [List.take_add_one, hp]; exact cntH_snoc _ _ _)
            have i2 : (0 : Int) ≤ (j : Int) := by omega
            have i3 : (j : Int) < (hs.length : Int) := by rw [← HM.out]; omega
            have i4 : (j : Int) < (m : Int) := by omega
            have hgok : p.2.1.size ≤ maxLen := by
              obtain ⟨ma, mg, turn, gs, h1, _⟩ := HQ.out.tail.head
              obtain ⟨v, _, hh⟩ := h1.gok (id := p.1) (g := p.2.1) (t := p.2.2) hps
              exact hh
            have hgr := grp_len s p.2.1
            have HPH := Lib.hid hph
            clear hC2 hx hp hph hps
            go_wp2_with fail
            refine Calls.mono (HQ.out.swap.lnGroup p.1 hpw) ?_
            rintro e w3 ⟨rfl, hT3⟩
            rw [hgo.out]
            have HT3 := Lib.hid hT3
            clear hT3
            go_wp2_with fail
            refine Calls.mono (HT3.out.lnOf p.2.1 hgok (by omega)) ?_
            rintro e w4 ⟨A4, c4, rfl, hT4⟩
            have hC4 := (Kd.R_reads' hT4.head).2.2
            have hpos : 0 < (grp s p.2.1).length := by
              cases hl : grp s p.2.1 with
              | nil => have := HPH.out; rw [hl] at this; cases this
              | cons x l => simp
            obtain ⟨ad4, y, rfl, hy, d4⟩ := C_nth_scalar hC4 0 hpos
            have hy2 : p.1 = y := by
              have h1 := HPH.out
              rw [List.head?_eq_getElem?] at h1
              exact Option.some.inj (h1.symm.trans hy)
            subst hy2
            have d4 : w4.cell? ad4 = some (.int .i64 p.1) := by simpa [Addr.add] using d4
            obtain ⟨ln, hln⟩ : ∃ ln, ln = (grp s p.2.1).length := ⟨_, rfl⟩
            rw [← hln] at hT4 hpos HCN hgr ⊢
            have hln0 : ((ln : Int) == 0) = false := by simp; omega
            have hln1 : (0 : Int) < (ln : Int) := by omega
            have hpp : (p.1 != p.1) = false := by simp
            have HT4 := Lib.hid hT4
            clear hT4 hC4 hy hln
            go_wp2_with fail
            refine ⟨⟨j + 1, by simp, ?_, by omega, HT4.out.tail.swap⟩, ?_⟩
            · rw [HCN.out]
              simp
            · simp [intOf]
              omega
          · have hjm : j = m := by omega
            subst hjm
            have hcnt : cntH s (hs.take j) = s.length := by rw [List.take_of_length_le (by rw [← HM.out]; exact Nat.le_refl _)]; exact HSUM.out
            rw [hcnt]
            obtain ⟨sl, hsl2⟩ : ∃ sl, sl = s.length := ⟨_, rfl⟩
            have hse : ((sl : Int) == (sl : Int)) = true := by simp
            rw [← hsl2]
            have HSL := Lib.hid hsl2
            clear hcnt hsl2
            go_wp2_with fail
            refine Calls.mono HQ.out.swap.lnLenC ?_
            rintro e w3 ⟨rfl, rfl⟩
            rw [← HSL.out]
            go_wp2_with fail
            refine Calls.mono (HQ.out.swap.lnAll (by omega)) ?_
            rintro e w4 ⟨A4, c4, rfl, hT4⟩
            rw [← HSL.out]
            have HB4 := Lib.hid hT4.belowW
            clear hT4
            go_wp2_with (go_at_call 8; refine Calls.mono (awake_any _) ?_; rintro e w8 ⟨rfl, hB⟩)
            go_ret
            exact ⟨rfl, HB4.out.trans (hB.mono HB4.out.size)⟩
end Go.Proofs.Ytdcifghhamondaa
