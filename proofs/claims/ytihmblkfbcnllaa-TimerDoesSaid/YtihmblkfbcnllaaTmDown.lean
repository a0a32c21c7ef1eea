/- (*Timer).down by its contract. -/
import Derived.Test.YtihmblkfbcnllaaTmUp
namespace Go.Proofs.Ytihmblkfbcnllaa
open Go.RowKit Go.Sort Go.BigFrame Go.Proofs.YtihmblkfbcnllaaW.PrintWords

def DownPost (ok : Nat → Prop) (tb : Nat) (v : Value) (mb : Nat) (l : List It) (ps : List (Int × Int)) (w w' : World) : Prop :=
  ∃ (l' : List It) (ps' : List (Int × Int)), l'.Perm l ∧ Heap2 l' ∧ Pos l' ps' ∧ ps'.length = ps.length ∧ TmV w' ok tb v mb l' ps' ∧ Keep (TmS v mb) w w'
def UpOk (lc : List It) (k : Nat) (x : It) : Prop := 0 < k → ∀ b, lc[(k - 1) / 2]? = some b → ¬ tLt x b
/-- The lesser child of place k: at c, it is y. -/
structure Cd (lc : List It) (k c : Nat) (y : It) : Prop where
  pos : 0 < c
  par : (c - 1) / 2 = k
  at_ : lc[c]? = some y
  min : ∀ d z, 0 < d → (d - 1) / 2 = k → lc[d]? = some z → ¬ tLt z y
theorem Cd.left {lc : List It} {k : Nat} {y : It} (hy : lc[2 * k + 1]? = some y) (h : ∀ z, lc[2 * k + 2]? = some z → ¬ tLt z y) : Cd lc k (2 * k + 1) y := by
  refine ⟨by omega, by omega, hy, fun d z h0 hd hz => ?_⟩
  have : d = 2 * k + 1 ∨ d = 2 * k + 2 := by omega
  rcases this with rfl | rfl
  · rw [hy] at hz
    rw [← Option.some.inj hz]
    exact tLt_irrefl _
  · exact h z hz
theorem Cd.right {lc : List It} {k : Nat} {y z : It} (hy : lc[2 * k + 1]? = some y) (hz : lc[2 * k + 2]? = some z) (h : tLt z y) : Cd lc k (2 * k + 1 + 1) z := by
  refine ⟨by omega, by omega, hz, fun d u h0 hd hu => ?_⟩
  have : d = 2 * k + 1 ∨ d = 2 * k + 2 := by omega
  rcases this with rfl | rfl
  · rw [hy] at hu
    rw [← Option.some.inj hu]
    exact tLe_of_lt h
  · rw [hz] at hu
    rw [← Option.some.inj hu]
    exact tLt_irrefl _
theorem UpRel.down {ok : Nat → Prop} {tb : Nat} {v : Value} {mb : Nat} {l : List It} {ps : List (Int × Int)} {x : It} {xb : Nat} {w : World} {k : Nat} {wr w2 : World} {lc : List It} {pc : List (Int × Int)} (h : UpRel ok tb v mb l ps x xb w k wr lc pc)
    {c : Nat} {y : It} (hc : Cd lc k c y) (hxy : tLt y x) (h2 : TmV w2 ok tb v mb (lc.set k y) (mput pc y.1 k)) (hK : Keep (TmS v mb) wr w2) (hx : ¬ TmS v mb xb) : UpRel ok tb v mb l ps x xb w c w2 (lc.set k y) (mput pc y.1 k) ∧ UpOk (lc.set k y) c x := by
  have hcp := hc.par
  have hc0 := hc.pos
  have hp : c ≠ k := by omega
  have hlt := h.lt
  have hcl := (List.getElem?_eq_some_iff.1 hc.at_).1
  refine ⟨⟨by rw [List.length_set]; omega, by rw [List.length_set]; exact h.len, h.hole.down hlt hc.pos hc.par hc.at_ hc.min, h.pos.move hc.at_ hp hlt, (perm_swap hlt hc.at_ hp).trans h.perm, (mput_plen h.tm.map.nodup (h.pos.has_at hc.at_ hp)).trans h.plen, h2, h.keep.trans (hK.mono (fun _ _ hs => .inl hs)), (hK.block xb (blk_lt h.box) hx).trans h.box⟩, fun _ b hb => ?_⟩
  rw [hc.par, set_at hlt] at hb
  rw [← Option.some.inj hb]
  exact tLe_of_lt hxy
theorem UpRel.done {ok : Nat → Prop} {tb : Nat} {v : Value} {mb : Nat} {l : List It} {ps : List (Int × Int)} {x : It} {xb : Nat} {w : World} {k : Nat} {wr w2 : World} {lc : List It} {pc : List (Int × Int)} (h : UpRel ok tb v mb l ps x xb w k wr lc pc)
    (hu : UpOk lc k x) (hd : ∀ c a, 0 < c → (c - 1) / 2 = k → lc[c]? = some a → ¬ tLt a x) (h2 : TmV w2 ok tb v mb (lc.set k x) (mput pc x.1 k)) (hK : Keep (TmS v mb) wr w2) : DownPost ok tb v mb l ps w w2 := by
  refine ⟨_, _, h.perm, (h.hole.set x).fill (set_at h.lt) (fun hk b hb => ?_) (fun c a h0 hc ha => ?_), h.pos.fill h.lt, (mput_plen h.tm.map.nodup h.pos.has).trans h.plen, h2, h.keep.trans (hK.mono (fun _ _ hs => .inl hs))⟩
  · rw [set_off (by omega)] at hb
    exact hu hk b hb
  · rw [set_off (by omega)] at ha
    exact hd c a h0 hc ha

set_option maxHeartbeats 1600000 in
theorem down_any (w : World) (ok : Nat → Prop) (tb : Nat) (v : Value) (mb : Nat) (l : List It) (ps : List (Int × Int)) (k : Nat) (x : It) (h : TmV w ok tb v mb l ps) (hx : l[k]? = some x) (hP : Pos l ps) (hH : Hole l k) (hU : UpOk l k x) (hwf : ∀ p ∈ l, (Lit.int .i64 p.1).wf = true) (hps : ps.length < maxLen) (hl : l.length ≤ 1000000) :
    Calls Try.prog 25 #[.pointer (some ⟨tb, 0, none⟩), .int .i64 (k : Int)] w fun e w' => e = .returned (.tuple #[]) ∧ DownPost ok tb v mb l ps w w' := by
  have hk := (List.getElem?_eq_some_iff.1 hx).1
  obtain ⟨g, cap, rfl, hgl, htl, t0, e0, e1, hlc, hlm⟩ := h.cells hx
  have i0 : (0 : Int) ≤ (k : Int) := by omega
  have i1 : (k : Int) < (l.length : Int) := by omega
  have hwx := hwf x (List.mem_of_getElem? hx)
  have HX := Lib.hid hx
  have H := Lib.hid h
  have HP := Lib.hid hP
  have HH := Lib.hid hH
  have HU := Lib.hid hU
  have HW := Lib.hid hwf
  clear h hx hP hH hwf hU
  go_enter Try.func25, Try.ntmps25
  go_wp2_with fail
  obtain ⟨W0, hW0⟩ : ∃ W0, W0 = w.alloc (.cells #[.int .i64 x.1, .int .i64 x.2] 34) := ⟨_, rfl⟩
  rw [← hW0]
  have hB0 : Below w.heap.size w W0 := by rw [hW0]; exact below_alloc (Below.refl _ _) _
  have hbx : W0.heap[w.heap.size]? = some (.cells #[.int .i64 x.1, .int .i64 x.2] 34 (0, 0)) := by rw [hW0]; exact heap_alloc_new _ _
  have hT0 : TmV W0 ok tb (.slice (some ⟨g, 0, none⟩) l.length cap) mb l ps := H.out.move (fun k _ hk => hB0.block k hk)
  obtain ⟨xb, hxb⟩ : ∃ xb, xb = w.heap.size := ⟨_, rfl⟩
  rw [← hxb] at hbx ⊢
  have hnx : ¬ TmS (.slice (some ⟨g, 0, none⟩) l.length cap) mb xb := by
    rintro (e | e)
    · have := H.out.map.lt
      omega
    · have : g = xb := Option.some.inj e
      omega
  have hrel0 : UpRel ok tb (.slice (some ⟨g, 0, none⟩) l.length cap) mb l ps x xb w k W0 l ps := by
    refine ⟨hk, rfl, HH.out, HP.out.out HX.out, ?_, rfl, hT0, Keep.of_below hB0 _, hbx⟩
    have e : l.set k x = l := List.ext_getElem? (fun i => by
      by_cases hi : i = k
      · subst hi; rw [set_at hk, HX.out]
      · rw [set_off hi])
    rw [e]
  have HR0 := Lib.hid hrel0
  have HNX := Lib.hid hnx
  have HB0 := Lib.hid hB0
  have mixed : Try.prog.follows .mixedOrders = true := by kernel_rfl
  have HXB := Lib.hid hxb
  clear hrel0 hT0 hbx hB0 hnx hW0 t0 e0 e1 i0 i1 hxb hgl htl
  go_loopw [1, 5] (fun i _ wr => ∃ (kc : Nat) (lc : List It) (pc : List (Int × Int)), i = .int .i64 kc ∧ UpRel ok tb (.slice (some ⟨g, 0, none⟩) l.length cap) mb l ps x xb w kc wr lc pc ∧ UpOk lc kc x) (fun i _ _ => l.length - (intOf i).toNat)
  case atStart => exact ⟨k, l, ps, rfl, HR0.out, HU.out⟩
  case round =>
    obtain ⟨kc, lc, pc, rfl, hR, hu⟩ := hrel
    have hkc := hR.lt
    have hll := hR.len
    have hwb0 := blk_cell hR.box 0
    have hwb1 := blk_cell hR.box 1
    have hwbl := blk_lt hR.box
    simp only [List.getElem?_toArray, List.getElem?_cons_succ, List.getElem?_cons_zero] at hwb0 hwb1
    have HR := Lib.hid hR
    have HLL := Lib.hid hll
    have HUo := Lib.hid hu
    have t0 := blk_cell hR.tm.hd 0
    simp only [List.getElem?_toArray, List.getElem?_cons_zero] at t0
    have hkn : kc < l.length := by omega
    clear hR hu
    by_cases h0 : 2 * kc + 1 < l.length
    · have h0i : 2 * (kc : Int) + 1 < (l.length : Int) := by omega
      go_wp2_with fail
      obtain ⟨c1, hc1⟩ : ∃ c1, c1 = 2 * kc + 1 := ⟨_, rfl⟩
      rw [show (2 * (kc : Int) + 1) = (c1 : Int) from by omega]
      have hc1l : c1 < lc.length := by omega
      have hc1L : c1 < l.length := by omega
      obtain ⟨y1, hy1⟩ : ∃ y1, lc[c1]? = some y1 := ⟨lc[c1], by simp [hc1l]⟩
      have hwr : IntKind.i64.wrap ((c1 : Int) + 1) = (c1 : Int) + 1 := IntWalk.i64_in _ (by omega)
      obtain ⟨g', cap', hv, hgl', htl', _, e0, e1, hlc', hlm'⟩ := HR.out.tm.cells hy1
      injection hv with hv1 hv2 hv3
      injection hv1 with hv1
      injection hv1 with hv1
      subst hv1
      have HC1 := Lib.hid hc1
      have HY1 := Lib.hid hy1
      have j0 : (0 : Int) ≤ (c1 : Int) := by omega
      have j1 : (c1 : Int) < (l.length : Int) := by omega
      have hcase : (∃ y2, c1 + 1 < l.length ∧ lc[c1 + 1]? = some y2 ∧ tLt y2 y1) ∨ (∃ y2, c1 + 1 < l.length ∧ lc[c1 + 1]? = some y2 ∧ ¬ tLt y2 y1) ∨ ¬ c1 + 1 < l.length := by
        by_cases h2 : c1 + 1 < l.length
        · have h3 : c1 + 1 < lc.length := by omega
          by_cases hq : tLt lc[c1 + 1] y1
          · exact .inl ⟨_, h2, by simp [h3], hq⟩
          · exact .inr (.inl ⟨_, h2, by simp [h3], hq⟩)
        · exact .inr (.inr h2)
      have q0 := fun n os => cell_grown hwbl hwb0 n os
      have q1 := fun n os => cell_grown hwbl hwb1 n os
      have q2 := fun n os => cell_grown (a := ⟨tb, 0, none⟩) htl' t0 n os
      have q3 := fun n os => cell_grown (a := ⟨g, c1 * 2, none⟩) hgl' e0 n os
      have q4 := fun n os => cell_grown (a := ⟨g, c1 * 2 + 1, none⟩) hgl' e1 n os
      clear hc1 hy1 hv2 hv3 t0 e0 e1
      rcases hcase with ⟨y2, h2, hy2, hlt⟩ | ⟨y2, h2, hy2, hlt⟩ | h2
      case' inl =>
        have h2i : (c1 : Int) + 1 < (l.length : Int) := by omega
        have k0 : (0 : Int) ≤ (c1 : Int) + 1 := by omega
        have ho : ordI y2 y1 < 0 := (ordI_lt y2 y1).2 hlt
        obtain ⟨g', cap', hv, hgl', _, _, e0, e1, _, _⟩ := HR.out.tm.cells hy2
        injection hv with hv1 hv2 hv3
        injection hv1 with hv1
        injection hv1 with hv1
        subst hv1
        have q5 := fun n os => cell_grown (a := ⟨g, (c1 + 1) * 2, none⟩) hgl' e0 n os
        have q6 := fun n os => cell_grown (a := ⟨g, (c1 + 1) * 2 + 1, none⟩) hgl' e1 n os
        have HCd := Lib.hid (show Cd lc kc (c1 + 1) y2 by
          have e := HC1.out
          have a1 := HY1.out
          subst e
          exact Cd.right a1 hy2 hlt)
        clear hv2 hv3 e0 e1 hy2 hlt hll HLL
        refine wp_region_quiet_grown mixed (by kernel_rfl) ?_
        repeat (go_big_quiet_step ((go_at_call 30; refine Calls.grown_of (order_any _ _ _))))
        refine wpQuiet_nil ?_
        intro _ hw'
        obtain ⟨⟨nq, osq⟩, hw''⟩ := hw'
        subst hw''
        have hBg := (gr_grow wr nq osq).below
        generalize grow (wr.drewN nq) osq = wg at hBg ⊢
        clear q0 q1 q2 q3 q4 q5 q6 ho hwr j0 j1 HY1
        go_wp2_with fail
        obtain ⟨c, hc⟩ : ∃ c, c = c1 + 1 := ⟨_, rfl⟩
        rw [show ((c1 : Int) + 1) = (c : Int) from by omega]
        rw [← hc] at HCd
        have hcl : c < l.length := by omega
        obtain ⟨y, hy⟩ : ∃ y, y = y2 := ⟨_, rfl⟩
        rw [← hy] at HCd
        clear hc hy h2i k0 HC1 hc1l hc1L h2 hlc' hlm' hgl' htl'
      case' inr.inl =>
        have h2i : (c1 : Int) + 1 < (l.length : Int) := by omega
        have k0 : (0 : Int) ≤ (c1 : Int) + 1 := by omega
        have ho : ¬ ordI y2 y1 < 0 := fun h => hlt ((ordI_lt y2 y1).1 h)
        obtain ⟨g', cap', hv, hgl', _, _, e0, e1, _, _⟩ := HR.out.tm.cells hy2
        injection hv with hv1 hv2 hv3
        injection hv1 with hv1
        injection hv1 with hv1
        subst hv1
        have q5 := fun n os => cell_grown (a := ⟨g, (c1 + 1) * 2, none⟩) hgl' e0 n os
        have q6 := fun n os => cell_grown (a := ⟨g, (c1 + 1) * 2 + 1, none⟩) hgl' e1 n os
        have HCd := Lib.hid (show Cd lc kc c1 y1 by
          have e := HC1.out
          have a1 := HY1.out
          subst e
          exact Cd.left a1 (fun z hz => by rw [hy2] at hz; rw [← Option.some.inj hz]; exact hlt))
        clear hv2 hv3 e0 e1 hy2 hlt hll HLL
        refine wp_region_quiet_grown mixed (by kernel_rfl) ?_
        repeat (go_big_quiet_step ((go_at_call 30; refine Calls.grown_of (order_any _ _ _))))
        refine wpQuiet_nil ?_
        intro _ hw'
        obtain ⟨⟨nq, osq⟩, hw''⟩ := hw'
        subst hw''
        have hBg := (gr_grow wr nq osq).below
        generalize grow (wr.drewN nq) osq = wg at hBg ⊢
        clear q0 q1 q2 q3 q4 q5 q6 ho hwr j0 j1 HY1
        go_wp2_with fail
        obtain ⟨c, hc⟩ : ∃ c, c = c1 := ⟨_, rfl⟩
        rw [← hc] at HCd ⊢
        have hcl : c < l.length := by omega
        obtain ⟨y, hy⟩ : ∃ y, y = y1 := ⟨_, rfl⟩
        rw [← hy] at HCd
        clear hc hy h2i k0 HC1 hc1l hc1L h2 hlc' hlm' hgl' htl'
      case' inr.inr =>
        have h2i : ¬ (c1 : Int) + 1 < (l.length : Int) := by omega
        have HCd := Lib.hid (show Cd lc kc c1 y1 by
          have e := HC1.out
          have a1 := HY1.out
          have a2 := HLL.out
          subst e
          exact Cd.left a1 (fun z hz => by have := (List.getElem?_eq_some_iff.1 hz).1; omega))
        clear hll HLL
        refine wp_region_quiet_grown mixed (by kernel_rfl) ?_
        repeat (go_big_quiet_step ((go_at_call 30; refine Calls.grown_of (order_any _ _ _))))
        refine wpQuiet_nil ?_
        intro _ hw'
        obtain ⟨⟨nq, osq⟩, hw''⟩ := hw'
        subst hw''
        have hBg := (gr_grow wr nq osq).below
        generalize grow (wr.drewN nq) osq = wg at hBg ⊢
        clear q0 q1 q2 q3 q4 hwr j0 j1 HY1
        go_wp2_with fail
        obtain ⟨c, hc⟩ : ∃ c, c = c1 := ⟨_, rfl⟩
        rw [← hc] at HCd ⊢
        have hcl : c < l.length := by omega
        obtain ⟨y, hy⟩ : ∃ y, y = y1 := ⟨_, rfl⟩
        rw [← hy] at HCd
        clear hc hy h2i HC1 hc1l hc1L h2 hlc' hlm' hgl' htl'
      all_goals
        have hTg := HR.out.tm.move (w' := wg) (fun k _ hk => hBg.block k hk)
        have hbg := blk_below HR.out.box hBg
        have b0 := blk_cell hbg 0
        have b1 := blk_cell hbg 1
        have hbl := blk_lt hbg
        simp only [List.getElem?_toArray, List.getElem?_cons_succ, List.getElem?_cons_zero] at b0 b1
        obtain ⟨g', cap', hv, hgl', htl', t0, e0, e1, hlc', hlm'⟩ := hTg.cells HCd.out.at_
        have hlenc := HR.out.len
        rw [hlenc] at t0
        injection hv with hv1 hv2 hv3
        injection hv1 with hv1
        injection hv1 with hv1
        subst hv1 hv3
        have j0 : (0 : Int) ≤ (c : Int) := by omega
        have j1 : (c : Int) < (l.length : Int) := by omega
        have q0 := fun n os => cell_grown hbl b0 n os
        have q1 := fun n os => cell_grown hbl b1 n os
        have q2 := fun n os => cell_grown (a := ⟨tb, 0, none⟩) htl' t0 n os
        have q3 := fun n os => cell_grown (a := ⟨g, c * 2, none⟩) hgl' e0 n os
        have q4 := fun n os => cell_grown (a := ⟨g, c * 2 + 1, none⟩) hgl' e1 n os
        clear hv2 hTg hbg hlenc b0 b1 t0 e0 e1 hwb0 hwb1
        by_cases hxy : tLt y x
        · have ho : ¬ ordI x y ≤ 0 := fun h => (ordI_le x y).1 h hxy
          refine wp_region_quiet_grown mixed (by kernel_rfl) ?_
          repeat (go_big_quiet_step ((go_at_call 30; refine Calls.grown_of (order_any _ _ _))))
          refine wpQuiet_nil ?_
          intro _ hw'
          obtain ⟨⟨nq, osq⟩, hw''⟩ := hw'
          subst hw''
          have hBh := hBg.trans ((gr_grow wg nq osq).below.mono hBg.size)
          replace q2 := q2 nq osq
          replace q3 := q3 nq osq
          replace q4 := q4 nq osq
          clear q0 q1
          generalize grow (wg.drewN nq) osq = wh at hBh q2 q3 q4 ⊢
          have hT := HR.out.tm.move (w' := wh) (fun k _ hk => hBh.block k hk)
          have hwy := HW.out y (HR.out.mem_of HCd.out.at_ (by have := HCd.out.pos; have := HCd.out.par; omega))
          have HP2 := Lib.hid (put_any wh ok tb _ mb lc pc kc y hT hkc hwy (by rw [HR.out.plen]; exact hps))
          clear hT
          go_wp2_with fail
          refine Calls.mono HP2.out ?_
          rintro e w2 ⟨rfl, hT2, hK2⟩
          have hr2 := HR.out.down HCd.out hxy hT2 (Keep.after hBh hK2) HNX.out
          have HR2 := Lib.hid hr2
          have hpar := HCd.out.par
          have hpos := HCd.out.pos
          clear hr2 hT2 hK2
          go_wp2_with fail
          refine ⟨⟨c, _, _, rfl, HR2.out.1, HR2.out.2⟩, ?_⟩
          simp [intOf]
          omega
        · have ho : ordI x y ≤ 0 := (ordI_le x y).2 hxy
          refine wp_region_quiet_grown mixed (by kernel_rfl) ?_
          repeat (go_big_quiet_step ((go_at_call 30; refine Calls.grown_of (order_any _ _ _))))
          refine wpQuiet_nil ?_
          intro _ hw'
          obtain ⟨⟨nq, osq⟩, hw''⟩ := hw'
          subst hw''
          have hBh := hBg.trans ((gr_grow wg nq osq).below.mono hBg.size)
          replace q0 := q0 nq osq
          replace q1 := q1 nq osq
          clear q2 q3 q4
          generalize grow (wg.drewN nq) osq = wh at hBh q0 q1 ⊢
          have hT := HR.out.tm.move (w' := wh) (fun k _ hk => hBh.block k hk)
          have HP2 := Lib.hid (put_any wh ok tb _ mb lc pc kc x hT hkc hwx (by rw [HR.out.plen]; exact hps))
          clear hT
          go_wp2_with fail
          refine Calls.mono HP2.out ?_
          rintro e w2 ⟨rfl, hT2, hK2⟩
          go_wp2_with fail
          go_end0
          exact ⟨rfl, HR.out.done HUo.out (fun d a h0 hd ha => tLe_trans hxy (HCd.out.min d a h0 hd ha)) hT2 (Keep.after hBh hK2)⟩
    · have h0i : ¬ 2 * (kc : Int) + 1 < (l.length : Int) := by omega
      clear hll
      go_wp2_with fail
      refine Calls.mono (put_any wr ok tb _ mb lc pc kc x HR.out.tm hkc hwx (by rw [HR.out.plen]; exact hps)) ?_
      rintro e w2 ⟨rfl, hT2, hK2⟩
      go_wp2_with fail
      go_end0
      refine ⟨rfl, HR.out.done HUo.out (fun c a hc0 hc ha => ?_) hT2 hK2⟩
      have := (List.getElem?_eq_some_iff.1 ha).1
      rw [HLL.out] at this
      omega
end Go.Proofs.Ytihmblkfbcnllaa
