/- (*Timer).up and .down by their contracts. -/
import Derived.Test.YtihmblkfbcnllaaTmOrd
namespace Go.Proofs.Ytihmblkfbcnllaa
open Go.RowKit Go.Sort Go.BigFrame Go.Proofs.YtihmblkfbcnllaaW.PrintWords

/-- What a timer's call may turn: its map, its row. -/
def TmS (v : Value) (mb : Nat) : Nat → Prop := fun k => k = mb ∨ v.ownBlock = some k
def UpPost (ok : Nat → Prop) (tb : Nat) (v : Value) (mb : Nat) (l : List It) (ps : List (Int × Int)) (x : It) (w w' : World) : Prop :=
  ∃ (l' : List It) (ps' : List (Int × Int)) (k' : Nat), l'.Perm l ∧ Hole l' k' ∧ l'[k']? = some x ∧ (0 < k' → ∀ b, l'[(k' - 1) / 2]? = some b → ¬ tLt x b) ∧ Pos l' ps' ∧ ps'.length = ps.length ∧ TmV w' ok tb v mb l' ps' ∧ Keep (TmS v mb) w w'
structure UpRel (ok : Nat → Prop) (tb : Nat) (v : Value) (mb : Nat) (l : List It) (ps : List (Int × Int)) (x : It) (xb : Nat) (w : World) (k : Nat) (wr : World) (lc : List It) (pc : List (Int × Int)) : Prop where
  lt : k < lc.length
  len : lc.length = l.length
  hole : Hole lc k
  pos : PosB lc pc k x
  perm : (lc.set k x).Perm l
  plen : pc.length = ps.length
  tm : TmV wr ok tb v mb lc pc
  keep : Keep (TmS v mb) w wr
  box : wr.heap[xb]? = some (.cells #[.int .i64 x.1, .int .i64 x.2] 34 (0, 0))
theorem mput_plen {ps : List (Int × Int)} (hn : (ps.map (·.1)).Nodup) {a x : Int} (h : (mget ps a).isSome = true) : (mput ps a x).length = ps.length := by
  rw [mput_length hn, h]
  rfl
theorem UpRel.up {ok : Nat → Prop} {tb : Nat} {v : Value} {mb : Nat} {l : List It} {ps : List (Int × Int)} {x : It} {xb : Nat} {w : World} {k : Nat} {wr w2 : World} {lc : List It} {pc : List (Int × Int)} (h : UpRel ok tb v mb l ps x xb w k wr lc pc)
    (hk0 : 0 < k) {y : It} (hy : lc[(k - 1) / 2]? = some y) (h2 : TmV w2 ok tb v mb (lc.set k y) (mput pc y.1 k)) (hK : Keep (TmS v mb) wr w2) (hx : ¬ TmS v mb xb) : UpRel ok tb v mb l ps x xb w ((k - 1) / 2) w2 (lc.set k y) (mput pc y.1 k) := by
  have hp : (k - 1) / 2 ≠ k := by omega
  have hlt := h.lt
  refine ⟨by rw [List.length_set]; omega, by rw [List.length_set]; exact h.len, h.hole.up hk0 hlt hy, h.pos.move hy hp hlt, (perm_swap hlt hy hp).trans h.perm, (mput_plen h.tm.map.nodup (h.pos.has_at hy hp)).trans h.plen, h2, h.keep.trans (hK.mono (fun _ _ hs => .inl hs)), ?_⟩
  exact (hK.block xb (blk_lt h.box) hx).trans h.box
theorem UpRel.mem_of {ok : Nat → Prop} {tb : Nat} {v : Value} {mb : Nat} {l : List It} {ps : List (Int × Int)} {x : It} {xb : Nat} {w : World} {k : Nat} {wr : World} {lc : List It} {pc : List (Int × Int)} (h : UpRel ok tb v mb l ps x xb w k wr lc pc) {p : Nat} {y : It} (hy : lc[p]? = some y) (hp : p ≠ k) : y ∈ l := by
  have : (lc.set k x)[p]? = some y := by rw [set_off hp, hy]
  exact h.perm.mem_iff.1 (List.mem_of_getElem? this)
theorem UpRel.fill {ok : Nat → Prop} {tb : Nat} {v : Value} {mb : Nat} {l : List It} {ps : List (Int × Int)} {x : It} {xb : Nat} {w : World} {k : Nat} {wr w2 : World} {lc : List It} {pc : List (Int × Int)} (h : UpRel ok tb v mb l ps x xb w k wr lc pc)
    (hu : 0 < k → ∀ y, lc[(k - 1) / 2]? = some y → ¬ tLt x y) (h2 : TmV w2 ok tb v mb (lc.set k x) (mput pc x.1 k)) (hK : Keep (TmS v mb) wr w2) : UpPost ok tb v mb l ps x w w2 := by
  refine ⟨_, _, k, h.perm, h.hole.set x, set_at h.lt, fun hk b hb => ?_, h.pos.fill h.lt, (mput_plen h.tm.map.nodup h.pos.has).trans h.plen, h2, h.keep.trans (hK.mono (fun _ _ hs => .inl hs))⟩
  rw [set_off (by omega)] at hb
  exact hu hk b hb
/-- The cells of a timer's block, and of one element of its row. -/
theorem TmV.cells {w : World} {ok : Nat → Prop} {tb : Nat} {v : Value} {mb : Nat} {l : List It} {ps : List (Int × Int)} (h : TmV w ok tb v mb l ps) {k : Nat} {y : It} (hy : l[k]? = some y) :
    ∃ g cap, v = .slice (some ⟨g, 0, none⟩) l.length cap ∧ g < w.heap.size ∧ tb < w.heap.size ∧ w.cell? ⟨tb, 0, none⟩ = some (.slice (some ⟨g, 0, none⟩) l.length cap) ∧ w.cell? ⟨g, k * 2, none⟩ = some (.int .i64 y.1) ∧ w.cell? ⟨g, k * 2 + 1, none⟩ = some (.int .i64 y.2) ∧ l.length ≤ cap ∧ l.length ≤ 9223372036854775807 := by
  have hk := (List.getElem?_eq_some_iff.1 hy).1
  obtain ⟨g, cap, rfl, _, hgl, cells, hg⟩ := Kd.R_form h.row (by omega)
  obtain ⟨c, hcl, hM, hcc, hcf⟩ := Kd.R_elem h.row (0, 0) (k : Int) (by omega) (by omega)
  have hc := KIt_cells hM
  subst hc
  have hgd : l.getD (k : Int).toNat (0, 0) = y := by rw [Int.toNat_natCast, List.getD_eq_getElem?_getD, hy]; rfl
  rw [hgd] at hcc
  have hsz : KIt.sz = 2 := rfl
  rw [hsz] at hcc
  simp only [Int.toNat_natCast] at hcc
  have t0 := blk_cell h.hd 0
  obtain ⟨_, hcap, hC⟩ := Kd.R_reads' h.row
  exact ⟨g, cap, rfl, hgl, blk_lt h.hd, t0, hcc 0 _ rfl, hcc 1 _ rfl, hcap, Kd.C_max hC⟩

theorem Keep.undrewN {S : Nat → Prop} {w w' : World} {n : Nat} (h : Keep S (w.drewN n) w') : Keep S w w' := ⟨h.os, h.tape, h.output, h.size, h.block⟩
theorem gr_grow (w : World) (n : Nat) (os : Array Obj) : Gr w (grow (w.drewN n) os) := ⟨n, os, rfl⟩
theorem Keep.after {S : Nat → Prop} {w w1 w2 : World} (hb : Below w.heap.size w w1) (h : Keep S w1 w2) : Keep S w w2 := (Keep.of_below hb S).trans (h.mono (fun _ _ hs => .inl hs))

set_option maxHeartbeats 800000 in
theorem up_any (w : World) (ok : Nat → Prop) (tb : Nat) (v : Value) (mb : Nat) (l : List It) (ps : List (Int × Int)) (k : Nat) (x : It) (h : TmV w ok tb v mb l ps) (hx : l[k]? = some x) (hP : Pos l ps) (hH : Hole l k) (hwf : ∀ p ∈ l, (Lit.int .i64 p.1).wf = true) (hps : ps.length < maxLen) :
    Calls Try.prog 24 #[.pointer (some ⟨tb, 0, none⟩), .int .i64 (k : Int)] w fun e w' => e = .returned (.tuple #[]) ∧ UpPost ok tb v mb l ps x w w' := by
  have hk := (List.getElem?_eq_some_iff.1 hx).1
  obtain ⟨g, cap, rfl, hgl, htl, t0, e0, e1, hlc, hlm⟩ := h.cells hx
  have i0 : (0 : Int) ≤ (k : Int) := by omega
  have i1 : (k : Int) < (l.length : Int) := by omega
  have hwx := hwf x (List.mem_of_getElem? hx)
  have HX := Lib.hid hx
  have H := Lib.hid h
  have HP := Lib.hid hP
  have HH := Lib.hid hH
  have HW := Lib.hid hwf
  clear h hx hP hH hwf
  go_enter Try.func24, Try.ntmps24
  go_wp2_with fail
  obtain ⟨W0, hW0⟩ : ∃ W0, W0 = w.alloc (.cells #[.int .i64 x.1, .int .i64 x.2] 34) := ⟨_, rfl⟩
  rw [← hW0]
  have hB0 : Below w.heap.size w W0 := by rw [hW0]; exact below_alloc (Below.refl _ _) _
  have hbx : W0.heap[w.heap.size]? = some (.cells #[.int .i64 x.1, .int .i64 x.2] 34 (0, 0)) := by rw [hW0]; exact heap_alloc_new _ _
  have hT0 : TmV W0 ok tb (.slice (some ⟨g, 0, none⟩) l.length cap) mb l ps := H.out.move (fun k _ hk => hB0.block k hk)
  obtain ⟨xb, hxb⟩ : ∃ xb, xb = w.heap.size := ⟨_, rfl⟩
  rw [← hxb] at hbx ⊢
  have hnx : ¬ TmS (.slice (some ⟨g, 0, none⟩) l.length cap) mb xb := by
    rintro (e | e)
    · have := H.out.map.lt
      omega
    · have : g = xb := Option.some.inj e
      omega
  have hrel0 : UpRel ok tb (.slice (some ⟨g, 0, none⟩) l.length cap) mb l ps x xb w k W0 l ps := by
    refine ⟨hk, rfl, HH.out, HP.out.out HX.out, ?_, rfl, hT0, Keep.of_below hB0 _, hbx⟩
    have e : l.set k x = l := List.ext_getElem? (fun i => by
      by_cases hi : i = k
      · subst hi; rw [set_at hk, HX.out]
      · rw [set_off hi])
    rw [e]
  have HR0 := Lib.hid hrel0
  have HNX := Lib.hid hnx
  have HB0 := Lib.hid hB0
  have HXB := Lib.hid hxb
  clear hrel0 hT0 hbx hB0 hnx hW0 t0 e0 e1 i0 i1 hxb hgl htl
  go_loopw [1] (fun i wr => ∃ (kc : Nat) (lc : List It) (pc : List (Int × Int)), i = .int .i64 kc ∧ UpRel ok tb (.slice (some ⟨g, 0, none⟩) l.length cap) mb l ps x xb w kc wr lc pc) (fun i _ => (intOf i).toNat)
  case atStart => exact ⟨k, l, ps, rfl, HR0.out⟩
  case round =>
    obtain ⟨kc, lc, pc, rfl, hR⟩ := hrel
    have hkc := hR.lt
    have hll := hR.len
    have hwb0 := blk_cell hR.box 0
    have hwb1 := blk_cell hR.box 1
    have hwbl := blk_lt hR.box
    simp only [List.getElem?_toArray, List.getElem?_cons_succ, List.getElem?_cons_zero] at hwb0 hwb1
    have HR := Lib.hid hR
    have HLL := Lib.hid hll
    clear hR
    by_cases h0 : kc = 0
    · subst h0
      rw [show ((0 : Nat) : Int) = 0 from rfl]
      go_wp2_with fail
      go_quiet (fail)
      go_wp2_with fail
      have hp := put_any (wr.drewN nq) ok tb _ mb lc pc 0 x (HR.out.tm.move (fun _ _ _ => rfl)) hkc hwx (by rw [HR.out.plen]; exact hps)
      rw [show ((0 : Nat) : Int) = 0 from rfl] at hp
      refine Calls.mono hp ?_
      clear hp
      rintro e w2 ⟨rfl, hT2, hK2⟩
      go_wp2_with fail
      go_end0
      refine ⟨rfl, ?_⟩
      obtain ⟨l', ps', k', h1, h2, h3, h4, h5, h6, h7, h8⟩ := HR.out.fill (fun h => absurd h (Nat.lt_irrefl 0)) hT2 hK2.undrewN
      exact ⟨l', ps', k', h1, h2, h3, h4, h5, h6, h7, h8⟩
    · obtain ⟨kk, rfl⟩ : ∃ kk, kc = kk + 1 := ⟨kc - 1, by omega⟩
      have hpl : kk / 2 < lc.length := by omega
      obtain ⟨y, hy⟩ : ∃ y, lc[kk / 2]? = some y := ⟨lc[kk / 2], by simp [hpl]⟩
      obtain ⟨g', cap', hv, hgl', htl', t0, e0, e1, hlc', hlm'⟩ := HR.out.tm.cells hy
      injection hv with hv1 hv2 hv3
      injection hv1 with hv1
      injection hv1 with hv1
      subst hv1 hv3
      rw [hll] at t0
      have i0 : (0 : Int) ≤ (kk : Int) / 2 := by omega
      have i1 : (kk : Int) / 2 < (l.length : Int) := by omega
      have hg0 : (0 : Int) < (kk : Int) + 1 := by omega
      have HY := Lib.hid hy
      have q0 := fun n os => cell_grown hwbl hwb0 n os
      have q1 := fun n os => cell_grown hwbl hwb1 n os
      have q2 := fun n os => cell_grown (a := ⟨tb, 0, none⟩) htl' t0 n os
      have q3 := fun n os => cell_grown (a := ⟨g, kk / 2 * 2, none⟩) hgl' e0 n os
      have q4 := fun n os => cell_grown (a := ⟨g, kk / 2 * 2 + 1, none⟩) hgl' e1 n os
      clear hy hll hv2
      have mixed : Try.prog.follows .mixedOrders = true := by kernel_rfl
      by_cases hlt : tLt x y
      · have ho : ordI x y < 0 := (ordI_lt x y).2 hlt
        go_wp2_with fail
        refine wp_region_quiet_grown mixed (by kernel_rfl) ?_
        repeat (go_big_quiet_step ((go_at_call 30; refine Calls.grown_of (order_any _ _ _))))
        refine wpQuiet_nil ?_
        intro _ hw'
        obtain ⟨⟨nq, osq⟩, hw''⟩ := hw'
        subst hw''
        have hGr := gr_grow wr nq osq
        replace q2 := q2 nq osq
        replace q3 := q3 nq osq
        replace q4 := q4 nq osq
        clear q0 q1 hwb0 hwb1 t0 e0 e1 hwbl
        generalize grow (wr.drewN nq) osq = wg at *
        have hT := HR.out.tm.move (w' := wg) (fun k _ hk => hGr.below.block k hk)
        have hwy := HW.out y (HR.out.mem_of HY.out (by omega))
        have hp := put_any wg ok tb _ mb lc pc (kk + 1) y hT hkc hwy (by rw [HR.out.plen]; exact hps)
        rw [show ((kk + 1 : Nat) : Int) = (kk : Int) + 1 from rfl] at hp
        have HP2 := Lib.hid hp
        clear hp hT
        go_wp2_with fail
        refine Calls.mono HP2.out ?_
        rintro e w2 ⟨rfl, hT2, hK2⟩
        have hr2 := HR.out.up (by omega) HY.out hT2 (Keep.after hGr.below hK2) HNX.out
        have HR2 := Lib.hid hr2
        clear hr2 hT2 hK2
        go_wp2_with fail
        refine ⟨⟨kk / 2, _, _, by simp, HR2.out⟩, ?_⟩
        simp [intOf]
        omega
      · have ho : ¬ ordI x y < 0 := fun h => hlt ((ordI_lt x y).1 h)
        go_wp2_with fail
        refine wp_region_quiet_grown mixed (by kernel_rfl) ?_
        repeat (go_big_quiet_step ((go_at_call 30; refine Calls.grown_of (order_any _ _ _))))
        refine wpQuiet_nil ?_
        intro _ hw'
        obtain ⟨⟨nq, osq⟩, hw''⟩ := hw'
        subst hw''
        have hGr := gr_grow wr nq osq
        replace q0 := q0 nq osq
        replace q1 := q1 nq osq
        clear q2 q3 q4 hwb0 hwb1 t0 e0 e1 hwbl
        generalize grow (wr.drewN nq) osq = wg at *
        have hT := HR.out.tm.move (w' := wg) (fun k _ hk => hGr.below.block k hk)
        have hp := put_any wg ok tb _ mb lc pc (kk + 1) x hT hkc hwx (by rw [HR.out.plen]; exact hps)
        rw [show ((kk + 1 : Nat) : Int) = (kk : Int) + 1 from rfl] at hp
        have HP2 := Lib.hid hp
        clear hp hT
        go_wp2_with fail
        refine Calls.mono HP2.out ?_
        rintro e w2 ⟨rfl, hT2, hK2⟩
        go_wp2_with fail
        go_end0
        refine ⟨rfl, ?_⟩
        obtain ⟨l', ps', k', h1, h2, h3, h4, h5, h6, h7, h8⟩ := HR.out.fill (fun _ z hz => by
          have hz : lc[kk / 2]? = some z := hz
          rw [HY.out] at hz
          rw [← Option.some.inj hz]
          exact hlt) hT2 (Keep.after hGr.below hK2)
        exact ⟨l', ps', k', h1, h2, h3, h4, h5, h6, h7, h8⟩
end Go.Proofs.Ytihmblkfbcnllaa
