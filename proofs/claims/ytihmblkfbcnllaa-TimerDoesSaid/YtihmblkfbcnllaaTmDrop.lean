/- (*Timer).Drop by its contract. -/
import Derived.Test.YtihmblkfbcnllaaTmSet2
namespace Go.Proofs.Ytihmblkfbcnllaa
open Go.RowKit Go.Maps Go.Proofs.YtihmblkfbcnllaaW.PrintWords

theorem TmOk.of_drop {l l3 : List It} {ps3 : List (Int × Int)} {s : List It} {id : Int} (hr : tRow s) (hwf : ∀ p ∈ s, (Lit.int .i64 p.1).wf = true) (hl : l.Perm (tDrop s id)) (h1 : l3.Perm l) (h2 : Pos l3 ps3) (h3 : Heap2 l3) : TmOk l3 ps3 (tDrop s id) :=
  ⟨h2, h3, h1.trans hl, (tDrop_row hr id).1, fun p hp => hwf p (List.mem_filter.1 hp).1⟩
theorem tDrop_none {s : List It} {id : Int} (h : ∀ p ∈ s, p.1 ≠ id) : tDrop s id = s := drop_none h
def hasId (s : List It) (id : Int) : Bool := s.any (fun p => decide (p.1 = id))
theorem hasId_false {s : List It} {id : Int} (h : ∀ p ∈ s, p.1 ≠ id) : hasId s id = false := by
  unfold hasId
  rw [List.any_eq_false]
  intro p hp
  simpa using h p hp
theorem hasId_true {s : List It} {id t : Int} (h : (id, t) ∈ s) : hasId s id = true := by
  unfold hasId
  rw [List.any_eq_true]
  exact ⟨_, h, by simp⟩

set_option maxHeartbeats 1600000 in
theorem timerDrop_any (w : World) (ok : Nat → Prop) (tb : Nat) (s : List It) (id : Int) (h : TmAt w ok tb s) (hw : (Lit.int .i64 id).wf = true) (hs : s.length ≤ 1000000) :
    Calls Try.prog 11 #[.pointer (some ⟨tb, 0, none⟩), .int .i64 id] w fun e w' => e = .returned (.bool (hasId s id)) ∧ TmAt w' ok tb (tDrop s id) ∧ Keep ok w w' := by
  have hA := h
  obtain ⟨v, mb, l, ps, hT, hO⟩ := h
  have hlk := hT.look hw
  cases hj : mget ps id with
  | none =>
    rw [hj] at hlk
    have hlk : (Instr.lookup 53 (.map (some mb)) (.int .i64 id) true).run Try.prog w = .ok (.tuple #[.int .i64 0, .bool false]) w := hlk
    rw [hasId_false (hO.not hj), tDrop_none (hO.not hj)]
    obtain ⟨t0, t1, htl⟩ := hT.tcells
    have HA := Lib.hid hA
    clear hT hO hj hA
    go_enter Try.func11, Try.ntmps11
    go_wp2
    go_ret
    exact ⟨rfl, HA.out, Keep.refl _ _⟩
  | some j =>
    obtain ⟨m, t, rfl, hm, hml, hms⟩ := hO.there hj
    rw [hj] at hlk
    have hlk : (Instr.lookup 53 (.map (some mb)) (.int .i64 id) true).run Try.prog w = .ok (.tuple #[.int .i64 (m : Int), .bool true]) w := hlk
    rw [hasId_true hms]
    have hll : l.length = s.length := hO.perm.length_eq
    obtain ⟨n, hn⟩ : ∃ n, l.length = n + 1 := ⟨l.length - 1, by omega⟩
    obtain ⟨y, hy⟩ : ∃ y, l[n]? = some y := ⟨l[n]'(by omega), List.getElem?_eq_getElem (by omega)⟩
    have t1 := hT.tcells.2.1
    obtain ⟨g, cap, rfl, hgl, htl, t0, e0, e1, hlc, hlm⟩ := hT.cells hy
    rw [hn] at t0 hlc hlm hT
    have i0 : (0 : Int) ≤ (n : Int) := by omega
    have i1 : (n : Int) < ((n + 1 : Nat) : Int) := by omega
    have hwr : IntKind.i64.wrap (((n + 1 : Nat) : Int) - 1) = (n : Int) := by rw [IntWalk.i64_in _ (by omega)]; omega
    have f0 := blk_frozen hT.hd 0
    obtain ⟨ii, hi, _, hz1, _⟩ := info_parts info_item
    have hcut := run_take (P := Try.prog) 41 34 Try.underlying41 hi (some ⟨g, 0, none⟩) (n + 1) cap n (by omega) hlc
    have HT := Lib.hid hT
    have HO := Lib.hid hO
    have HJ := Lib.hid hj
    have HM := Lib.hid hm
    have HY := Lib.hid hy
    have HN := Lib.hid hn
    have HLL := Lib.hid hll
    clear hT hO hj hm hy hn hll hA hi hz1 hms
    go_enter Try.func11, Try.ntmps11
    go_wp2_with fail
    go_region
    obtain ⟨lb, hlb⟩ : ∃ lb, lb = w.heap.size := ⟨_, rfl⟩
    obtain ⟨W1, hW1⟩ : ∃ W1, W1 = (w.alloc (.cells #[.int .i64 y.1, .int .i64 y.2] 34)).drew := ⟨_, rfl⟩
    rw [← hW1, ← hlb]
    have hB1 : Below w.heap.size w W1 := by rw [hW1]; exact below_drew (below_alloc (Below.refl _ _) _)
    have hbx1 : W1.heap[lb]? = some (.cells #[.int .i64 y.1, .int .i64 y.2] 34 (0, 0)) := by rw [hW1, hlb]; exact heap_alloc_new _ _
    have hT1 : TmV W1 ok tb (.slice (some ⟨g, 0, none⟩) (n + 1) cap) mb l ps := HT.out.move (fun k _ hk => hB1.block k hk)
    have hlt : lb ≠ tb := by omega
    have HB1 := Lib.hid hB1
    have HT1 := Lib.hid hT1
    have HX1 := Lib.hid hbx1
    have HLB := Lib.hid hlb
    have t0 := hT1.tcells.1
    have t1 := hT1.tcells.2.1
    have f0 := blk_frozen hT1.hd 0
    clear hlb hW1 hB1 hbx1 hT1 e0 e1 hlk i0 i1 t0 t1 f0
    have t0 := HT1.out.tcells.1
    have t1 := HT1.out.tcells.2.1
    have f0 := blk_frozen HT1.out.hd 0
    go_wp2_with fail
    go_region
    have hmlt : mb < W1.heap.size := HT1.out.map.lt
    obtain ⟨W2, hW2⟩ : ∃ W2, W2 = (W1.setCell ⟨tb, 0, none⟩ (.slice (some ⟨g, 0, none⟩) n cap)).drew := ⟨_, rfl⟩
    rw [← hW2]
    have hm2 : ∀ k, k ≠ tb → W2.heap[k]? = W1.heap[k]? := fun k hk => by rw [hW2]; exact Below.heap_setCell W1 _ _ k hk
    have hT2 : TmV W2 ok tb (.slice (some ⟨g, 0, none⟩) n cap) mb (l.take n) ps := by
      refine ⟨by rw [hW2]; exact blk_set HT1.out.hd 0 _, ?_, HT1.out.map.move (hm2 mb HT1.out.ne), HT1.out.oktb, HT1.out.okmb⟩
      exact Kd.R_step (Kd.R_take HT1.out.row (by rw [HN.out]; omega)) (fun k hk _ => hm2 k hk.2.1)
    have hbx2 : W2.heap[lb]? = some (.cells #[.int .i64 y.1, .int .i64 y.2] 34 (0, 0)) := (hm2 lb hlt).trans HX1.out
    have hlm2 : lb ≠ mb := Ne.symm (hT2.map.ne_cells hbx2)
    have hsz2 : W2.heap.size = W1.heap.size := by rw [hW2]; simp [World.setCell]
    have hK2 : Keep ok w W2 := by
      refine ⟨?_, ?_, ?_, by rw [hsz2]; exact HB1.out.size, fun k h1 h2 => (hm2 k (fun e => h2 (e ▸ HT1.out.oktb))).trans (HB1.out.block k h1)⟩
      · rw [hW2]; exact HB1.out.os
      · rw [hW2]; exact HB1.out.tape
      · rw [hW2]; exact HB1.out.output
    have HT2 := Lib.hid hT2
    have HX2 := Lib.hid hbx2
    have HK2 := Lib.hid hK2
    have t1 := hT2.tcells.2.1
    clear hW2 hm2 hT2 hbx2 hsz2 hK2 t0 f0 hmlt
    go_wp2_with (at_delete; refine wpList_del_at HT2.out.map rfl _ _ _ _ rfl under_map rfl id rfl hw ?_; intro w3 hM3 hB3; have HM3 := Lib.hid hM3; have HB3 := Lib.hid hB3; have b0 := blk_cell (hB3.blk HX2.out hlm2) 0; have b1 := blk_cell (hB3.blk HX2.out hlm2) 1; simp only [List.getElem?_toArray, List.getElem?_cons_succ, List.getElem?_cons_zero] at b0 b1; clear hM3 hB3)
    · have hyi : y.1 = id := by assumption
      have hmn : m = n := HO.out.pos.inj HM.out HY.out hyi.symm
      have hT3 : TmV w3 ok tb (.slice (some ⟨g, 0, none⟩) n cap) mb (l.take n) (mdel ps id) :=
        ⟨HB3.out.blk HT2.out.hd (Ne.symm HT2.out.ne), Kd.R_step HT2.out.row (fun k hk _ => HB3.out.2.2.2.2 k hk.2.2), HM3.out, HT2.out.oktb, HT2.out.okmb⟩
      have hP : Pos (l.take n) (mdel ps id) := by rw [← hyi]; exact HO.out.pos.take HN.out HY.out
      have hpm : (l.take n).Perm (tDrop s id) := by
        have e : tDrop l id = l.eraseIdx m := drop_of_pos HO.out.pos.nodup HM.out
        have e2 : l.eraseIdx m = l.take n := by
          rw [hmn, List.eraseIdx_eq_take_drop_succ, List.drop_eq_nil_of_le (by rw [HN.out]; omega), List.append_nil]
        rw [← e2, ← e]
        exact HO.out.perm.filter _
      go_ret
      exact ⟨rfl, ⟨_, mb, _, _, hT3, TmOk.of_drop ⟨HO.out.row, HO.out.nodup⟩ HO.out.wf hpm (List.Perm.refl _) hP (HO.out.heap.take n)⟩, HK2.out.trans (HB3.out.keep (.inl HT2.out.okmb))⟩
    · have hyi : ¬ y.1 = id := by assumption
      have hmn : m ≠ n := fun e => by
        have h1 := HM.out
        rw [e, HY.out] at h1
        exact hyi (by rw [Option.some.inj h1])
      have hT3 : TmV w3 ok tb (.slice (some ⟨g, 0, none⟩) n cap) mb (l.take n) (mdel ps id) :=
        ⟨HB3.out.blk HT2.out.hd (Ne.symm HT2.out.ne), Kd.R_step HT2.out.row (fun k hk _ => HB3.out.2.2.2.2 k hk.2.2), HM3.out, HT2.out.oktb, HT2.out.okmb⟩
      have hln : (l.take n).length = n := by rw [List.length_take, HN.out]; omega
      have hml2 : m < (l.take n).length := by rw [hln]; have := HN.out; omega
      have hwy : (Lit.int .i64 y.1).wf = true := HO.out.wf y (HO.out.perm.mem_iff.1 (List.mem_of_getElem? HY.out))
      have hlp : (mdel ps id).length < maxLen := by
        have h1 := mdel_length HT.out.map.nodup id
        have h2 := HO.out.pos.length HT.out.map.nodup
        have h3 := HLL.out
        unfold maxLen
        omega
      refine Calls.mono (put_any w3 ok tb _ mb (l.take n) (mdel ps id) m y hT3 hml2 hwy hlp) ?_
      rintro e w4 ⟨rfl, hT4, hK4⟩
      have hP1 : Pos ((l.take n).set m y) (mput (mdel ps id) y.1 m) := HO.out.pos.swapOut HN.out HY.out HM.out hmn
      have hH1 : Hole ((l.take n).set m y) m := ((HO.out.heap.take n).hole m).set _
      have hx1 : ((l.take n).set m y)[m]? = some y := set_at hml2
      have hpm : ((l.take n).set m y).Perm (tDrop s id) := by
        have e : tDrop l id = l.eraseIdx m := drop_of_pos HO.out.pos.nodup HM.out
        refine (eraseIdx_set_perm HN.out HY.out (by omega)).trans ?_
        rw [← e]
        exact HO.out.perm.filter _
      have hw1 : ∀ p ∈ (l.take n).set m y, (Lit.int .i64 p.1).wf = true := fun p hp => HO.out.wf p (List.mem_filter.1 (hpm.mem_iff.1 hp)).1
      have hl1 : (mput (mdel ps id) y.1 m).length < maxLen := by
        rw [hP1.length hT4.map.nodup, List.length_set, hln]; unfold maxLen; have := HN.out; have := HLL.out; omega
      have hll1 : ((l.take n).set m y).length ≤ 1000000 := by rw [List.length_set, hln]; have := HN.out; have := HLL.out; omega
      have hnx : ¬ TmS (.slice (some ⟨g, 0, none⟩) n cap) mb lb := by
        rintro (e | e)
        · exact hlm2 e
        · have : g = lb := Option.some.inj e
          have := HLB.out
          omega
      have hX3 := HB3.out.blk HX2.out hlm2
      have hX4 := (hK4.block lb (blk_lt hX3) hnx).trans hX3
      have HX4 := Lib.hid hX4
      have HNX := Lib.hid hnx
      have HT4 := Lib.hid hT4
      have HK4 := Lib.hid ((HK2.out.trans (HB3.out.keep (.inl HT2.out.okmb))).trans ((hT3.toKeep hK4).mono (fun _ _ h => .inl h)))
      have HP1 := Lib.hid hP1
      have HX1' := Lib.hid hx1
      have HH1 := Lib.hid hH1
      have HW1 := Lib.hid hw1
      have HPE := Lib.hid hpm
      clear hT3 hT4 hK4 hP1 hx1 hH1 hw1 hpm hX3 hX4 hnx b0 b1 hyi t1 hln hml2
      generalize (l.take n).set m y = l1 at *
      generalize mput (mdel ps id) y.1 (m : Int) = ps1 at *
      go_wp2_with fail
      refine Calls.mono (up_any w4 ok tb _ mb l1 ps1 m y HT4.out HX1'.out HP1.out HH1.out HW1.out hl1) ?_
      rintro e w5 ⟨rfl, l2, ps2, k2, q1, q2, q3, q4, q5, q6, q7, q8⟩
      have hlk2 := q7.look1 hwy
      have hg2 : mget ps2 y.1 = some (k2 : Int) := (q5 y.1 k2).2 ⟨k2, rfl, by rw [q3]; rfl⟩
      rw [hg2] at hlk2
      have hlk2 : (Instr.lookup 53 (.map (some mb)) (.int .i64 y.1) false).run Try.prog w5.drew = .ok (.int .i64 (k2 : Int)) w5.drew := by
        have h := (q7.move (w' := w5.drew) (fun _ _ _ => rfl)).look1 hwy
        rw [hg2] at h
        exact h
      have t1 := q7.tcells.2.1
      have htl5 := q7.tcells.2.2
      have hX5 := (q8.block lb (blk_lt HX4.out) HNX.out).trans HX4.out
      have b0 := blk_cell hX5 0
      simp only [List.getElem?_toArray, List.getElem?_cons_zero] at b0
      have hw2 : ∀ p ∈ l2, (Lit.int .i64 p.1).wf = true := fun p hp => HW1.out p (q1.mem_iff.1 hp)
      have hl2 : ps2.length < maxLen := by rw [q6]; exact hl1
      have hll2 : l2.length ≤ 1000000 := by rw [q1.length_eq]; exact hll1
      have Q := Lib.hid (And.intro q1 (And.intro q2 (And.intro q3 (And.intro q4 (And.intro q5 q7)))))
      have HW2 := Lib.hid hw2
      have HK5 := Lib.hid (HK4.out.trans ((HT4.out.toKeep q8).mono (fun _ _ h => .inl h)))
      clear q1 q2 q3 q4 q5 q6 q7 q8 hg2 hw2 hX5
      go_wp2_with fail
      go_region_with ((go_at_call 25; refine Calls.mono (down_any _ ok tb _ mb l2 ps2 k2 y (Q.out.2.2.2.2.2.move (fun _ _ _ => rfl)) Q.out.2.2.1 Q.out.2.2.2.2.1 Q.out.2.1 Q.out.2.2.2.1 HW2.out hl2 hll2) ?_; rintro e w6 ⟨rfl, l3, ps3, r1, r2, r3, r4, r5, r6⟩))
      all_goals
        go_wp2
        go_ret
        exact ⟨rfl, ⟨_, mb, l3, ps3, r5, TmOk.of_drop ⟨HO.out.row, HO.out.nodup⟩ HO.out.wf HPE.out (r1.trans Q.out.1) r3 r2⟩, HK5.out.trans ((Q.out.2.2.2.2.2.toKeep r6.undrew).mono (fun _ _ h => .inl h))⟩
end Go.Proofs.Ytihmblkfbcnllaa
