/- (*Timer).Set by its contract. -/
import Derived.Test.YtihmblkfbcnllaaTmSet
namespace Go.Proofs.Ytihmblkfbcnllaa
open Go.RowKit Go.Maps Go.Proofs.YtihmblkfbcnllaaW.PrintWords

theorem TmOk.of_new {l l3 : List It} {ps3 : List (Int × Int)} {s : List It} {id t : Int} (hw : (Lit.int .i64 id).wf = true) (hr : tRow s) (hwf : ∀ p ∈ s, (Lit.int .i64 p.1).wf = true) (hl : l.Perm ((id, t) :: tDrop s id)) (h1 : l3.Perm l) (h2 : Pos l3 ps3) (h3 : Heap2 l3) : TmOk l3 ps3 (tSet s id t) := by
  have hd : ∀ p ∈ tSet s id t, p = (id, t) ∨ p ∈ s := fun p hp => by
    rcases List.mem_cons.1 ((tIns_perm _ _).mem_iff.1 hp) with h | h
    · exact .inl h
    · exact .inr (List.mem_filter.1 h).1
  refine ⟨h2, h3, h1.trans (hl.trans (tIns_perm _ _).symm), (tSet_row hr id t).1, fun p hp => ?_⟩
  rcases hd p hp with rfl | h
  · exact hw
  · exact hwf p h
/-- The end of Set, and of Drop: what 'up' and 'down' leave of a row with one thing out of place. -/
theorem TmV.toKeep {w w' : World} {ok : Nat → Prop} {tb : Nat} {v : Value} {mb : Nat} {l : List It} {ps : List (Int × Int)} (h : TmV w ok tb v mb l ps) (hk : Keep (TmS v mb) w w') : Keep ok w w' := hk.mono (fun k _ hs => h.row_ok k hs)

set_option maxHeartbeats 800000 in
theorem timerSet_old (w : World) (ok : Nat → Prop) (tb : Nat) (v : Value) (mb : Nat) (l : List It) (ps : List (Int × Int)) (s : List It) (id t : Int) (hT : TmV w ok tb v mb l ps) (hO : TmOk l ps s) (hw : (Lit.int .i64 id).wf = true) (hs : s.length ≤ 1000000) {j : Int} (hj : mget ps id = some j) :
    Calls Try.prog 13 #[.pointer (some ⟨tb, 0, none⟩), .int .i64 id, .int .i64 t] w fun e w' => e = .returned (.tuple #[]) ∧ TmAt w' ok tb (tSet s id t) ∧ Keep ok w w' := by
  have hlk := hT.look hw
  obtain ⟨m, t', rfl, hm, hml, hms⟩ := hO.there hj
  rw [hj] at hlk
  have hlk : (Instr.lookup 53 (.map (some mb)) (.int .i64 id) true).run Try.prog w = .ok (.tuple #[.int .i64 (m : Int), .bool true]) w := hlk
  obtain ⟨t0, t1, htl⟩ := hT.tcells
  have hll : l.length = s.length := hO.perm.length_eq
  have hpl := hO.pos.length hT.map.nodup
  have hmx : ps.length < maxLen := by unfold maxLen; omega
  have HT := Lib.hid hT
  have HO := Lib.hid hO
  have HM := Lib.hid hm
  have HLL := Lib.hid hll
  have hwf : ∀ p ∈ l, (Lit.int .i64 p.1).wf = true := fun p hp => hO.wf p (hO.perm.mem_iff.1 hp)
  have HWF := Lib.hid hwf
  have HNP := Lib.hid hO.nodup
  clear hT hO hj hm hms hll hpl hwf
  go_enter Try.func13, Try.ntmps13
  go_wp2_with fail
  refine Calls.mono (put_any w ok tb v mb l ps m (id, t) HT.out hml hw hmx) ?_
  rintro e w1 ⟨rfl, hT1, hK1⟩
  have hx1 : (l.set m (id, t))[m]? = some (id, t) := set_at hml
  have hP1 : Pos (l.set m (id, t)) (mput ps id m) := HO.out.pos.set HM.out t
  have hH1 : Hole (l.set m (id, t)) m := (HO.out.heap.hole m).set _
  have hw1 : ∀ p ∈ l.set m (id, t), (Lit.int .i64 p.1).wf = true := fun p hp => by
    rcases List.mem_or_eq_of_mem_set hp with h | h
    · exact HWF.out p h
    · rw [h]; exact hw
  have hl1 : (mput ps id m).length < maxLen := by
    rw [hP1.length hT1.map.nodup, List.length_set, HLL.out]; unfold maxLen; omega
  have hp1 : (l.set m (id, t)).Perm ((id, t) :: tDrop s id) := by
    refine (set_perm_of HM.out).trans (List.Perm.cons _ ?_)
    have e : tDrop l id = l.eraseIdx m := drop_of_pos HO.out.pos.nodup HM.out
    rw [← e]
    exact HO.out.perm.filter _
  have hll1 : (l.set m (id, t)).length ≤ 1000000 := by rw [List.length_set, HLL.out]; exact hs
  have HT1 := Lib.hid hT1
  have HK1 := Lib.hid (HT.out.toKeep hK1)
  have HP1 := Lib.hid hP1
  have HX1 := Lib.hid hx1
  have HH1 := Lib.hid hH1
  have HW1 := Lib.hid hw1
  have HPE := Lib.hid hp1
  clear hT1 hK1 hx1 hP1 hH1 hw1 hp1 hlk t0 t1
  generalize l.set m (id, t) = l1 at *
  generalize mput ps id (m : Int) = ps1 at *
  go_wp2_with fail
  refine Calls.mono (up_any w1 ok tb v mb l1 ps1 m (id, t) HT1.out HX1.out HP1.out HH1.out HW1.out hl1) ?_
  rintro e w2 ⟨rfl, l2, ps2, k2, q1, q2, q3, q4, q5, q6, q7, q8⟩
  have hlk2 := q7.look1 hw
  have hg2 : mget ps2 id = some (k2 : Int) := (q5 id k2).2 ⟨k2, rfl, by rw [q3]; rfl⟩
  rw [hg2] at hlk2
  have hlk2 : (Instr.lookup 53 (.map (some mb)) (.int .i64 id) false).run Try.prog w2 = .ok (.int .i64 (k2 : Int)) w2 := hlk2
  obtain ⟨t0, t1, htl2⟩ := q7.tcells
  have hw2 : ∀ p ∈ l2, (Lit.int .i64 p.1).wf = true := fun p hp => HW1.out p (q1.mem_iff.1 hp)
  have hl2 : ps2.length < maxLen := by rw [q6]; exact hl1
  have hll2 : l2.length ≤ 1000000 := by rw [q1.length_eq]; exact hll1
  have Q := Lib.hid (And.intro q1 (And.intro q2 (And.intro q3 (And.intro q4 (And.intro q5 q7)))))
  have HW2 := Lib.hid hw2
  have HK2 := Lib.hid (HK1.out.trans ((HT1.out.toKeep q8).mono (fun _ _ h => .inl h)))
  clear q1 q2 q3 q4 q5 q6 q7 q8 hg2 hw2
  go_wp2_with fail
  refine Calls.mono (down_any w2 ok tb v mb l2 ps2 k2 (id, t) Q.out.2.2.2.2.2 Q.out.2.2.1 Q.out.2.2.2.2.1 Q.out.2.1 Q.out.2.2.2.1 HW2.out hl2 hll2) ?_
  rintro e w3 ⟨rfl, l3, ps3, r1, r2, r3, r4, r5, r6⟩
  go_wp2_with fail
  go_end0
  exact ⟨rfl, ⟨v, mb, l3, ps3, r5, TmOk.of_new hw ⟨HO.out.row, HNP.out⟩ HO.out.wf HPE.out (r1.trans Q.out.1) r3 r2⟩, HK2.out.trans ((Q.out.2.2.2.2.2.toKeep r6).mono (fun _ _ h => .inl h))⟩

set_option maxHeartbeats 800000 in
theorem timerSet_new (w : World) (ok : Nat → Prop) (tb : Nat) (v : Value) (mb : Nat) (l : List It) (ps : List (Int × Int)) (s : List It) (id t : Int) (hT : TmV w ok tb v mb l ps) (hO : TmOk l ps s) (hw : (Lit.int .i64 id).wf = true) (hs : s.length < 1000000) (hj : mget ps id = none) :
    Calls Try.prog 13 #[.pointer (some ⟨tb, 0, none⟩), .int .i64 id, .int .i64 t] w fun e w' => e = .returned (.tuple #[]) ∧ TmAt w' (fun k => ok k ∨ w.heap.size ≤ k) tb (tSet s id t) ∧ Keep ok w w' := by
  have hlk := hT.look hw
  rw [hj] at hlk
  have hlk : (Instr.lookup 53 (.map (some mb)) (.int .i64 id) true).run Try.prog w = .ok (.tuple #[.int .i64 0, .bool false]) w := hlk
  obtain ⟨t0, t1, htl⟩ := hT.tcells
  have hll : l.length = s.length := hO.perm.length_eq
  obtain ⟨A, c, rfl, hlc, hC⟩ := Kd.R_reads hT.row
  have hlm := Kd.C_max hC
  have HT := Lib.hid hT
  have HO := Lib.hid hO
  have HJ := Lib.hid hj
  have hl16 : (l.length + 1) * 16 ≤ 140737488355328 := by omega
  have HLL := Lib.hid hll
  clear hT hO hj hll hC
  go_enter Try.func13, Try.ntmps13
  go_wp2_with (at_builtin; refine Kd.R_append KIt (w0 := w) 0 rfl (.tmp 28) (.tmp 30) 41 34 (.agg #[.int .i64 0, .int .i64 0]) 16 rfl Try.underlying41 info_item rfl (by decide) (by omega) (.slice A l.length c) l (0, 0) [.int .i64 0, .int .i64 0] (fun k => (ok k ∧ k ≠ tb ∧ k ≠ mb) ∨ w.heap.size ≤ k) (fun _ => False) rfl rfl (KIt_of w 0 _ (0, 0)) (fun _ h => h.elim) (fun _ h => .inr h) (Kd.R_mono HT.out.row (fun _ h => .inl h)) (Below.refl _ _) (Nat.zero_le _) hl16 ?_; intro v1 w1 h1 h2 hgr hat; obtain ⟨A1, c1, rfl⟩ := Kd.R_slice h1; have hb1 := blk_grown HT.out.hd hgr (fun e => (HT.out.row.1 tb e.symm).2.1 rfl); have u0 := blk_cell hb1 0; have f0 := blk_frozen hb1 0; simp only [List.getElem?_toArray, List.getElem?_cons_zero] at u0; have HR1 := Lib.hid h1; have HGR := Lib.hid hgr; have HB1 := Lib.hid hb1; clear h1 h2 hgr hat hb1)
  have hmx1 : w.heap.size ≤ w1.heap.size := HGR.out.size
  have hmne : mb ≠ tb := HT.out.ne
  have hmg : some mb ≠ (Value.slice A l.length c).ownBlock := fun e => (HT.out.row.1 mb e.symm).2.2 rfl
  have hT0 : TmV (w1.setCell ⟨tb, 0, none⟩ (.slice A1 (l ++ [(0, 0)]).length c1)) (fun k => ok k ∨ w.heap.size ≤ k) tb (.slice A1 (l ++ [(0, 0)]).length c1) mb (l ++ [(0, 0)]) ps := by
    refine ⟨blk_set HB1.out 0 _, ?_, ?_, .inl HT.out.oktb, .inl HT.out.okmb⟩
    · refine Kd.R_far (Kd.R_mono HR1.out (fun k hk => ?_)) (fun k hk => hk.2.1) _
      rcases hk with ⟨h1, h2, h3⟩ | hk
      · exact ⟨.inl h1, h2, h3⟩
      · exact ⟨.inr hk, by omega, by have := HT.out.map.lt; omega⟩
    · refine (HT.out.map.move (HGR.out.block mb HT.out.map.lt hmg)).move ?_
      exact Below.heap_setCell w1 _ _ mb hmne
  have hK0 : Keep ok w (w1.setCell ⟨tb, 0, none⟩ (.slice A1 (l ++ [(0, 0)]).length c1)) := by
    refine ⟨HGR.out.os, HGR.out.tape, HGR.out.output, by simpa [World.setCell] using hmx1, fun k h1 h2 => ?_⟩
    refine (Below.heap_setCell w1 _ _ k (fun e => h2 (e ▸ HT.out.oktb))).trans (HGR.out.block k h1 (fun e => ?_))
    exact h2 (HT.out.row.1 k e.symm).1
  have HT0 := Lib.hid hT0
  have HK0 := Lib.hid hK0
  have hsz0 : w.heap.size ≤ (w1.setCell ⟨tb, 0, none⟩ (.slice A1 (l ++ [(0, 0)]).length c1)).heap.size := by simpa [World.setCell] using hmx1
  have e1 : (l ++ [((0 : Int), (0 : Int))]).length = l.length + 1 := by simp
  have hT0' := hT0
  have hK0' := hK0
  have hsz0' := hsz0
  rw [e1] at hT0' hK0' hsz0'
  clear hT0 hK0 u0 f0 hlk t0 t1 hmx1 HT0 HK0 hsz0
  have hset : (l ++ [((0 : Int), (0 : Int))]).set l.length (id, t) = l ++ [(id, t)] := by simp
  go_wp2_with fail
  obtain ⟨v1, hv1⟩ : ∃ v1, v1 = Value.slice A1 (l.length + 1) c1 := ⟨_, rfl⟩
  rw [← hv1] at hT0' hK0' hsz0'
  obtain ⟨W2, hW2⟩ : ∃ W2, W2 = w1.setCell ⟨tb, 0, none⟩ v1 := ⟨_, rfl⟩
  rw [← hW2] at hT0' hK0' hsz0'
  obtain ⟨ok', hok'⟩ : ∃ ok' : Nat → Prop, ok' = fun k => ok k ∨ w.heap.size ≤ k := ⟨_, rfl⟩
  rw [← hok'] at hT0'
  have HT0 := Lib.hid hT0'
  have HK0 := Lib.hid (hK0'.mono (S' := ok') (fun k _ h => by rw [hok']; exact .inl h))
  have HOK := Lib.hid hok'
  have HS := Lib.hid hset
  have hll0 : l.length < (l ++ [((0 : Int), (0 : Int))]).length := by simp
  have hput := put_any W2 ok' tb v1 mb (l ++ [(0, 0)]) ps l.length (id, t) hT0' hll0 hw (by rw [HO.out.pos.length HT.out.map.nodup, HLL.out]; unfold maxLen; omega)
  rw [hset, hW2, hv1] at hput
  refine Calls.mono hput ?_
  clear hput hT0' hK0' hok' hset hll0 e1
  rintro e w3 ⟨rfl, hT1, hK1⟩
  rw [← hv1] at hT1 hK1
  rw [← hW2] at hK1
  have hx1 : (l ++ [(id, t)])[l.length]? = some (id, t) := by simp
  have hP1 : Pos (l ++ [(id, t)]) (mput ps id l.length) := HO.out.pos.snoc HJ.out t
  have hH1 : Hole (l ++ [(id, t)]) l.length := HO.out.heap.snoc _
  have hw1 : ∀ p ∈ l ++ [(id, t)], (Lit.int .i64 p.1).wf = true := fun p hp => by
    rcases List.mem_append.1 hp with h | h
    · exact HO.out.wf p (HO.out.perm.mem_iff.1 h)
    · rw [List.mem_singleton.1 h]; exact hw
  have hl1 : (mput ps id l.length).length < maxLen := by
    rw [hP1.length hT1.map.nodup, List.length_append, HLL.out]; unfold maxLen; simp; omega
  have hp1 : (l ++ [(id, t)]).Perm ((id, t) :: tDrop s id) := by
    rw [drop_none (HO.out.not HJ.out)]
    exact (List.perm_append_comm (l₁ := l) (l₂ := [(id, t)])).trans (List.Perm.cons _ HO.out.perm)
  have hll1 : (l ++ [(id, t)]).length ≤ 1000000 := by rw [List.length_append, HLL.out]; simp; omega
  have HV1 := Lib.hid (And.intro hv1 hW2)
  clear hv1 hW2
  have HT1 := Lib.hid hT1
  have HK1 := Lib.hid (HK0.out.trans ((HT0.out.toKeep hK1).mono (fun _ _ h => .inl h)))
  have HP1 := Lib.hid hP1
  have HX1 := Lib.hid hx1
  have HH1 := Lib.hid hH1
  have HW1 := Lib.hid hw1
  have HPE := Lib.hid hp1
  clear hT1 hK1 hx1 hP1 hH1 hw1 hp1
  generalize l ++ [(id, t)] = l1 at *
  generalize mput ps id (l.length : Int) = ps1 at *
  go_wp2_with fail
  refine Calls.mono (up_any w3 ok' tb v1 mb l1 ps1 l.length (id, t) HT1.out HX1.out HP1.out HH1.out HW1.out hl1) ?_
  rintro e w2 ⟨rfl, l2, ps2, k2, q1, q2, q3, q4, q5, q6, q7, q8⟩
  have hlk2 := q7.look1 hw
  have hg2 : mget ps2 id = some (k2 : Int) := (q5 id k2).2 ⟨k2, rfl, by rw [q3]; rfl⟩
  rw [hg2] at hlk2
  have hlk2 : (Instr.lookup 53 (.map (some mb)) (.int .i64 id) false).run Try.prog w2 = .ok (.int .i64 (k2 : Int)) w2 := hlk2
  obtain ⟨t0, t1, htl2⟩ := q7.tcells
  have hw2 : ∀ p ∈ l2, (Lit.int .i64 p.1).wf = true := fun p hp => HW1.out p (q1.mem_iff.1 hp)
  have hl2 : ps2.length < maxLen := by rw [q6]; exact hl1
  have hll2 : l2.length ≤ 1000000 := by rw [q1.length_eq]; exact hll1
  have Q := Lib.hid (And.intro q1 (And.intro q2 (And.intro q3 (And.intro q4 (And.intro q5 q7)))))
  have HW2 := Lib.hid hw2
  have HK2 := Lib.hid (HK1.out.trans ((HT1.out.toKeep q8).mono (fun _ _ h => .inl h)))
  clear q1 q2 q3 q4 q5 q6 q7 q8 hg2 hw2
  go_wp2_with fail
  refine Calls.mono (down_any w2 ok' tb v1 mb l2 ps2 k2 (id, t) Q.out.2.2.2.2.2 Q.out.2.2.1 Q.out.2.2.2.2.1 Q.out.2.1 Q.out.2.2.2.1 HW2.out hl2 hll2) ?_
  rintro e w4 ⟨rfl, l3, ps3, r1, r2, r3, r4, r5, r6⟩
  go_wp2_with fail
  go_end0
  refine ⟨rfl, ?_, ?_⟩
  · rw [← HOK.out]
    exact ⟨v1, mb, l3, ps3, r5, TmOk.of_new hw ⟨HO.out.row, HO.out.nodup⟩ HO.out.wf HPE.out (r1.trans Q.out.1) r3 r2⟩
  · have hk := HK2.out.trans ((Q.out.2.2.2.2.2.toKeep r6).mono (fun _ _ h => .inl h))
    refine hk.mono (fun k hk ho => ?_)
    rw [HOK.out] at ho
    rcases ho with h | h
    · exact h
    · omega
theorem timerSet_any (w : World) (ok : Nat → Prop) (tb : Nat) (s : List It) (id t : Int) (h : TmAt w ok tb s) (hw : (Lit.int .i64 id).wf = true) (hs : s.length < 1000000) :
    Calls Try.prog 13 #[.pointer (some ⟨tb, 0, none⟩), .int .i64 id, .int .i64 t] w fun e w' => e = .returned (.tuple #[]) ∧ TmAt w' (fun k => ok k ∨ w.heap.size ≤ k) tb (tSet s id t) ∧ Keep ok w w' := by
  obtain ⟨v, mb, l, ps, hT, hO⟩ := h
  cases hj : mget ps id with
  | none => exact timerSet_new w ok tb v mb l ps s id t hT hO hw hs hj
  | some j =>
    refine Calls.mono (timerSet_old w ok tb v mb l ps s id t hT hO hw (by omega) hj) ?_
    rintro e w' ⟨h1, h2, h3⟩
    exact ⟨h1, h2.mono (fun k hk _ => .inl hk), h3⟩
end Go.Proofs.Ytihmblkfbcnllaa
