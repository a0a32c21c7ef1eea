/- Put together: The document's queue: Receive. · '==' of the document's structs as one Bool; law08.took. · law08.ticked. · What a call makes of a queue; the document's Send as a whole. -/
import Derived.Test.YtoclcmnphdgfpaaGreatDoorG10
import Derived.StillTailTactics
import Derived.StillTactics
import Derived.Test.YtoclcmnphdgfpaaGreatDoorWEqStruct
import Derived.Test.YtoclcmnphdgfpaaGreatDoorG13
import Derived.Test.YtoclcmnphdgfpaaGreatDoorG6
set_option linter.unusedVariables false
set_option linter.unusedSimpArgs false
set_option linter.unusedVariables false
set_option linter.unusedSimpArgs false
namespace Go.Proofs.YtoclcmnphdgfpaaGreatDoor
open Go.RowKit Go.Maps Go.Proofs.YtoclcmnphdgfpaaGreatDoorW.PrintWords
abbrev ADt (v : Value) (l : List Tk) : Asn := ARow KTk 147 v l
theorem info_dt : (Tryz.prog.info? 147).map (fun i => (i.zero, i.size, i.bytes)) = some (some (.agg #[.int .i64 0, .int .i64 0, .string ⟨#[]⟩, .string ⟨#[]⟩, .string ⟨#[]⟩]), 5, 64) := by kernel_rfl
/-- The row when the first j have been gone through. -/
def rcvL (ρ : Qs) (till : Int) (j : Nat) : List Msg := (ρ.l.take j).map (fun m => if qRdy ρ m then m.take till else m) ++ ρ.l.drop j
section
variable {w0 w : World} {ρ : Qs} {Ps : List Asn} {till : Int} {j T : Nat} {m : Msg}
theorem rcvL_zero : rcvL ρ till 0 = ρ.l := by unfold rcvL; simp
theorem rcvL_len : (rcvL ρ till j).length = ρ.l.length := by unfold rcvL; simp; omega
theorem rcvL_at (hm : ρ.l[j]? = some m) : (rcvL ρ till j)[j]? = some m := by
  have hj : j < ρ.l.length := (List.getElem?_eq_some_iff.1 hm).1
  unfold rcvL
  rw [List.getElem?_append_right (by simp; omega), List.getElem?_drop, List.length_map, List.length_take]
  rw [show j + (j - min j ρ.l.length) = j by omega]
  exact hm
theorem rcvL_succ (hm : ρ.l[j]? = some m) : rcvL ρ till (j + 1) = (rcvL ρ till j).set j (if qRdy ρ m then m.take till else m) := by
  have hj : j < ρ.l.length := (List.getElem?_eq_some_iff.1 hm).1
  have hmj : ρ.l[j] = m := (List.getElem?_eq_some_iff.1 hm).2
  unfold rcvL
  rw [take_snoc' hm, List.map_append, List.set_append_right _ _ (by simp; omega), List.length_map, List.length_take, show j - min j ρ.l.length = 0 by omega, List.drop_eq_getElem_cons hj, hmj, List.set_cons_zero, List.append_assoc]
  rfl
theorem rcvL_no (hm : ρ.l[j]? = some m) (h : qRdy ρ m = false) : rcvL ρ till (j + 1) = rcvL ρ till j := by
  rw [rcvL_succ hm, h]
  apply List.ext_getElem?
  intro i
  rw [List.getElem?_set]
  split
  · rename_i h; subst h; rw [rcvL_at hm]; split
    · rfl
    · rename_i hl; rw [rcvL_len] at hl; exact absurd (List.getElem?_eq_some_iff.1 hm).1 hl
  · rfl
theorem rcvL_group : (rcvL ρ till j).map (·.group) = ρ.l.map (·.group) := by
  unfold rcvL
  rw [List.map_append, List.map_map]
  conv => rhs; rw [← List.take_append_drop j ρ.l, List.map_append]
  congr 1
  apply List.map_congr_left
  intro x _
  simp only [Function.comp]
  split <;> rfl
theorem firstB_group (l l' : List Msg) (h : l.map (·.group) = l'.map (·.group)) (j : Nat) (m : Msg) : firstB l j m = firstB l' j m := by
  unfold firstB
  have e : ∀ l : List Msg, (l.take j).any (fun x => decide (x.group = m.group)) = ((l.map (·.group)).take j).any (fun g => decide (g = m.group)) := by
    intro l
    rw [← List.map_take, List.any_map]
    rfl
  rw [e l, e l', h]
theorem firstB_qFirst (hr : ρ.l.Pairwise (fun a b => a.id < b.id)) (hm : ρ.l[j]? = some m) : firstB ρ.l j m = qFirst ρ.l m := by
  obtain ⟨hj, hmj⟩ := List.getElem?_eq_some_iff.1 hm
  have h0 := hr
  rw [← List.take_append_drop j ρ.l, List.drop_eq_getElem_cons hj, hmj, List.pairwise_append, List.pairwise_cons] at h0
  obtain ⟨_, ⟨h2, _⟩, h3⟩ := h0
  unfold firstB qFirst
  congr 1
  rw [Bool.eq_iff_iff, List.any_eq_true, List.any_eq_true]
  constructor
  · rintro ⟨x, hx, hg⟩
    refine ⟨x, List.mem_of_mem_take hx, ?_⟩
    rw [decide_eq_true_iff] at hg ⊢
    exact ⟨h3 x hx m List.mem_cons_self, hg⟩
  · rintro ⟨x, hx, hg⟩
    rw [decide_eq_true_iff] at hg
    refine ⟨x, ?_, by rw [decide_eq_true_iff]; exact hg.2⟩
    rw [← List.take_append_drop j ρ.l, List.drop_eq_getElem_cons hj, hmj] at hx
    rcases List.mem_append.1 hx with hx | hx
    · exact hx
    · exfalso
      rcases List.mem_cons.1 hx with rfl | hx
      · omega
      · have := h2 x hx; omega
/-- A message's cells. -/
theorem Hp.dmRow {ad : Addr} {n cap i : Nat} {l : List Msg} (h : Hp w0 w (ADm (.slice (some ad) n cap) l :: Ps)) (hm : l[i]? = some m) :
    w.cell? (ad.add (i * 7)) = some (.int .i64 m.id) ∧ w.cell? ⟨(ad.add (i * 7)).block, (ad.add (i * 7)).off + 1, none⟩ = some (.int .i64 m.sent) ∧ w.cell? ⟨(ad.add (i * 7)).block, (ad.add (i * 7)).off + 2, none⟩ = some (.int .i64 m.count) ∧ w.cell? ⟨(ad.add (i * 7)).block, (ad.add (i * 7)).off + 3, none⟩ = some (.int .i64 m.time) ∧ w.cell? ⟨(ad.add (i * 7)).block, (ad.add (i * 7)).off + 4, none⟩ = some (.bool m.leased) ∧ w.cell? ⟨(ad.add (i * 7)).block, (ad.add (i * 7)).off + 5, none⟩ = some (.string m.body) ∧ w.cell? ⟨(ad.add (i * 7)).block, (ad.add (i * 7)).off + 6, none⟩ = some (.string m.group) := by
  have hR := Kd.R_reads' h.head
  have hl := (List.getElem?_eq_some_iff.1 hm).1
  have h2 := hR.2.2
  rw [List.length_map] at h2
  obtain ⟨ad', m', hA, hm', h3⟩ := C_nth_dm h2 i hl
  obtain rfl := Option.some.inj hA
  obtain rfl := Option.some.inj (hm.symm.trans hm')
  exact h3
set_option maxHeartbeats 3200000 in
set_option maxRecDepth 100000 in
theorem Hp.refRcvNot {A A2 : Option Addr} {n c n2 c2' : Nat} (h : Hp w0 w (ADm (.slice A n c) ρ.l :: Ps)) (num vis : Int) (hm : qMayRecv num vis = false) :
    Calls Tryz.prog 53 #[ρ.val (.slice A n c) (.slice A2 n2 c2'), .int .i64 num, .int .i64 vis] w fun e w' => e = .returned (.tuple #[ρ.val (.slice A n c) (.slice A2 n2 c2'), .slice none 0 0, .int .i64 1]) ∧ Hp w0 w' (ADm (.slice A n c) ρ.l :: Ps) := by
  obtain ⟨a, now, next, l, k⟩ := ρ
  have H := Lib.hid h
  unfold qMayRecv at hm
  rw [decide_eq_false_iff_not] at hm
  have hc : num < 1 ∨ (¬ num < 1 ∧ 10 < num) ∨ (¬ num < 1 ∧ ¬ 10 < num ∧ vis < 0) ∨ (¬ num < 1 ∧ ¬ 10 < num ∧ ¬ vis < 0 ∧ 1048576 < vis) := by omega
  rw [show Qs.val ⟨a, now, next, l, k⟩ (.slice A n c) (.slice A2 n2 c2') = .agg #[.int .i64 a.vis, .int .i64 a.ret, .int .i64 a.del, .int .i64 a.win, .int .i64 a.max, .string a.dead, .bool a.fifo, .int .i64 now, .int .i64 next, .slice A n c, .slice A2 n2 c2'] from rfl]
  clear h hm
  rcases hc with h1 | ⟨h1, h2⟩ | ⟨h1, h2, h3⟩ | ⟨h1, h2, h3, h4⟩
  all_goals
    go_enter Tryz.func53, Tryz.ntmps53
    go_wp2_with fail
    exact bodyPost_ret (v := .tuple #[.agg #[.int .i64 a.vis, .int .i64 a.ret, .int .i64 a.del, .int .i64 a.win, .int .i64 a.max, .string a.dead, .bool a.fifo, .int .i64 now, .int .i64 next, .slice A n c, .slice A2 n2 c2'], .slice none 0 0, .int .i64 1]) (by simp [results, Tryz.results53, go_sem]) rfl ⟨rfl, H.out.below (below_alloc (below_alloc (Below.refl _ _) _) _)⟩
set_option maxHeartbeats 6400000 in
set_option maxRecDepth 100000 in
theorem Hp.refRcvDo {A A2 : Option Addr} {n c n2 c2' : Nat} (h : Hp w0 w (ADm (.slice A n c) ρ.l :: Ps)) (hi : QInv ρ T) (hT6 : T ≤ 1000000) (nn : Nat) (vis vs : Int) (hn : 1 ≤ nn ∧ nn ≤ 10) (hv : 0 ≤ vis ∧ vis ≤ 1048576) (hvs : vs = if vis = 0 then ρ.a.vis else vis) (hvb : 0 ≤ vs ∧ vs ≤ 1048576) :
    Calls Tryz.prog 53 #[ρ.val (.slice A n c) (.slice A2 n2 c2'), .int .i64 (nn : Int), .int .i64 vis] w fun e w' => ∃ A' n' c' A1 n1 c1, e = .returned (.tuple #[(qRecv ρ nn vs).val (.slice A' n' c') (.slice A2 n2 c2'), .slice A1 n1 c1, .int .i64 0]) ∧ Hp w0 w' (ADm (.slice A' n' c') (qRecv ρ nn vs).l :: ADt (.slice A1 n1 c1) ((qTook ρ nn).map Msg.tk) :: Ps) := by
  obtain ⟨a, now, next, l, k⟩ := ρ
  have HI := Lib.hid hi
  have H := Lib.hid h
  have HB := Lib.hid (h.alloc (.cells #[.int .i64 a.vis, .int .i64 a.ret, .int .i64 a.del, .int .i64 a.win, .int .i64 a.max, .string a.dead, .bool a.fifo, .int .i64 now, .int .i64 next, .slice A n c, .slice A2 n2 c2'] 58))
  have HZ := Lib.hid (HB.out.alloc (.cells #[.int .i64 0, .int .i64 0, .int .i64 0, .int .i64 0, .int .i64 0, .string ⟨#[]⟩, .bool false, .int .i64 0, .int .i64 0, .slice none 0 0, .slice none 0 0] 58))
  have hsz1 : (w.alloc (.cells #[.int .i64 a.vis, .int .i64 a.ret, .int .i64 a.del, .int .i64 a.win, .int .i64 a.max, .string a.dead, .bool a.fifo, .int .i64 now, .int .i64 next, .slice A n c, .slice A2 n2 c2'] 58)).heap.size = w.heap.size + 1 := by simp
  rw [hsz1] at HZ
  clear hsz1
  rw [show Qs.val ⟨a, now, next, l, k⟩ (.slice A n c) (.slice A2 n2 c2') = .agg #[.int .i64 a.vis, .int .i64 a.ret, .int .i64 a.del, .int .i64 a.win, .int .i64 a.max, .string a.dead, .bool a.fifo, .int .i64 now, .int .i64 next, .slice A n c, .slice A2 n2 c2'] from rfl]
  have hL1 := Kd.R_reads' h.head
  have HNL := Lib.hid (show l.length ≤ 1024 from hi.len)
  have HLN := Lib.hid (show n = l.length by have := hL1.1; rwa [List.length_map] at this)
  have hnow := hi.now
  dsimp only at hnow
  have h1 : ¬ (nn : Int) < 1 := by omega
  have h2 : ¬ 10 < (nn : Int) := by omega
  have h3 : ¬ vis < 0 := by omega
  have h4 : ¬ 1048576 < vis := by omega
  have hn1 : n ≤ 1024 := by have := HLN.out; have := HNL.out; omega
  have HSUM := Lib.hid (show IntKind.i64.wrap (now + vs) = now + vs from IntWalk.i64_in _ (by omega))
  have HVC := Lib.hid (show (vis = 0 ∧ a.vis = vs) ∨ (vis ≠ 0 ∧ vis = vs) by
    by_cases h : vis = 0
    · exact .inl ⟨h, by rw [hvs, if_pos h]⟩
    · exact .inr ⟨h, by rw [hvs, if_neg h]⟩)
  have HVS := Lib.hid hvs
  clear h hi hL1 hvs hv
  go_enter Tryz.func53, Tryz.ntmps53
  go_upto_region 3 with (fail)
  obtain ⟨c0, c1, c2, c3, c4, c5, c6, c7, c8, c9, c10, cf⟩ := blk11 HZ.out.blk1
  clear cf
  generalize (w.alloc (.cells #[.int .i64 a.vis, .int .i64 a.ret, .int .i64 a.del, .int .i64 a.win, .int .i64 a.max, .string a.dead, .bool a.fifo, .int .i64 now, .int .i64 next, .slice A n c, .slice A2 n2 c2'] 58)).alloc (.cells #[.int .i64 0, .int .i64 0, .int .i64 0, .int .i64 0, .int .i64 0, .string ⟨#[]⟩, .bool false, .int .i64 0, .int .i64 0, .slice none 0 0, .slice none 0 0] 58) = W0 at *
  go_upto_if 28 with (fail)
  go_cut [2] (fun s wx => s = .int .i64 vs ∧ wx = W0)
  case first =>
    rcases HVC.out with ⟨g1, g2⟩ | ⟨g1, g2⟩
    case' inl => have he : (vis == 0) = true := by rw [g1]; rfl
    case' inr => have he : (vis == 0) = false := by simpa using g1
    all_goals
      have HG2 := Lib.hid g2
      clear g1 g2
      go_wp2_with fail
      go_meet
      case rel => exact ⟨by rw [HG2.out], rfl⟩
  case rest =>
  obtain ⟨rfl, rfl⟩ := hcut
  have HCD := Lib.hid (show KDm.C wc A n (l.map Msg.doc) by have hR := Kd.R_reads' HZ.out.tail.tail.head; rw [hR.1]; exact hR.2.2)
  have HE := Lib.hid (HZ.out.alloc (.cells #[] 111))
  have hC2 := Lib.hid (Kd.C_alloc HCD.out (.cells #[] 111))
  have p9 : (wc.alloc (.cells #[] 111)).cell? ⟨w.heap.size, 9, none⟩ = some (.slice A n c) := (blk11 HE.out.blk2).2.2.2.2.2.2.2.2.2.1
  go_wp2_with (at_builtin; refine Kd.R_append_rows KDm (w0 := wc) wc.heap.size rfl (.tmp 32) (.tmp 34) 55 111 (.agg #[.int .i64 0, .int .i64 0, .int .i64 0, .int .i64 0, .bool false, .string ⟨#[]⟩, .string ⟨#[]⟩]) 72 rfl Tryz.underlying55 info_dm rfl (by decide) (by omega) (.slice (some ⟨wc.heap.size, 0, none⟩) 0 0) [] (l.map Msg.doc) A n c (fun _ => True) (fun _ => False) rfl rfl (R_empty _ _ _ _ _ (Nat.le_refl _) trivial) hC2.out (fun _ _ h => h) (fun _ h => h.elim) (fun _ _ => trivial) (below_alloc (Below.refl _ _) _) (by simp) (by have := HLN.out; have := HNL.out; simp; omega) ?_; intro v1 w3 hR3 hB3 _ _; have HP := Lib.hid (show Hp w0 w3 (ARow KDm 111 v1 (l.map Msg.doc) :: _) from HZ.out.row hB3 hR3); clear hR3 hB3)
  clear c0 c1 c2 c3 c4 c5 c6 c7 c8 c9 c10 p9 hC2 HE
  obtain ⟨A', c', hv'⟩ := Kd.R_slice HP.out.head
  rw [List.length_map, ← HLN.out] at hv'
  subst hv'
  go_loopw [9, 11] (fun u9 i wr => ∃ j : Nat, i = .int .i64 j ∧ j ≤ n ∧ (fm l (qRdy ⟨a, now, next, l, k⟩) Msg.tk j).length ≤ nn ∧ Hp w0 wr (ADt u9 (fm l (qRdy ⟨a, now, next, l, k⟩) Msg.tk j) :: ADm (.slice A' n c') (rcvL ⟨a, now, next, l, k⟩ (now + vs) j) :: ABlk (w.heap.size + 1) (.cells #[.int .i64 0, .int .i64 0, .int .i64 0, .int .i64 0, .int .i64 0, .string ⟨#[]⟩, .bool false, .int .i64 0, .int .i64 0, .slice none 0 0, .slice none 0 0] 58) :: ABlk w.heap.size (.cells #[.int .i64 a.vis, .int .i64 a.ret, .int .i64 a.del, .int .i64 a.win, .int .i64 a.max, .string a.dead, .bool a.fifo, .int .i64 now, .int .i64 next, .slice A n c, .slice A2 n2 c2'] 58) :: Ps)) (fun _ i _ => n - (intOf i).toNat)
  case atStart => exact ⟨0, rfl, Nat.zero_le _, Nat.zero_le _, by rw [rcvL_zero]; exact (HP.out.up3.tail).fresh (Below.refl _ _) (Kd.R_nil _ _ _ _ _)⟩
  case round =>
    obtain ⟨j, rfl, hj, hcn, hQ⟩ := hrel
    have HQ := Lib.hid hQ
    clear hQ
    obtain ⟨c0, c1, c2, c3, c4, c5, c6, c7, c8, c9, c10, cf⟩ := blk11 HQ.out.tail.tail.blk1
    obtain ⟨A9, d9, rfl⟩ := Kd.R_slice HQ.out.head
    obtain ⟨n9, hn9⟩ : ∃ n9, n9 = (fm l (qRdy ⟨a, now, next, l, k⟩) Msg.tk j).length := ⟨_, rfl⟩
    rw [← hn9] at hcn HQ ⊢
    have HN9 := Lib.hid hn9
    clear hn9
    by_cases hjn : j < n
    case neg =>
      have i1 : ¬ (j : Int) < (n : Int) := by omega
      have hn2 : ((List.take j l).filter (qRdy ⟨a, now, next, l, k⟩)).length = nn ∨ (l.length ≤ j ∧ ((List.take j l).filter (qRdy ⟨a, now, next, l, k⟩)).length ≤ nn) := by
        have h5 := HN9.out
        have h6 := HLN.out
        unfold fm at h5
        rw [List.length_map] at h5
        omega
      obtain ⟨k1, k2⟩ := recv_at (vis := vs) HI.out hn2
      have HK1 := Lib.hid k1
      have HK2 := Lib.hid (show (qRecv ⟨a, now, next, l, k⟩ nn vs).l = rcvL ⟨a, now, next, l, k⟩ (now + vs) j from k2)
      have HP5 := Lib.hid (show Hp w0 (wr.setCell ⟨w.heap.size, 9, none⟩ (.slice A' n c')) (ABlk w.heap.size (.cells #[.int .i64 a.vis, .int .i64 a.ret, .int .i64 a.del, .int .i64 a.win, .int .i64 a.max, .string a.dead, .bool a.fifo, .int .i64 now, .int .i64 next, .slice A' n c', .slice A2 n2 c2'] 58) :: _) from HQ.out.up3.setBlk 9 (.slice A' n c'))
      have cf9 := cf 9
      obtain ⟨t0, t1, t2, t3, t4, t5, t6, t7, t8, t9, t10, _⟩ := blk11 HP5.out.blk0
      obtain ⟨z0, z1, z2, z3, z4, z5, z6, z7, z8, z9, z10, zf⟩ := blk11 HP5.out.tail.tail.tail.blk0
      have HP6 := Lib.hid HP5.out.up3
      clear hn2 k1 k2 cf HQ
      go_wp2_with fail
      have hW := HP6.out.set11 (.int .i64 a.vis) (.int .i64 a.ret) (.int .i64 a.del) (.int .i64 a.win) (.int .i64 a.max) (.string a.dead) (.bool a.fifo) (.int .i64 now) (.int .i64 next) (.slice A' n c') (.slice A2 n2 c2')
      generalize ((((((((((((wr.setCell ⟨w.heap.size, 9, none⟩ (.slice A' n c')).setCell ⟨w.heap.size + 1, 0, none⟩ (.int .i64 a.vis)).setCell ⟨w.heap.size + 1, 1, none⟩ (.int .i64 a.ret)).setCell ⟨w.heap.size + 1, 2, none⟩ (.int .i64 a.del)).setCell ⟨w.heap.size + 1, 3, none⟩ (.int .i64 a.win)).setCell ⟨w.heap.size + 1, 4, none⟩ (.int .i64 a.max)).setCell ⟨w.heap.size + 1, 5, none⟩ (.string a.dead)).setCell ⟨w.heap.size + 1, 6, none⟩ (.bool a.fifo)).setCell ⟨w.heap.size + 1, 7, none⟩ (.int .i64 now)).setCell ⟨w.heap.size + 1, 8, none⟩ (.int .i64 next)).setCell ⟨w.heap.size + 1, 9, none⟩ (.slice A' n c')).setCell ⟨w.heap.size + 1, 10, none⟩ (.slice A2 n2 c2')) = W at *
      obtain ⟨y0, y1, y2, y3, y4, y5, y6, y7, y8, y9, y10, _⟩ := blk11 hW.blk0
      refine bodyPost_ret (v := .tuple #[.agg #[.int .i64 a.vis, .int .i64 a.ret, .int .i64 a.del, .int .i64 a.win, .int .i64 a.max, .string a.dead, .bool a.fifo, .int .i64 now, .int .i64 next, .slice A' n c', .slice A2 n2 c2'], .slice A9 n9 d9, .int .i64 0]) (by simp [results, Tryz.results53, go_sem, y0, y1, y2, y3, y4, y5, y6, y7, y8, y9, y10]) rfl ⟨A', n, c', A9, n9, d9, rfl, ?_⟩
      have hfin := hW.tail.tail.swap
      rw [HK1.out, HK2.out]
      exact hfin
    by_cases hnn : n9 < nn
    case neg =>
      have i1 : (j : Int) < (n : Int) := by omega
      have i2 : ¬ (n9 : Int) < (nn : Int) := by omega
      have hn2 : ((List.take j l).filter (qRdy ⟨a, now, next, l, k⟩)).length = nn ∨ (l.length ≤ j ∧ ((List.take j l).filter (qRdy ⟨a, now, next, l, k⟩)).length ≤ nn) := by
        have h5 := HN9.out
        have h6 := HLN.out
        unfold fm at h5
        rw [List.length_map] at h5
        omega
      obtain ⟨k1, k2⟩ := recv_at (vis := vs) HI.out hn2
      have HK1 := Lib.hid k1
      have HK2 := Lib.hid (show (qRecv ⟨a, now, next, l, k⟩ nn vs).l = rcvL ⟨a, now, next, l, k⟩ (now + vs) j from k2)
      have HP5 := Lib.hid (show Hp w0 (wr.setCell ⟨w.heap.size, 9, none⟩ (.slice A' n c')) (ABlk w.heap.size (.cells #[.int .i64 a.vis, .int .i64 a.ret, .int .i64 a.del, .int .i64 a.win, .int .i64 a.max, .string a.dead, .bool a.fifo, .int .i64 now, .int .i64 next, .slice A' n c', .slice A2 n2 c2'] 58) :: _) from HQ.out.up3.setBlk 9 (.slice A' n c'))
      have cf9 := cf 9
      obtain ⟨t0, t1, t2, t3, t4, t5, t6, t7, t8, t9, t10, _⟩ := blk11 HP5.out.blk0
      obtain ⟨z0, z1, z2, z3, z4, z5, z6, z7, z8, z9, z10, zf⟩ := blk11 HP5.out.tail.tail.tail.blk0
      have HP6 := Lib.hid HP5.out.up3
      clear hn2 k1 k2 cf HQ
      go_wp2_with fail
      have hW := HP6.out.set11 (.int .i64 a.vis) (.int .i64 a.ret) (.int .i64 a.del) (.int .i64 a.win) (.int .i64 a.max) (.string a.dead) (.bool a.fifo) (.int .i64 now) (.int .i64 next) (.slice A' n c') (.slice A2 n2 c2')
      generalize ((((((((((((wr.setCell ⟨w.heap.size, 9, none⟩ (.slice A' n c')).setCell ⟨w.heap.size + 1, 0, none⟩ (.int .i64 a.vis)).setCell ⟨w.heap.size + 1, 1, none⟩ (.int .i64 a.ret)).setCell ⟨w.heap.size + 1, 2, none⟩ (.int .i64 a.del)).setCell ⟨w.heap.size + 1, 3, none⟩ (.int .i64 a.win)).setCell ⟨w.heap.size + 1, 4, none⟩ (.int .i64 a.max)).setCell ⟨w.heap.size + 1, 5, none⟩ (.string a.dead)).setCell ⟨w.heap.size + 1, 6, none⟩ (.bool a.fifo)).setCell ⟨w.heap.size + 1, 7, none⟩ (.int .i64 now)).setCell ⟨w.heap.size + 1, 8, none⟩ (.int .i64 next)).setCell ⟨w.heap.size + 1, 9, none⟩ (.slice A' n c')).setCell ⟨w.heap.size + 1, 10, none⟩ (.slice A2 n2 c2')) = W at *
      obtain ⟨y0, y1, y2, y3, y4, y5, y6, y7, y8, y9, y10, _⟩ := blk11 hW.blk0
      refine bodyPost_ret (v := .tuple #[.agg #[.int .i64 a.vis, .int .i64 a.ret, .int .i64 a.del, .int .i64 a.win, .int .i64 a.max, .string a.dead, .bool a.fifo, .int .i64 now, .int .i64 next, .slice A' n c', .slice A2 n2 c2'], .slice A9 n9 d9, .int .i64 0]) (by simp [results, Tryz.results53, go_sem, y0, y1, y2, y3, y4, y5, y6, y7, y8, y9, y10]) rfl ⟨A', n, c', A9, n9, d9, rfl, ?_⟩
      have hfin := hW.tail.tail.swap
      rw [HK1.out, HK2.out]
      exact hfin
    have i0 : (0 : Int) ≤ (j : Int) := by omega
    have i1 : (j : Int) < (n : Int) := by omega
    have i2 : (n9 : Int) < (nn : Int) := by omega
    obtain ⟨m, hm⟩ : ∃ m, l[j]? = some m := ⟨l[j]'(by have := HLN.out; omega), List.getElem?_eq_getElem _⟩
    have HM := Lib.hid hm
    have hml := mem_at hm
    have hcnt := HI.out.cnt m hml
    have hids := HI.out.ids m hml
    have hnx := HI.out.nxt
    dsimp only at hids hnx
    have HAT := Lib.hid (rcvL_at (ρ := ⟨a, now, next, l, k⟩) (till := now + vs) hm)
    obtain ⟨ad, _, _, rfl, _⟩ := C_nth (Kd.R_reads' HQ.out.tail.head).2.2 j (by rw [List.length_map, rcvL_len]; have := HLN.out; dsimp only; omega)
    obtain ⟨e0, e1, e2, e3, e4, e5, e6⟩ := HQ.out.swap.dmRow HAT.out
    have HRC := Lib.hid (show KDm.C wr (some ad) n ((rcvL ⟨a, now, next, l, k⟩ (now + vs) j).map Msg.doc) by have hR := Kd.R_reads' HQ.out.tail.head; rw [hR.1]; exact hR.2.2)
    have HFB := Lib.hid (show firstB (rcvL ⟨a, now, next, l, k⟩ (now + vs) j) j m = qFirst l m by
      rw [firstB_group _ l rcvL_group, ← firstB_qFirst (ρ := ⟨a, now, next, l, k⟩) HI.out.rise hm])
    clear hm hml cf
    go_upto_region 10 with (fail)
    go_cut [73] (fun b wx => b = .bool (!qRdy ⟨a, now, next, l, k⟩ m) ∧ Hp w0 wx (ADt (.slice A9 n9 d9) (fm l (qRdy ⟨a, now, next, l, k⟩) Msg.tk j) :: ADm (.slice (some ad) n c') (rcvL ⟨a, now, next, l, k⟩ (now + vs) j) :: ABlk (w.heap.size + 1) (.cells #[.int .i64 0, .int .i64 0, .int .i64 0, .int .i64 0, .int .i64 0, .string ⟨#[]⟩, .bool false, .int .i64 0, .int .i64 0, .slice none 0 0, .slice none 0 0] 58) :: ABlk w.heap.size (.cells #[.int .i64 a.vis, .int .i64 a.ret, .int .i64 a.del, .int .i64 a.win, .int .i64 a.max, .string a.dead, .bool a.fifo, .int .i64 now, .int .i64 next, .slice A n c, .slice A2 n2 c2'] 58) :: Ps))
    case first =>
      obtain ⟨R, hR⟩ : ∃ R, R = qRdy ⟨a, now, next, l, k⟩ m := ⟨_, rfl⟩
      have HRR := Lib.hid (show R = (!m.leased && decide (m.at_ ≤ now) && (!a.fifo || qFirst l m)) from hR)
      have HR0 := Lib.hid hR
      clear hR
      have hfi := HFB.out
      obtain ⟨F, hF⟩ : ∃ F, F = qFirst l m := ⟨_, rfl⟩
      rw [← hF] at hfi HRR
      have HFI := Lib.hid hfi
      clear hF hfi HFB
      have htm : m.leased = false → m.time = m.at_ := fun h => by unfold Msg.time; rw [h]; rfl
      cases hl : m.leased
      case' true => obtain rfl : R = false := by rw [HRR.out, hl]; rfl
      case' false =>
        rw [htm hl] at e3
        by_cases ha : m.at_ ≤ now
        case' neg => obtain rfl : R = false := by rw [HRR.out, hl, decide_eq_false ha]; rfl
        case' pos =>
          obtain ⟨ff, hff⟩ : ∃ ff, ff = a.fifo := ⟨_, rfl⟩
          rw [← hff] at HRR c6
          have HFF := Lib.hid hff
          clear hff
          cases ff
          case' false => obtain rfl : R = true := by rw [HRR.out, hl, decide_eq_true ha]; rfl
          case' true =>
            cases F
            case' false => obtain rfl : R = false := by rw [HRR.out, hl, decide_eq_true ha]; rfl
            case' true => obtain rfl : R = true := by rw [HRR.out, hl, decide_eq_true ha]; rfl
      all_goals
        rw [hl] at e4
        clear hl htm HRR
        go_quiet ((go_at_call 78; refine Calls.quiet_of (Calls.mono (refFirst_any _ (some ad) n c' j m _ (Kd.C_below HRC.out (pw_below_drewN (Below.refl _ _) _)) HAT.out) (fun _ _ ⟨h1, q, h2⟩ => ⟨by rw [h1, HFI.out], q, h2⟩))))
        go_wp2_with fail
        go_meet
        case rel => exact ⟨by rw [← HR0.out]; first | rfl | (rw [decide_eq_false (by omega)]; rfl), HQ.out.below (pw_below_drewN (Below.refl _ _) _)⟩
    case rest =>
    obtain ⟨hb, hX⟩ := hcut
    have HX := Lib.hid hX
    cases hrd : qRdy ⟨a, now, next, l, k⟩ m
    case' false => replace hb := hb.trans (show Value.bool (!qRdy ⟨a, now, next, l, k⟩ m) = Value.bool true by rw [hrd]; rfl)
    case' true => replace hb := hb.trans (show Value.bool (!qRdy ⟨a, now, next, l, k⟩ m) = Value.bool false by rw [hrd]; rfl)
    all_goals
      subst hb
      have HRD := Lib.hid hrd
      clear hX hrd c0 c1 c2 c3 c4 c5 c6 c7 c8 c9 c10 e0 e1 e2 e3 e4 e5 e6
    case false =>
      go_wp2_with fail
      refine ⟨⟨j + 1, by simp, by omega, ?_, ?_⟩, ?_⟩
      · rw [fm_no HM.out HRD.out, ← HN9.out]
        exact hcn
      · rw [fm_no HM.out HRD.out, rcvL_no HM.out HRD.out]
        exact HX.out
      · simp [intOf]
        omega
    case true =>
      have hx : ((rcvL ⟨a, now, next, l, k⟩ (now + vs) j).map Msg.doc)[j]? = some m.doc := by rw [List.getElem?_map, HAT.out]; rfl
      have hlm : j < ((rcvL ⟨a, now, next, l, k⟩ (now + vs) j).map Msg.doc).length := (List.getElem?_eq_some_iff.1 hx).1
      obtain ⟨_, _, e2, e3, e4, _, _⟩ := HX.out.swap.dmRow HAT.out
      obtain ⟨f4, hP1⟩ := HX.out.swap.dmPutA hx (f := 4) (x' := (m.id, (m.sent, (m.count, (m.time, (true, (m.body, m.group))))))) (u := .bool true) (by decide) rfl
      have hx1 : (((rcvL ⟨a, now, next, l, k⟩ (now + vs) j).map Msg.doc).set j (m.id, (m.sent, (m.count, (m.time, (true, (m.body, m.group)))))))[j]? = some (m.id, (m.sent, (m.count, (m.time, (true, (m.body, m.group)))))) := by rw [List.getElem?_set_self hlm]
      have g3 := hP1.dmCell hx1 (f := 3) (by decide) rfl
      have p7 := (blk11 hP1.tail.tail.blk1).2.2.2.2.2.2.2.1
      obtain ⟨f3, hP2⟩ := hP1.dmPutA hx1 (f := 3) (x' := (m.id, (m.sent, (m.count, (now + vs, (true, (m.body, m.group))))))) (u := .int .i64 (now + vs)) (by decide) rfl
      rw [List.set_set] at hP2
      have hx2 : (((rcvL ⟨a, now, next, l, k⟩ (now + vs) j).map Msg.doc).set j (m.id, (m.sent, (m.count, (now + vs, (true, (m.body, m.group)))))))[j]? = some (m.id, (m.sent, (m.count, (now + vs, (true, (m.body, m.group)))))) := by rw [List.getElem?_set_self hlm]
      have g2 := hP2.dmCell hx2 (f := 2) (by decide) rfl
      obtain ⟨f2, hP3⟩ := hP2.dmPutA hx2 (f := 2) (x' := (m.take (now + vs)).doc) (u := .int .i64 (m.count + 1)) (by decide) rfl
      rw [List.set_set, ← List.map_set] at hP3
      have HLS := Lib.hid (show rcvL ⟨a, now, next, l, k⟩ (now + vs) (j + 1) = (rcvL ⟨a, now, next, l, k⟩ (now + vs) j).set j (m.take (now + vs)) by rw [rcvL_succ HM.out, HRD.out]; rfl)
      rw [← HLS.out] at hP3
      have HP3 := Lib.hid hP3.swap
      have hs1 := HSUM.out
      have hs2 : IntKind.i64.wrap (m.count + 1) = m.count + 1 := IntWalk.i64_in _ (by omega)
      clear hx hlm hP1 hx1 hP2 hx2 hP3
      go_upto_region 14 with (fail)
      clear e2 e3 e4 f4 g3 p7 f3 g2 f2 hs1 hs2
      generalize ((wc.setCell ⟨(ad.add (j * 7)).block, (ad.add (j * 7)).off + 4, none⟩ (.bool true)).setCell ⟨(ad.add (j * 7)).block, (ad.add (j * 7)).off + 3, none⟩ (.int .i64 (now + vs))).setCell ⟨(ad.add (j * 7)).block, (ad.add (j * 7)).off + 2, none⟩ (.int .i64 (m.count + 1)) = W at *
      have HA2 := Lib.hid (show (rcvL ⟨a, now, next, l, k⟩ (now + vs) (j + 1))[j]? = some (m.take (now + vs)) by
        rw [HLS.out, List.getElem?_set_self]
        rw [rcvL_len]
        have := HLN.out
        dsimp only
        omega)
      obtain ⟨b0, b1, b2, b3, b4, b5, b6⟩ := HP3.out.swap.dmRow HA2.out
      have hq1 : 0 ≤ m.id ∧ m.id < 9223372036854775807 := by omega
      have hq2 : 0 ≤ m.count + 1 ∧ m.count + 1 < 9223372036854775807 := by omega
      have HRP := Lib.hid (fun w1 => refReceipt_any m.id m.sent (m.count + 1) (now + vs) true m.body m.group w1 hq1 hq2)
      have HTKL := Lib.hid (show (fm l (qRdy ⟨a, now, next, l, k⟩) Msg.tk j).length ≤ 1024 by have := HN9.out; omega)
      clear hq1 hq2
      go_region_held3 (fun w' => w'.cell? (ad.add (j * 7)) = some (.int .i64 m.id) ∧ w'.cell? ⟨(ad.add (j * 7)).block, (ad.add (j * 7)).off + 1, none⟩ = some (.int .i64 m.sent) ∧ w'.cell? ⟨(ad.add (j * 7)).block, (ad.add (j * 7)).off + 2, none⟩ = some (.int .i64 (m.count + 1)) ∧ w'.cell? ⟨(ad.add (j * 7)).block, (ad.add (j * 7)).off + 3, none⟩ = some (.int .i64 (now + vs)) ∧ w'.cell? ⟨(ad.add (j * 7)).block, (ad.add (j * 7)).off + 4, none⟩ = some (.bool true) ∧ w'.cell? ⟨(ad.add (j * 7)).block, (ad.add (j * 7)).off + 5, none⟩ = some (.string m.body) ∧ w'.cell? ⟨(ad.add (j * 7)).block, (ad.add (j * 7)).off + 6, none⟩ = some (.string m.group))
        (first | exact ⟨b0, b1, b2, b3, b4, b5, b6⟩ | exact ⟨r0, r1, r2, r3, r4, r5, r6⟩ | exact ⟨s0, s1, s2, s3, s4, s5, s6⟩ | go_keep)
        (first
          | (go_at_call 79; refine Calls.mono (HRP.out _) ?_; rintro e w8 ⟨rfl, hB8⟩; have HP8 := Lib.hid (HP3.out.below (by first | exact hB8 | exact below_undrew hB8)); obtain ⟨r0, r1, r2, r3, r4, r5, r6⟩ := HP8.out.swap.dmRow HA2.out; have HPA := Lib.hid (HP8.out.alloc (.cells #[.int .i64 m.id, .int .i64 (m.count + 1), .string (receipt m.id (m.count + 1)), .string m.body, .string m.group] 147)); have HCA := Lib.hid (C_one_tk m.tk HPA.out.blk0); obtain ⟨s0, s1, s2, s3, s4, s5, s6⟩ := HPA.out.up2.dmRow HA2.out; obtain ⟨okr, hR1, hR2, hR3⟩ := HPA.out.swap.appended; have HR1 := Lib.hid hR1; have HR2 := Lib.hid hR2; have HR3 := Lib.hid hR3; clear hB8 hR1 hR2 hR3)
          | (refine Kd.R_append_rows_step KTk (w0 := (w8.alloc (.cells #[.int .i64 m.id, .int .i64 (m.count + 1), .string (receipt m.id (m.count + 1)), .string m.body, .string m.group] 147))) 0 (by rfl) (.tmp 96) (.tmp 123) 101 147 (.agg #[.int .i64 0, .int .i64 0, .string ⟨#[]⟩, .string ⟨#[]⟩, .string ⟨#[]⟩]) 64 rfl Tryz.underlying101 info_dt rfl (by decide) (by omega) (.slice A9 n9 d9) (fm l (qRdy ⟨a, now, next, l, k⟩) Msg.tk j) [m.tk] (some ⟨w8.heap.size, 0, none⟩) 1 1 okr (fun _ => False) rfl rfl (by exact HR1.out) (by exact HCA.out) (fun _ _ h => h) (fun _ h => h.elim) (by exact HR2.out) (Below.refl _ _) (Nat.zero_le _) (by have := HTKL.out; omega) ?_; intro v9 w9 hR9 _ hg9 hat9; have HP9 := Lib.hid (HR3.out v9 w9 _ hR9 ⟨hg9.os, hg9.tape, hg9.output, hg9.size, hg9.block⟩).drop1; obtain ⟨r0, r1, r2, r3, r4, r5, r6⟩ := HP9.out.swap.dmRow HA2.out; clear hR9 hg9 hat9))
      go_wp2_with fail
      refine ⟨⟨j + 1, by simp, by omega, ?_, ?_⟩, ?_⟩
      · rw [fm_yes HM.out HRD.out, List.length_append, ← HN9.out]
        simp
        omega
      · rw [fm_yes HM.out HRD.out]
        exact HP9.out
      · simp [intOf]
        omega
/-- A Receive. -/
theorem Hp.refRcv {A A2 : Option Addr} {n c n2 c2' : Nat} (h : Hp w0 w (ADm (.slice A n c) ρ.l :: Ps)) (hi : QInv ρ T) (hT6 : T ≤ 1000000) (num vis : Int) :
    Calls Tryz.prog 53 #[ρ.val (.slice A n c) (.slice A2 n2 c2'), .int .i64 num, .int .i64 vis] w fun e w' => ∃ A' n' c' A1 n1 c1, e = .returned (.tuple #[(qRcv ρ num vis).1.val (.slice A' n' c') (.slice A2 n2 c2'), .slice A1 n1 c1, .int .i64 (qRcv ρ num vis).2.2]) ∧ Hp w0 w' (ADm (.slice A' n' c') (qRcv ρ num vis).1.l :: ADt (.slice A1 n1 c1) (qRcv ρ num vis).2.1 :: Ps) := by
  cases hm : qMayRecv num vis with
  | false =>
    have e2 : qRcv ρ num vis = (ρ, ([], 1)) := by unfold qRcv; rw [if_neg (by rw [hm]; decide)]
    rw [e2]
    refine Calls.mono (h.refRcvNot num vis hm) ?_
    rintro e w' ⟨rfl, h2⟩
    exact ⟨A, n, c, none, 0, 0, rfl, (h2.fresh (Below.refl _ _) (Kd.R_nil _ _ _ _ _)).swap⟩
  | true =>
    have e2 : qRcv ρ num vis = (qRecv ρ num.toNat (if vis = 0 then ρ.a.vis else vis), ((qTook ρ num.toNat).map Msg.tk, 0)) := by unfold qRcv; rw [if_pos hm]
    unfold qMayRecv at hm
    rw [decide_eq_true_iff] at hm
    have hr := hi.right
    unfold qRight at hr
    rw [decide_eq_true_iff] at hr
    rw [e2]
    have h3 := h.refRcvDo hi hT6 (A2 := A2) (n2 := n2) (c2' := c2') num.toNat vis (if vis = 0 then ρ.a.vis else vis) (by omega) (by omega) rfl (by split <;> omega)
    rw [show ((num.toNat : Nat) : Int) = num by omega] at h3
    exact h3
end
end Go.Proofs.YtoclcmnphdgfpaaGreatDoor
set_option linter.unusedVariables false
set_option linter.unusedSimpArgs false
namespace Go.Proofs.YtoclcmnphdgfpaaGreatDoor
open Go.RowKit Go.Maps Go.Proofs.YtoclcmnphdgfpaaGreatDoorW.PrintWords
theorem str_beq (a b : ByteArray) : (a.toList == b.toList) = decide (a = b) := by
  by_cases h : a = b
  · subst h; simp
  · rw [decide_eq_false h, beq_eq_false_iff_ne, Go.ByteArray.toList_eq, Go.ByteArray.toList_eq]
    exact fun e => h (ByteArray.ext (Array.toList_inj.1 e))
theorem int_beq (a b : Int) : (a == b) = decide (a = b) := rfl
theorem bool_beq (a b : Bool) : (a == b) = decide (a = b) := by cases a <;> cases b <;> rfl
theorem neqTk (x y : Tk) (W : World) : (Go.binOp .neq 147 (.agg #[.int .i64 x.1, .int .i64 x.2.1, .string x.2.2.1, .string x.2.2.2.1, .string x.2.2.2.2]) (.agg #[.int .i64 y.1, .int .i64 y.2.1, .string y.2.2.1, .string y.2.2.2.1, .string y.2.2.2.2])).run Tryz.prog W = .ok (.bool (!decide (x = y))) W := by
  have h := eqA_of (P := Tryz.prog) (d := 9999) (w := W) Tryz.underlying147 (by kernel_rfl) (r := (x.1 == y.1) && ((x.2.1 == y.2.1) && ((x.2.2.1.toList == y.2.2.1.toList) && ((x.2.2.2.1.toList == y.2.2.2.1.toList) && (x.2.2.2.2.toList == y.2.2.2.2.toList)))))
    (xs := #[.int .i64 x.1, .int .i64 x.2.1, .string x.2.2.1, .string x.2.2.2.1, .string x.2.2.2.2]) (ys := #[.int .i64 y.1, .int .i64 y.2.1, .string y.2.2.1, .string y.2.2.2.1, .string y.2.2.2.2])
    (eqf_cons (by rfl) (a := .int .i64 _) (b := .int .i64 _) (by go_simp) (by go_simp) (run_equalIn_int _ _ _ .i64 .i64 _ _ (by kernel_rfl))
     (eqf_cons (by rfl) (a := .int .i64 _) (b := .int .i64 _) (by go_simp) (by go_simp) (run_equalIn_int _ _ _ .i64 .i64 _ _ (by kernel_rfl))
     (eqf_cons (by rfl) (by go_simp) (by go_simp) (run_equalIn_string _ _ _ _ _ (by kernel_rfl))
     (eqf_cons (by rfl) (by go_simp) (by go_simp) (run_equalIn_string _ _ _ _ _ (by kernel_rfl))
     (eqf_last (by rfl) (by go_simp) (by go_simp) (run_equalIn_string _ _ _ _ _ (by kernel_rfl)))))))
  have e : ((x.1 == y.1) && ((x.2.1 == y.2.1) && ((x.2.2.1.toList == y.2.2.1.toList) && ((x.2.2.2.1.toList == y.2.2.2.1.toList) && (x.2.2.2.2.toList == y.2.2.2.2.toList))))) = decide (x = y) := by
    rw [str_beq, str_beq, str_beq, int_beq, int_beq]
    obtain ⟨a, b, c, d, e⟩ := x
    obtain ⟨a', b', c', d', e'⟩ := y
    simp only [Prod.mk.injEq, Bool.decide_and]
  rw [run_neq_struct, h, Result.andThen_ok, e]
theorem neqLt (x y : Lt) (W : World) : (Go.binOp .neq 142 (.agg #[.int .i64 x.1, .int .i64 x.2.1, .string x.2.2.1, .string x.2.2.2]) (.agg #[.int .i64 y.1, .int .i64 y.2.1, .string y.2.2.1, .string y.2.2.2])).run Tryz.prog W = .ok (.bool (!decide (x = y))) W := by
  have h := eqA_of (P := Tryz.prog) (d := 9999) (w := W) Tryz.underlying142 (by kernel_rfl) (r := (x.1 == y.1) && ((x.2.1 == y.2.1) && ((x.2.2.1.toList == y.2.2.1.toList) && (x.2.2.2.toList == y.2.2.2.toList))))
    (xs := #[.int .i64 x.1, .int .i64 x.2.1, .string x.2.2.1, .string x.2.2.2]) (ys := #[.int .i64 y.1, .int .i64 y.2.1, .string y.2.2.1, .string y.2.2.2])
    (eqf_cons (by rfl) (a := .int .i64 _) (b := .int .i64 _) (by go_simp) (by go_simp) (run_equalIn_int _ _ _ .i64 .i64 _ _ (by kernel_rfl))
     (eqf_cons (by rfl) (a := .int .i64 _) (b := .int .i64 _) (by go_simp) (by go_simp) (run_equalIn_int _ _ _ .i64 .i64 _ _ (by kernel_rfl))
     (eqf_cons (by rfl) (by go_simp) (by go_simp) (run_equalIn_string _ _ _ _ _ (by kernel_rfl))
     (eqf_last (by rfl) (by go_simp) (by go_simp) (run_equalIn_string _ _ _ _ _ (by kernel_rfl))))))
  have e : ((x.1 == y.1) && ((x.2.1 == y.2.1) && ((x.2.2.1.toList == y.2.2.1.toList) && (x.2.2.2.toList == y.2.2.2.toList)))) = decide (x = y) := by
    rw [str_beq, str_beq, int_beq, int_beq]
    obtain ⟨a, b, c, d⟩ := x
    obtain ⟨a', b', c', d'⟩ := y
    simp only [Prod.mk.injEq, Bool.decide_and]
  rw [run_neq_struct, h, Result.andThen_ok, e]
theorem eqQA (x y : QA) (W : World) : (Op.equalIn 10000 54 (.agg #[.int .i64 x.vis, .int .i64 x.ret, .int .i64 x.del, .int .i64 x.win, .int .i64 x.max, .string x.dead, .bool x.fifo]) (.agg #[.int .i64 y.vis, .int .i64 y.ret, .int .i64 y.del, .int .i64 y.win, .int .i64 y.max, .string y.dead, .bool y.fifo])).run Tryz.prog W = .ok ((x.vis == y.vis) && ((x.ret == y.ret) && ((x.del == y.del) && ((x.win == y.win) && ((x.max == y.max) && ((x.dead.toList == y.dead.toList) && (x.fifo == y.fifo))))))) W :=
  eqA_of (P := Tryz.prog) (d := 9999) (w := W) Tryz.underlying54 (by kernel_rfl)
    (xs := #[.int .i64 x.vis, .int .i64 x.ret, .int .i64 x.del, .int .i64 x.win, .int .i64 x.max, .string x.dead, .bool x.fifo]) (ys := #[.int .i64 y.vis, .int .i64 y.ret, .int .i64 y.del, .int .i64 y.win, .int .i64 y.max, .string y.dead, .bool y.fifo])
    (eqf_cons (by rfl) (a := .int .i64 _) (b := .int .i64 _) (by go_simp) (by go_simp) (run_equalIn_int _ _ _ .i64 .i64 _ _ (by kernel_rfl))
     (eqf_cons (by rfl) (a := .int .i64 _) (b := .int .i64 _) (by go_simp) (by go_simp) (run_equalIn_int _ _ _ .i64 .i64 _ _ (by kernel_rfl))
     (eqf_cons (by rfl) (a := .int .i64 _) (b := .int .i64 _) (by go_simp) (by go_simp) (run_equalIn_int _ _ _ .i64 .i64 _ _ (by kernel_rfl))
     (eqf_cons (by rfl) (a := .int .i64 _) (b := .int .i64 _) (by go_simp) (by go_simp) (run_equalIn_int _ _ _ .i64 .i64 _ _ (by kernel_rfl))
     (eqf_cons (by rfl) (a := .int .i64 _) (b := .int .i64 _) (by go_simp) (by go_simp) (run_equalIn_int _ _ _ .i64 .i64 _ _ (by kernel_rfl))
     (eqf_cons (by rfl) (by go_simp) (by go_simp) (run_equalIn_string _ _ _ _ _ (by kernel_rfl))
     (eqf_last (by rfl) (by go_simp) (by go_simp) (run_equalIn_bool' _ _ _ _ _ (by kernel_rfl)))))))))
set_option maxHeartbeats 1600000 in
set_option maxRecDepth 100000 in
theorem took_any (A A2 : Option Addr) (n c n2 c2 : Nat) (xs ys : List Tk) (w : World) (hC : KTk.C w A n xs) (hD : KTk.C w A2 n2 ys) :
    Calls Tryz.prog 54 #[.slice A n c, .slice A2 n2 c2] w fun e w' => (∃ b, (xs = ys → b = true) ∧ e = .returned (.bool b)) ∧ Below w.heap.size w w' := by
  have HC := Lib.hid hC
  have HD := Lib.hid hD
  have HN := Lib.hid (Kd.C_len hC)
  have HN2 := Lib.hid (Kd.C_len hD)
  have hm := Kd.C_max hC
  clear hC hD
  by_cases hn : n = n2
  case neg =>
    have hne : ((n : Int) != (n2 : Int)) = true := by simp; omega
    have HX := Lib.hid (show xs = ys → false = true from fun e => absurd (by rw [← HN.out, ← HN2.out, e]) hn)
    clear hn
    go_enter Tryz.func54, Tryz.ntmps54
    go_wp2_with fail
    go_ret
    exact ⟨⟨false, HX.out, rfl⟩, Below.refl _ _⟩
  subst hn
  have hne : ((n : Int) != (n : Int)) = false := by simp
  go_enter Tryz.func54, Tryz.ntmps54
  go_wp2_with fail
  go_loopw [14] (fun i wr => ∃ j : Nat, i = .int .i64 j ∧ j ≤ n ∧ Hp w wr []) (fun i _ => n - (intOf i).toNat)
  case atStart => exact ⟨0, rfl, Nat.zero_le _, Hp.nil w⟩
  case round =>
    obtain ⟨j, rfl, hj, hQ⟩ := hrel
    have HQ := Lib.hid hQ
    clear hQ
    by_cases hjn : j < n
    · have i0 : (0 : Int) ≤ (j : Int) := by omega
      have i1 : (j : Int) < (n : Int) := by omega
      obtain ⟨ad, x, rfl, hx, d0, d1, d2, d3, d4⟩ := C_nth_tk (Kd.C_below HC.out HQ.out.belowW) j hjn
      have HA := Lib.hid (HQ.out.alloc (.cells #[.int .i64 x.1, .int .i64 x.2.1, .string x.2.2.1, .string x.2.2.2.1, .string x.2.2.2.2] 38))
      obtain ⟨bd, y, rfl, hy, e0, e1, e2, e3, e4⟩ := C_nth_tk (Kd.C_below HD.out HA.out.belowW) j hjn
      obtain ⟨b, hb⟩ : ∃ b, b = !decide (x = y) := ⟨_, rfl⟩
      have hne2 := neqTk x y
      rw [← hb] at hne2
      have HB := Lib.hid hb
      have HX := Lib.hid hx
      have HY := Lib.hid hy
      clear hb hx hy
      go_upto_region 6 with (fail)
      have b0 := blk_cell HA.out.blk0 0
      have b1 := blk_cell HA.out.blk0 1
      have b2 := blk_cell HA.out.blk0 2
      have b3 := blk_cell HA.out.blk0 3
      have b4 := blk_cell HA.out.blk0 4
      simp only [List.getElem?_toArray, List.getElem?_cons_zero, List.getElem?_cons_succ] at b0 b1 b2 b3 b4
      obtain ⟨mb, hmb⟩ : ∃ mb, mb = wr.heap.size := ⟨_, rfl⟩
      rw [← hmb] at b0 b1 b2 b3 b4 ⊢
      clear hmb d0 d1 d2 d3 d4
      generalize wr.alloc (.cells #[.int .i64 x.1, .int .i64 x.2.1, .string x.2.2.1, .string x.2.2.2.1, .string x.2.2.2.2] 38) = W at *
      go_quiet (fail)
      have HQ2 := Lib.hid ((HA.out.below (pw_below_drewN (Below.refl _ _) nq)).forget)
      clear b0 b1 b2 b3 b4 e0 e1 e2 e3 e4 hne2
      cases b
      · go_wp2_with fail
        refine ⟨⟨j + 1, by simp, by omega, HQ2.out⟩, ?_⟩
        simp [intOf]
        omega
      · have HE := Lib.hid (show xs = ys → false = true from fun e => by
          have h1 := HX.out
          rw [e, HY.out] at h1
          have h2 := HB.out
          rw [decide_eq_true (Option.some.inj h1).symm] at h2
          cases h2)
        go_wp2_with fail
        go_ret
        exact ⟨⟨false, HE.out, rfl⟩, HQ2.out.belowW⟩
    · have hj' : j = n := by omega
      subst hj'
      go_wp2_with fail
      go_ret
      exact ⟨⟨true, fun _ => rfl, rfl⟩, HQ.out.belowW⟩
end Go.Proofs.YtoclcmnphdgfpaaGreatDoor
set_option linter.unusedVariables false
set_option linter.unusedSimpArgs false
namespace Go.Proofs.YtoclcmnphdgfpaaGreatDoor
open Go.RowKit Go.Maps Go.Proofs.YtoclcmnphdgfpaaGreatDoorW.PrintWords
theorem KLt_inv {w : World} {x : Lt} {c : List Value} (h : KLt.K w x c) : c = [.int .i64 x.1, .int .i64 x.2.1, .string x.2.2.1, .string x.2.2.2] := by
  obtain ⟨c0, d0, rfl, h0, c1, d1, rfl, h1, c2, d2, rfl, h2, h3⟩ := h
  have h0 : c0 = [.int .i64 x.1] := h0
  have h1 : c1 = [.int .i64 x.2.1] := h1
  have h2 : c2 = [.string x.2.2.1] := h2
  have h3 : d2 = [.string x.2.2.2] := h3
  subst h0 h1 h2 h3
  rfl
theorem C_nth_lt {w : World} {A : Option Addr} {n : Nat} {l : List Lt} (h : KLt.C w A n l) (k : Nat) (hk : k < n) :
    ∃ ad x, A = some ad ∧ l[k]? = some x ∧ w.cell? (ad.add (k * 4)) = some (.int .i64 x.1) ∧ w.cell? ⟨(ad.add (k * 4)).block, (ad.add (k * 4)).off + 1, none⟩ = some (.int .i64 x.2.1) ∧ w.cell? ⟨(ad.add (k * 4)).block, (ad.add (k * 4)).off + 2, none⟩ = some (.string x.2.2.1) ∧ w.cell? ⟨(ad.add (k * 4)).block, (ad.add (k * 4)).off + 3, none⟩ = some (.string x.2.2.2) := by
  obtain ⟨ad, x, c, hA, hx, _, hK, h3⟩ := C_nth h k hk
  have hc := KLt_inv hK
  subst hc
  have hsz : KLt.sz = 4 := rfl
  rw [hsz] at h3
  refine ⟨ad, x, hA, hx, h3 0 _ rfl, ?_, ?_, ?_⟩
  · have := h3 1 _ rfl; rw [← add_field ad _ 1 (by omega)]; exact this
  · have := h3 2 _ rfl; rw [← add_field ad _ 2 (by omega)]; exact this
  · have := h3 3 _ rfl; rw [← add_field ad _ 3 (by omega)]; exact this
section
variable {w0 w : World} {σ ρ : Qs} {Ps : List Asn} {qb T T' : Nat}
theorem Hp.up8 {P Q R S U V W X Y : Asn} (h : Hp w0 w (P :: Q :: R :: S :: U :: V :: W :: X :: Y :: Ps)) : Hp w0 w (Y :: P :: Q :: R :: S :: U :: V :: W :: X :: Ps) := h.perm (List.perm_middle (l₁ := [P, Q, R, S, U, V, W, X]))
theorem Hp.up9 {P Q R S U V W X Y Z : Asn} (h : Hp w0 w (P :: Q :: R :: S :: U :: V :: W :: X :: Y :: Z :: Ps)) : Hp w0 w (Z :: P :: Q :: R :: S :: U :: V :: W :: X :: Y :: Ps) := h.perm (List.perm_middle (l₁ := [P, Q, R, S, U, V, W, X, Y]))
set_option maxHeartbeats 6400000 in
set_option maxRecDepth 100000 in
theorem Hp.ticked {A A2 : Option Addr} {n c n2 c2' : Nat} (h : Hp w0 w (ADm (.slice A n c) ρ.l :: AKy (.slice A2 n2 c2') ρ.k :: AQu qb σ T :: Ps)) (hi : QInv ρ T') (hT6 : T ≤ 1000000) (hT7 : T' ≤ 1000000) (t : Int) :
    Calls Tryz.prog 51 #[.pointer (some ⟨qb, 0, none⟩), ρ.val (.slice A n c) (.slice A2 n2 c2'), .int .i64 t] w fun e w' => ∃ b A' n' c' B' m' d', (σ = ρ → b = true) ∧ e = .returned (.tuple #[(qTck ρ t).1.val (.slice A' n' c') (.slice B' m' d'), .bool b]) ∧ Hp w0 w' (ADm (.slice A' n' c') (qTck ρ t).1.l :: AKy (.slice B' m' d') (qTck ρ t).1.k :: AQu qb (qTck σ t).1 T :: Ps) := by
  obtain ⟨⟨a1, now1, next1, l1, k1⟩, hs1⟩ : ∃ s1, s1 = (qTck ρ t).1 := ⟨_, rfl⟩
  obtain ⟨σ1, hs2⟩ : ∃ s1, s1 = (qTck σ t).1 := ⟨_, rfl⟩
  obtain ⟨dl, hdl⟩ : ∃ d, d = (qTck ρ t).2.1 := ⟨_, rfl⟩
  obtain ⟨gl, hgl⟩ : ∃ d, d = (qTck ρ t).2.2 := ⟨_, rfl⟩
  obtain ⟨dq, hdq⟩ : ∃ d, d = (qTck σ t).2.1 := ⟨_, rfl⟩
  obtain ⟨gq, hgq⟩ : ∃ d, d = (qTck σ t).2.2 := ⟨_, rfl⟩
  have HEQ := Lib.hid (show σ = ρ → dq = dl ∧ gq = gl from fun e => by rw [hdl, hgl, hdq, hgq, e]; exact ⟨rfl, rfl⟩)
  have HS1 := Lib.hid hs1
  have HS2 := Lib.hid hs2
  have hrt := fun (w0 w : World) (Ps : List Asn) (h : Hp w0 w (ADm (.slice A n c) ρ.l :: AKy (.slice A2 n2 c2') ρ.k :: Ps)) => h.refTck hi hT7 t
  rw [← hdl, ← hgl, ← hs1] at hrt
  have hqt := fun (w0 w : World) (Ps : List Asn) (h : Hp w0 w (AQu qb σ T :: Ps)) => h.quTck hT6 t
  rw [← hdq, ← hgq, ← hs2] at hqt
  have HRT := Lib.hid hrt
  have HQT := Lib.hid hqt
  obtain ⟨a, now, next, l, k⟩ := ρ
  have HB := Lib.hid (h.alloc (.cells #[.int .i64 a.vis, .int .i64 a.ret, .int .i64 a.del, .int .i64 a.win, .int .i64 a.max, .string a.dead, .bool a.fifo, .int .i64 now, .int .i64 next, .slice A n c, .slice A2 n2 c2'] 58))
  have HZ := Lib.hid (HB.out.alloc (.cells #[.int .i64 0, .int .i64 0, .int .i64 0, .int .i64 0, .int .i64 0, .string ⟨#[]⟩, .bool false, .int .i64 0, .int .i64 0, .slice none 0 0, .slice none 0 0] 58))
  have hsz1 : (w.alloc (.cells #[.int .i64 a.vis, .int .i64 a.ret, .int .i64 a.del, .int .i64 a.win, .int .i64 a.max, .string a.dead, .bool a.fifo, .int .i64 now, .int .i64 next, .slice A n c, .slice A2 n2 c2'] 58)).heap.size = w.heap.size + 1 := by simp
  rw [hsz1] at HZ
  rw [show Qs.val ⟨a, now, next, l, k⟩ (.slice A n c) (.slice A2 n2 c2') = .agg #[.int .i64 a.vis, .int .i64 a.ret, .int .i64 a.del, .int .i64 a.win, .int .i64 a.max, .string a.dead, .bool a.fifo, .int .i64 now, .int .i64 next, .slice A n c, .slice A2 n2 c2'] from rfl]
  have H0 := Lib.hid (show Qs.val ⟨a, now, next, l, k⟩ (.slice A n c) (.slice A2 n2 c2') = .agg #[.int .i64 a.vis, .int .i64 a.ret, .int .i64 a.del, .int .i64 a.win, .int .i64 a.max, .string a.dead, .bool a.fifo, .int .i64 now, .int .i64 next, .slice A n c, .slice A2 n2 c2'] from rfl)
  clear h hi hsz1 hs1 hs2 hdl hgl hdq hgq hrt hqt
  obtain ⟨c0, c1, c2, c3, c4, c5, c6, c7, c8, c9, c10, cf⟩ := blk11 HZ.out.blk1
  clear cf
  go_enter Tryz.func51, Tryz.ntmps51
  go_wp2_with fail
  rw [← H0.out]
  refine Calls.mono (HRT.out _ _ _ HZ.out.up3.up3) ?_
  rintro e w2 ⟨A1, n1, c1', B1, m1, d1, A3, n3, c3', A4, n4, c4', hn3, hn4, rfl, hP⟩
  rw [show Qs.val ⟨a1, now1, next1, l1, k1⟩ (.slice A1 n1 c1') (.slice B1 m1 d1) = .agg #[.int .i64 a1.vis, .int .i64 a1.ret, .int .i64 a1.del, .int .i64 a1.win, .int .i64 a1.max, .string a1.dead, .bool a1.fifo, .int .i64 now1, .int .i64 next1, .slice A1 n1 c1', .slice B1 m1 d1] from rfl]
  have HN3 := Lib.hid hn3
  have HN4 := Lib.hid hn4
  have HP := Lib.hid (hP.alloc (.cells #[.int .i64 a1.vis, .int .i64 a1.ret, .int .i64 a1.del, .int .i64 a1.win, .int .i64 a1.max, .string a1.dead, .bool a1.fifo, .int .i64 now1, .int .i64 next1, .slice A1 n1 c1', .slice B1 m1 d1] 58))
  clear c0 c1 c2 c3 c4 c5 c6 c7 c8 c9 c10 hn3 hn4 hP
  go_wp2_with fail
  refine Calls.mono (HQT.out _ _ _ HP.out.up7) ?_
  rintro e w3 ⟨A5, n5, c5, A6, n6, c6, hn5, hn6, rfl, hP⟩
  have HN5 := Lib.hid hn5
  have HN6 := Lib.hid hn6
  obtain ⟨nb, hnb⟩ : ∃ nb, nb = w2.heap.size := ⟨_, rfl⟩
  rw [← hnb] at hP ⊢
  have hP := hP.up8.up4.swap.up9.tail
  have hP : Hp w0 w3 (ABlk (w.heap.size + 1) (.cells #[.int .i64 0, .int .i64 0, .int .i64 0, .int .i64 0, .int .i64 0, .string ⟨#[]⟩, .bool false, .int .i64 0, .int .i64 0, .slice none 0 0, .slice none 0 0] 58) :: ABlk nb (.cells #[.int .i64 a1.vis, .int .i64 a1.ret, .int .i64 a1.del, .int .i64 a1.win, .int .i64 a1.max, .string a1.dead, .bool a1.fifo, .int .i64 now1, .int .i64 next1, .slice A1 n1 c1', .slice B1 m1 d1] 58) :: ALt (.slice A5 n5 c5) dq :: AInt (.slice A6 n6 c6) gq :: AQu qb σ1 T :: ADm (.slice A1 n1 c1') l1 :: AKy (.slice B1 m1 d1) k1 :: ADl (.slice A3 n3 c3') dl :: AInt (.slice A4 n4 c4') gl :: Ps) := hP
  have HP := Lib.hid hP
  clear hP hnb
  by_cases hnn : n5 = n3
  case neg =>
    have hne : ((n5 : Int) != (n3 : Int)) = true := by simp; omega
    have HF := Lib.hid (show σ = ⟨a, now, next, l, k⟩ → false = true from fun e => absurd (by rw [HN5.out, HN3.out, (HEQ.out e).1]) hnn)
    clear hnn hn5 hn6
    obtain ⟨t0, t1, t2, t3, t4, t5, t6, t7, t8, t9, t10, _⟩ := blk11 HP.out.blk1
    obtain ⟨z0, z1, z2, z3, z4, z5, z6, z7, z8, z9, z10, zf⟩ := blk11 HP.out.blk0
    go_wp2_with fail
    have hW := HP.out.set11 (.int .i64 a1.vis) (.int .i64 a1.ret) (.int .i64 a1.del) (.int .i64 a1.win) (.int .i64 a1.max) (.string a1.dead) (.bool a1.fifo) (.int .i64 now1) (.int .i64 next1) (.slice A1 n1 c1') (.slice B1 m1 d1)
    generalize (((((((((((w3.setCell ⟨w.heap.size + 1, 0, none⟩ (.int .i64 a1.vis)).setCell ⟨w.heap.size + 1, 1, none⟩ (.int .i64 a1.ret)).setCell ⟨w.heap.size + 1, 2, none⟩ (.int .i64 a1.del)).setCell ⟨w.heap.size + 1, 3, none⟩ (.int .i64 a1.win)).setCell ⟨w.heap.size + 1, 4, none⟩ (.int .i64 a1.max)).setCell ⟨w.heap.size + 1, 5, none⟩ (.string a1.dead)).setCell ⟨w.heap.size + 1, 6, none⟩ (.bool a1.fifo)).setCell ⟨w.heap.size + 1, 7, none⟩ (.int .i64 now1)).setCell ⟨w.heap.size + 1, 8, none⟩ (.int .i64 next1)).setCell ⟨w.heap.size + 1, 9, none⟩ (.slice A1 n1 c1')).setCell ⟨w.heap.size + 1, 10, none⟩ (.slice B1 m1 d1)) = WW at *
    obtain ⟨y0, y1, y2, y3, y4, y5, y6, y7, y8, y9, y10, _⟩ := blk11 hW.blk0
    exact bodyPost_ret (v := .tuple #[.agg #[.int .i64 a1.vis, .int .i64 a1.ret, .int .i64 a1.del, .int .i64 a1.win, .int .i64 a1.max, .string a1.dead, .bool a1.fifo, .int .i64 now1, .int .i64 next1, .slice A1 n1 c1', .slice B1 m1 d1], .bool false]) (by simp [results, Tryz.results51, go_sem, y0, y1, y2, y3, y4, y5, y6, y7, y8, y9, y10]) rfl ⟨false, A1, n1, c1', B1, m1, d1, HF.out, by rw [← HS1.out]; rfl, by rw [← HS1.out, ← HS2.out]; exact hW.tail.tail.tail.tail.down2.up3.tail.up3.tail⟩
  have hnx := hnn
  subst hnx
  by_cases hmm : n6 = n4
  case neg =>
    have hne : ((n5 : Int) != (n5 : Int)) = false := by simp
    have hne2 : ((n6 : Int) != (n4 : Int)) = true := by simp; omega
    have HF := Lib.hid (show σ = ⟨a, now, next, l, k⟩ → false = true from fun e => absurd (by rw [HN6.out, HN4.out, (HEQ.out e).2]) hmm)
    clear hmm hn5 hn6 hnn
    obtain ⟨t0, t1, t2, t3, t4, t5, t6, t7, t8, t9, t10, _⟩ := blk11 HP.out.blk1
    obtain ⟨z0, z1, z2, z3, z4, z5, z6, z7, z8, z9, z10, zf⟩ := blk11 HP.out.blk0
    go_wp2_with fail
    have hW := HP.out.set11 (.int .i64 a1.vis) (.int .i64 a1.ret) (.int .i64 a1.del) (.int .i64 a1.win) (.int .i64 a1.max) (.string a1.dead) (.bool a1.fifo) (.int .i64 now1) (.int .i64 next1) (.slice A1 n1 c1') (.slice B1 m1 d1)
    generalize (((((((((((w3.setCell ⟨w.heap.size + 1, 0, none⟩ (.int .i64 a1.vis)).setCell ⟨w.heap.size + 1, 1, none⟩ (.int .i64 a1.ret)).setCell ⟨w.heap.size + 1, 2, none⟩ (.int .i64 a1.del)).setCell ⟨w.heap.size + 1, 3, none⟩ (.int .i64 a1.win)).setCell ⟨w.heap.size + 1, 4, none⟩ (.int .i64 a1.max)).setCell ⟨w.heap.size + 1, 5, none⟩ (.string a1.dead)).setCell ⟨w.heap.size + 1, 6, none⟩ (.bool a1.fifo)).setCell ⟨w.heap.size + 1, 7, none⟩ (.int .i64 now1)).setCell ⟨w.heap.size + 1, 8, none⟩ (.int .i64 next1)).setCell ⟨w.heap.size + 1, 9, none⟩ (.slice A1 n1 c1')).setCell ⟨w.heap.size + 1, 10, none⟩ (.slice B1 m1 d1)) = WW at *
    obtain ⟨y0, y1, y2, y3, y4, y5, y6, y7, y8, y9, y10, _⟩ := blk11 hW.blk0
    exact bodyPost_ret (v := .tuple #[.agg #[.int .i64 a1.vis, .int .i64 a1.ret, .int .i64 a1.del, .int .i64 a1.win, .int .i64 a1.max, .string a1.dead, .bool a1.fifo, .int .i64 now1, .int .i64 next1, .slice A1 n1 c1', .slice B1 m1 d1], .bool false]) (by simp [results, Tryz.results51, go_sem, y0, y1, y2, y3, y4, y5, y6, y7, y8, y9, y10]) rfl ⟨false, A1, n1, c1', B1, m1, d1, HF.out, by rw [← HS1.out]; rfl, by rw [← HS1.out, ← HS2.out]; exact hW.tail.tail.tail.tail.down2.up3.tail.up3.tail⟩
  have hmx := hmm
  subst hmx
  have hne : ((n5 : Int) != (n5 : Int)) = false := by simp
  have hne2 : ((n6 : Int) != (n6 : Int)) = false := by simp
  have hb5 := Kd.C_max (Kd.R_reads' HP.out.tail.tail.head).2.2
  rw [← hn5] at hb5
  have hb6 := Kd.C_max (Kd.R_reads' HP.out.tail.tail.tail.head).2.2
  rw [← hn6] at hb6
  clear hnn hmm hn5 hn6
  go_wp2_with fail
  clear hne hne2
  go_loopw [44] (fun i wr => ∃ j : Nat, i = .int .i64 j ∧ j ≤ n5 ∧ Hp w0 wr (ABlk (w.heap.size + 1) (.cells #[.int .i64 0, .int .i64 0, .int .i64 0, .int .i64 0, .int .i64 0, .string ⟨#[]⟩, .bool false, .int .i64 0, .int .i64 0, .slice none 0 0, .slice none 0 0] 58) :: ABlk nb (.cells #[.int .i64 a1.vis, .int .i64 a1.ret, .int .i64 a1.del, .int .i64 a1.win, .int .i64 a1.max, .string a1.dead, .bool a1.fifo, .int .i64 now1, .int .i64 next1, .slice A1 n1 c1', .slice B1 m1 d1] 58) :: ALt (.slice A5 n5 c5) dq :: AInt (.slice A6 n6 c6) gq :: AQu qb σ1 T :: ADm (.slice A1 n1 c1') l1 :: AKy (.slice B1 m1 d1) k1 :: ADl (.slice A3 n5 c3') dl :: AInt (.slice A4 n6 c4') gl :: Ps)) (fun i _ => n5 - (intOf i).toNat)
  case atStart => exact ⟨0, rfl, Nat.zero_le _, HP.out⟩
  case round =>
    obtain ⟨j, rfl, hj, hQ⟩ := hrel
    have HQ := Lib.hid hQ
    clear hQ
    by_cases hjn : j < n5
    case pos =>
      have i0 : (0 : Int) ≤ (j : Int) := by omega
      have i1 : (j : Int) < (n5 : Int) := by omega
      have hr5 := Kd.R_reads' HQ.out.tail.tail.head
      rw [← HN5.out] at hr5
      obtain ⟨ad, x, rfl, hx, d0, d1, d2, d3⟩ := C_nth_lt hr5.2.2 j hjn
      have HA := Lib.hid (HQ.out.alloc (.cells #[.int .i64 x.1, .int .i64 x.2.1, .string x.2.2.1, .string x.2.2.2] 68))
      have hr3 := Kd.R_reads' HA.out.tail.tail.tail.tail.tail.tail.tail.tail.head
      rw [← HN3.out] at hr3
      obtain ⟨bd, y, rfl, hy, e0, e1, e2, e3⟩ := C_nth_lt hr3.2.2 j hjn
      obtain ⟨b, hb⟩ : ∃ b, b = !decide (x = y) := ⟨_, rfl⟩
      have hne2 := neqLt x y
      rw [← hb] at hne2
      have HB := Lib.hid hb
      have HX := Lib.hid hx
      have HY := Lib.hid hy
      clear hb hx hy hr5 hr3
      go_upto_region 8 with (fail)
      have b0 := blk_cell HA.out.blk0 0
      have b1 := blk_cell HA.out.blk0 1
      have b2 := blk_cell HA.out.blk0 2
      have b3 := blk_cell HA.out.blk0 3
      simp only [List.getElem?_toArray, List.getElem?_cons_zero, List.getElem?_cons_succ] at b0 b1 b2 b3
      obtain ⟨mb, hmb⟩ : ∃ mb, mb = wr.heap.size := ⟨_, rfl⟩
      rw [← hmb] at b0 b1 b2 b3 ⊢
      clear hmb d0 d1 d2 d3
      generalize wr.alloc (.cells #[.int .i64 x.1, .int .i64 x.2.1, .string x.2.2.1, .string x.2.2.2] 68) = W at *
      go_quiet (fail)
      have HQ2 := Lib.hid ((HA.out.tail).below (pw_below_drewN (Below.refl _ _) nq))
      clear b0 b1 b2 b3 e0 e1 e2 e3 hne2
      generalize W.drewN nq = W2 at *
      cases b
      case false =>
        go_wp2_with fail
        refine ⟨⟨j + 1, by simp, by omega, HQ2.out⟩, ?_⟩
        simp [intOf]
        omega
      case true =>
        have HF := Lib.hid (show σ = ⟨a, now, next, l, k⟩ → false = true from fun e => by
          have h1 := HX.out
          rw [(HEQ.out e).1, HY.out] at h1
          have h2 := HB.out
          rw [decide_eq_true (Option.some.inj h1).symm] at h2
          cases h2)
        obtain ⟨t0, t1, t2, t3, t4, t5, t6, t7, t8, t9, t10, _⟩ := blk11 HQ2.out.blk1
        obtain ⟨z0, z1, z2, z3, z4, z5, z6, z7, z8, z9, z10, zf⟩ := blk11 HQ2.out.blk0
        go_wp2_with fail
        have hW := HQ2.out.set11 (.int .i64 a1.vis) (.int .i64 a1.ret) (.int .i64 a1.del) (.int .i64 a1.win) (.int .i64 a1.max) (.string a1.dead) (.bool a1.fifo) (.int .i64 now1) (.int .i64 next1) (.slice A1 n1 c1') (.slice B1 m1 d1)
        generalize (((((((((((W2.setCell ⟨w.heap.size + 1, 0, none⟩ (.int .i64 a1.vis)).setCell ⟨w.heap.size + 1, 1, none⟩ (.int .i64 a1.ret)).setCell ⟨w.heap.size + 1, 2, none⟩ (.int .i64 a1.del)).setCell ⟨w.heap.size + 1, 3, none⟩ (.int .i64 a1.win)).setCell ⟨w.heap.size + 1, 4, none⟩ (.int .i64 a1.max)).setCell ⟨w.heap.size + 1, 5, none⟩ (.string a1.dead)).setCell ⟨w.heap.size + 1, 6, none⟩ (.bool a1.fifo)).setCell ⟨w.heap.size + 1, 7, none⟩ (.int .i64 now1)).setCell ⟨w.heap.size + 1, 8, none⟩ (.int .i64 next1)).setCell ⟨w.heap.size + 1, 9, none⟩ (.slice A1 n1 c1')).setCell ⟨w.heap.size + 1, 10, none⟩ (.slice B1 m1 d1)) = WW at *
        obtain ⟨y0, y1, y2, y3, y4, y5, y6, y7, y8, y9, y10, _⟩ := blk11 hW.blk0
        exact bodyPost_ret (v := .tuple #[.agg #[.int .i64 a1.vis, .int .i64 a1.ret, .int .i64 a1.del, .int .i64 a1.win, .int .i64 a1.max, .string a1.dead, .bool a1.fifo, .int .i64 now1, .int .i64 next1, .slice A1 n1 c1', .slice B1 m1 d1], .bool false]) (by simp [results, Tryz.results51, go_sem, y0, y1, y2, y3, y4, y5, y6, y7, y8, y9, y10]) rfl ⟨false, A1, n1, c1', B1, m1, d1, HF.out, by rw [← HS1.out]; rfl, by rw [← HS1.out, ← HS2.out]; exact hW.tail.tail.tail.tail.down2.up3.tail.up3.tail⟩
    case neg =>
    have hj' : j = n5 := by omega
    subst hj'
    clear hj hjn
    go_wp2_with fail
    go_loopw [67] (fun i wr => ∃ q : Nat, i = .int .i64 q ∧ q ≤ n6 ∧ Hp w0 wr (ABlk (w.heap.size + 1) (.cells #[.int .i64 0, .int .i64 0, .int .i64 0, .int .i64 0, .int .i64 0, .string ⟨#[]⟩, .bool false, .int .i64 0, .int .i64 0, .slice none 0 0, .slice none 0 0] 58) :: ABlk nb (.cells #[.int .i64 a1.vis, .int .i64 a1.ret, .int .i64 a1.del, .int .i64 a1.win, .int .i64 a1.max, .string a1.dead, .bool a1.fifo, .int .i64 now1, .int .i64 next1, .slice A1 n1 c1', .slice B1 m1 d1] 58) :: ALt (.slice A5 j c5) dq :: AInt (.slice A6 n6 c6) gq :: AQu qb σ1 T :: ADm (.slice A1 n1 c1') l1 :: AKy (.slice B1 m1 d1) k1 :: ADl (.slice A3 j c3') dl :: AInt (.slice A4 n6 c4') gl :: Ps)) (fun i _ => n6 - (intOf i).toNat)
    case atStart => exact ⟨0, rfl, Nat.zero_le _, HQ.out⟩
    case round =>
      obtain ⟨q, rfl, hj, hQ⟩ := hrel
      have HQ := Lib.hid hQ
      clear hQ
      by_cases hjn : q < n6
      case pos =>
        have i0 : (0 : Int) ≤ (q : Int) := by omega
        have i1 : (q : Int) < (n6 : Int) := by omega
        have hr6 := Kd.R_reads' HQ.out.tail.tail.tail.head
        rw [← HN6.out] at hr6
        obtain ⟨ad, x, rfl, hx, d0⟩ := C_nth_int hr6.2.2 q hjn
        have hr4 := Kd.R_reads' HQ.out.tail.tail.tail.tail.tail.tail.tail.tail.head
        rw [← HN4.out] at hr4
        obtain ⟨bd, y, rfl, hy, e0⟩ := C_nth_int hr4.2.2 q hjn
        have HX := Lib.hid hx
        have HY := Lib.hid hy
        clear hx hy hr6 hr4
        by_cases hxy : x = y
        case pos =>
          subst hxy
          have hne : (x != x) = false := by simp
          go_wp2_with fail
          go_quiet (fail)
          go_wp2_with fail
          refine ⟨⟨q + 1, by simp, by omega, HQ.out.below (pw_below_drewN (Below.refl _ _) _)⟩, ?_⟩
          simp [intOf]
          omega
        case neg =>
          have hne : (x != y) = true := by simpa using hxy
          have HF := Lib.hid (show σ = ⟨a, now, next, l, k⟩ → false = true from fun e => by
            have h1 := HX.out
            rw [(HEQ.out e).2, HY.out] at h1
            exact absurd (Option.some.inj h1).symm hxy)
          clear hxy
          go_wp2_with fail
          go_quiet (fail)
          have HQ2 := Lib.hid (HQ.out.below (pw_below_drewN (Below.refl _ _) nq))
          clear d0 e0 hne
          generalize wr.drewN nq = W2 at *
          obtain ⟨t0, t1, t2, t3, t4, t5, t6, t7, t8, t9, t10, _⟩ := blk11 HQ2.out.blk1
          obtain ⟨z0, z1, z2, z3, z4, z5, z6, z7, z8, z9, z10, zf⟩ := blk11 HQ2.out.blk0
          go_wp2_with fail
          have hW := HQ2.out.set11 (.int .i64 a1.vis) (.int .i64 a1.ret) (.int .i64 a1.del) (.int .i64 a1.win) (.int .i64 a1.max) (.string a1.dead) (.bool a1.fifo) (.int .i64 now1) (.int .i64 next1) (.slice A1 n1 c1') (.slice B1 m1 d1)
          generalize (((((((((((W2.setCell ⟨w.heap.size + 1, 0, none⟩ (.int .i64 a1.vis)).setCell ⟨w.heap.size + 1, 1, none⟩ (.int .i64 a1.ret)).setCell ⟨w.heap.size + 1, 2, none⟩ (.int .i64 a1.del)).setCell ⟨w.heap.size + 1, 3, none⟩ (.int .i64 a1.win)).setCell ⟨w.heap.size + 1, 4, none⟩ (.int .i64 a1.max)).setCell ⟨w.heap.size + 1, 5, none⟩ (.string a1.dead)).setCell ⟨w.heap.size + 1, 6, none⟩ (.bool a1.fifo)).setCell ⟨w.heap.size + 1, 7, none⟩ (.int .i64 now1)).setCell ⟨w.heap.size + 1, 8, none⟩ (.int .i64 next1)).setCell ⟨w.heap.size + 1, 9, none⟩ (.slice A1 n1 c1')).setCell ⟨w.heap.size + 1, 10, none⟩ (.slice B1 m1 d1)) = WW at *
          obtain ⟨y0, y1, y2, y3, y4, y5, y6, y7, y8, y9, y10, _⟩ := blk11 hW.blk0
          exact bodyPost_ret (v := .tuple #[.agg #[.int .i64 a1.vis, .int .i64 a1.ret, .int .i64 a1.del, .int .i64 a1.win, .int .i64 a1.max, .string a1.dead, .bool a1.fifo, .int .i64 now1, .int .i64 next1, .slice A1 n1 c1', .slice B1 m1 d1], .bool false]) (by simp [results, Tryz.results51, go_sem, y0, y1, y2, y3, y4, y5, y6, y7, y8, y9, y10]) rfl ⟨false, A1, n1, c1', B1, m1, d1, HF.out, by rw [← HS1.out]; rfl, by rw [← HS1.out, ← HS2.out]; exact hW.tail.tail.tail.tail.down2.up3.tail.up3.tail⟩
      case neg =>
        have hj' : q = n6 := by omega
        subst hj'
        clear hj hjn
        obtain ⟨t0, t1, t2, t3, t4, t5, t6, t7, t8, t9, t10, _⟩ := blk11 HQ.out.blk1
        obtain ⟨z0, z1, z2, z3, z4, z5, z6, z7, z8, z9, z10, zf⟩ := blk11 HQ.out.blk0
        go_wp2_with fail
        have hW := HQ.out.set11 (.int .i64 a1.vis) (.int .i64 a1.ret) (.int .i64 a1.del) (.int .i64 a1.win) (.int .i64 a1.max) (.string a1.dead) (.bool a1.fifo) (.int .i64 now1) (.int .i64 next1) (.slice A1 n1 c1') (.slice B1 m1 d1)
        generalize (((((((((((wr.setCell ⟨w.heap.size + 1, 0, none⟩ (.int .i64 a1.vis)).setCell ⟨w.heap.size + 1, 1, none⟩ (.int .i64 a1.ret)).setCell ⟨w.heap.size + 1, 2, none⟩ (.int .i64 a1.del)).setCell ⟨w.heap.size + 1, 3, none⟩ (.int .i64 a1.win)).setCell ⟨w.heap.size + 1, 4, none⟩ (.int .i64 a1.max)).setCell ⟨w.heap.size + 1, 5, none⟩ (.string a1.dead)).setCell ⟨w.heap.size + 1, 6, none⟩ (.bool a1.fifo)).setCell ⟨w.heap.size + 1, 7, none⟩ (.int .i64 now1)).setCell ⟨w.heap.size + 1, 8, none⟩ (.int .i64 next1)).setCell ⟨w.heap.size + 1, 9, none⟩ (.slice A1 n1 c1')).setCell ⟨w.heap.size + 1, 10, none⟩ (.slice B1 m1 d1)) = WW at *
        obtain ⟨y0, y1, y2, y3, y4, y5, y6, y7, y8, y9, y10, _⟩ := blk11 hW.blk0
        exact bodyPost_ret (v := .tuple #[.agg #[.int .i64 a1.vis, .int .i64 a1.ret, .int .i64 a1.del, .int .i64 a1.win, .int .i64 a1.max, .string a1.dead, .bool a1.fifo, .int .i64 now1, .int .i64 next1, .slice A1 n1 c1', .slice B1 m1 d1], .bool true]) (by simp [results, Tryz.results51, go_sem, y0, y1, y2, y3, y4, y5, y6, y7, y8, y9, y10]) rfl ⟨true, A1, n1, c1', B1, m1, d1, fun _ => rfl, by rw [← HS1.out]; rfl, by rw [← HS1.out, ← HS2.out]; exact hW.tail.tail.tail.tail.down2.up3.tail.up3.tail⟩
end
end Go.Proofs.YtoclcmnphdgfpaaGreatDoor
set_option linter.unusedVariables false
set_option linter.unusedSimpArgs false
namespace Go.Proofs.YtoclcmnphdgfpaaGreatDoor
open Go.RowKit Go.Maps Go.Proofs.YtoclcmnphdgfpaaGreatDoorW.PrintWords
/-- What is to be shown, behind a name. -/
theorem callsHid {P : Program} {f : FuncId} {args : Array Value} {w : World} {Q : Ending → World → Prop} (h : ∀ Post : Ending → World → Prop, (∀ e w', Q e w' → Post e w') → Calls P f args w Post) : Calls P f args w Q := h Q (fun _ _ h => h)
/-- What a call makes of a queue. -/
def qDoes (σ : Qs) (kind num num2 : Int) (body group key rec : ByteArray) (qa : QA) : Qs :=
  if kind = 0 then (qTck σ num).1 else if kind = 1 then (qSend σ body group key num).1 else if kind = 2 then (qRcv σ num num2).1 else if kind = 3 then (qAck σ rec).1 else if kind = 4 then (qExt σ rec num).1 else if kind = 5 then qPurge σ else if kind = 6 then qSet σ qa else σ
theorem QInv.does {σ : Qs} {T : Nat} (h : QInv σ T) (kind num num2 : Int) (body group key rec : ByteArray) (qa : QA) : QInv (qDoes σ kind num num2 body group key rec qa) (T + 1) := by
  have hm : ∀ {σ' : Qs}, QInv σ' T → QInv σ' (T + 1) := fun h => h.mono (Nat.le_succ T)
  unfold qDoes
  split
  · exact hm (h.tck num)
  split
  · exact h.send body group key num
  split
  · exact h.rcv num num2
  split
  · exact hm (h.ack rec)
  split
  · exact hm (h.ext rec num)
  split
  · exact hm h.purge
  split
  · exact hm (h.set qa)
  · exact hm h
theorem QInv.dmOk {σ : Qs} {T : Nat} (h : QInv σ T) (hT : T ≤ 1000000) : ∀ m ∈ σ.l, dmOk m := by
  intro m hm
  have h1 := h.ids m hm
  have h2 := h.cnt m hm
  have h3 := h.nxt
  exact ⟨by omega, by omega⟩
section
variable {w0 w : World} {ρ : Qs} {Ps : List Asn}
/-- A Send. -/
theorem Hp.refSend {A A2 : Option Addr} {n c n2 c2' T : Nat} (h : Hp w0 w (ADm (.slice A n c) ρ.l :: AKy (.slice A2 n2 c2') ρ.k :: Ps)) (hi : QInv ρ T) (hT6 : T ≤ 1000000) (body group key : ByteArray) (delay : Int) :
    Calls Tryz.prog 52 #[ρ.val (.slice A n c) (.slice A2 n2 c2'), .string body, .string group, .string key, .int .i64 delay] w fun e w' => ∃ A' n' c' B' m' d', e = .returned (.tuple #[(qSend ρ body group key delay).1.val (.slice A' n' c') (.slice B' m' d'), .int .i64 (qSend ρ body group key delay).2.1, .int .i64 (qSend ρ body group key delay).2.2]) ∧ Hp w0 w' (ADm (.slice A' n' c') (qSend ρ body group key delay).1.l :: AKy (.slice B' m' d') (qSend ρ body group key delay).1.k :: Ps) := by
  cases hm : qMaySend ρ.a body group key delay with
  | true => exact h.refSendMay hi hT6 body group key delay hm
  | false =>
    have e2 : qSend ρ body group key delay = (ρ, (0, 1)) := by unfold qSend; rw [if_pos hm]
    rw [e2]
    refine Calls.mono (h.refSendNot body group key delay hm) ?_
    rintro e w' ⟨rfl, h2⟩
    exact ⟨A, n, c, A2, n2, c2', rfl, h2⟩
end
/-- A call's value. -/
def opVal (kind num num2 : Int) (body group key rec : ByteArray) (qa : QA) : Value := .agg #[.int .i64 kind, .int .i64 num, .int .i64 num2, .string body, .string group, .string key, .string rec, .int .i64 qa.vis, .int .i64 qa.ret, .int .i64 qa.del, .int .i64 qa.win, .int .i64 qa.max, .string qa.dead, .bool qa.fifo]
theorem blk14 {w : World} {g t : Nat} {x0 x1 x2 x3 x4 x5 x6 x7 x8 x9 x10 x11 x12 x13 : Value} (h : w.heap[g]? = some (.cells #[x0, x1, x2, x3, x4, x5, x6, x7, x8, x9, x10, x11, x12, x13] t (0, 0))) :
    w.cell? ⟨g, 0, none⟩ = some x0 ∧ w.cell? ⟨g, 1, none⟩ = some x1 ∧ w.cell? ⟨g, 2, none⟩ = some x2 ∧ w.cell? ⟨g, 3, none⟩ = some x3 ∧ w.cell? ⟨g, 4, none⟩ = some x4 ∧ w.cell? ⟨g, 5, none⟩ = some x5 ∧ w.cell? ⟨g, 6, none⟩ = some x6 ∧ w.cell? ⟨g, 7, none⟩ = some x7 ∧ w.cell? ⟨g, 8, none⟩ = some x8 ∧ w.cell? ⟨g, 9, none⟩ = some x9 ∧ w.cell? ⟨g, 10, none⟩ = some x10 ∧ w.cell? ⟨g, 11, none⟩ = some x11 ∧ w.cell? ⟨g, 12, none⟩ = some x12 ∧ w.cell? ⟨g, 13, none⟩ = some x13 :=
  ⟨blk_cell h 0, blk_cell h 1, blk_cell h 2, blk_cell h 3, blk_cell h 4, blk_cell h 5, blk_cell h 6, blk_cell h 7, blk_cell h 8, blk_cell h 9, blk_cell h 10, blk_cell h 11, blk_cell h 12, blk_cell h 13⟩
end Go.Proofs.YtoclcmnphdgfpaaGreatDoor
