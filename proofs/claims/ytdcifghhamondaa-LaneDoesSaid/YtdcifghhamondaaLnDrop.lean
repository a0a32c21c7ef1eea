/- lane.Lanes.Drop. -/
import Derived.Test.YtdcifghhamondaaLnAdd
import Derived.Test.YtdcifghhamondaaLnDel
import Derived.Deep.DeepCutAuto
import Derived.StillTailTactics
import Derived.Deep.RegionHeld3
namespace Go.Proofs.Ytdcifghhamondaa
open Go.RowKit Go.Proofs.YtdcifghhamondaaW.PrintWords

set_option maxHeartbeats 1600000 in
theorem laneDrop_none (w : World) (ok : Nat → Prop) (lb ma mg : Nat) (turn : Int) (s : List En) (gs : List (ByteArray × Value)) (id : Int) (h : LnV w ok lb ma mg turn s gs) (hw : (Lit.int .i64 id).wf = true) (hm : mget s id = none) :
    Calls Try.prog 10 #[.pointer (some ⟨lb, 0, none⟩), .int .i64 id] w fun e w' => e = .returned (.bool false) ∧ Below w.heap.size w w' := by
  have hlt := h.lt
  have hB1 : Below w.heap.size w (w.alloc (.cells #[.int .i64 id] 3)) := below_alloc (Below.refl _ _) _
  have hV1 := h.move (fun k _ hk => hB1.block k hk)
  have hb1 := heap_alloc_new w (.cells #[.int .i64 id] 3)
  have HB1 := Lib.hid hB1
  go_enter Try.func10, Try.ntmps10
  go_wp2_with fail
  generalize w.alloc (.cells #[.int .i64 id] 3) = w1 at *
  have hlk := (show MapAt KI encP w1.drew ma s from hV1.at_).look under_at (zero_place _) (a := id) hw
  rw [hm] at hlk
  have hlk : (Instr.lookup 51 (.map (some ma)) (.int .i64 id) true).run Try.prog w1.drew = .ok (.tuple #[.agg #[.string ⟨#[]⟩, .int .i64 0], .bool false]) w1.drew := hlk
  obtain ⟨t0, t1, t2, hlt1⟩ := hV1.cells
  have b0 := blk_cell hb1 0
  simp only [List.getElem?_toArray, List.getElem?_cons_zero] at b0
  have HAT := Lib.hid hV1.at_
  have HM := Lib.hid hm
  clear hV1 hb1 hB1 h hm
  have hB2 : Below w1.heap.size w1 (w1.alloc (.cells #[.string ⟨#[]⟩, .int .i64 0] 56)) := below_alloc (Below.refl _ _) _
  have hlk2 : (Instr.lookup 51 (.map (some ma)) (.int .i64 id) true).run Try.prog (w1.alloc (.cells #[.string ⟨#[]⟩, .int .i64 0] 56)).drew = .ok (.tuple #[.agg #[.string ⟨#[]⟩, .int .i64 0], .bool false]) (w1.alloc (.cells #[.string ⟨#[]⟩, .int .i64 0] 56)).drew := by
    have := (show MapAt KI encP (w1.alloc (.cells #[.string ⟨#[]⟩, .int .i64 0] 56)).drew ma s from HAT.out.move (hB2.block ma HAT.out.lt)).look under_at (zero_place _) (a := id) hw
    rw [HM.out] at this
    exact this
  have t1' := pw_cell_below hB2 t1
  have b0' := pw_cell_below hB2 b0
  clear hB2
  go_region_held3 (fun w' => w'.cell? ⟨lb, 1, none⟩ = some (.map (some ma)) ∧ w'.cell? ⟨w.heap.size, 0, none⟩ = some (.int .i64 id)) (first | exact ⟨t1, b0⟩ | exact ⟨t1', b0'⟩ | go_keep) (first | fail)
  all_goals
    go_wp2
    go_ret
    exact ⟨rfl, HB1.out.trans ((below_alloc (Below.refl _ _) _).drew.mono HB1.out.size)⟩

theorem grp_other {s : List En} (hn : (s.map (·.1)).Nodup) {id : Int} {g g' : ByteArray} {t : Int} (hm : (id, (g, t)) ∈ s) (hne : g' ≠ g) : grp (lDrop s id) g' = grp s g' := by
  rw [grp_drop, List.filter_eq_self]
  intro x hx
  have : x ≠ id := by
    rintro rfl
    obtain ⟨t', ht'⟩ := grp_mem.1 hx
    have h1 := en_get hn hm
    rw [en_get hn ht'] at h1
    have := Option.some.inj h1
    exact hne (congrArg Prod.fst this)
  simpa using this
theorem LnV.dropped {w w7 : World} {ok : Nat → Prop} {lb ma mg gb n cap : Nat} {turn : Int} {s : List En} {gs gs' : List (ByteArray × Value)} (h : LnV w ok lb ma mg turn s gs) (hn : (s.map (·.1)).Nodup) {id t : Int} {g : ByteArray} (hm : (id, (g, t)) ∈ s)
    (hm7 : ∀ k, k < w.heap.size → k ≠ lb → k ≠ ma → k ≠ mg → k ≠ gb → w7.heap[k]? = w.heap[k]?)
    (hd7 : w7.heap[lb]? = some (.cells #[.int .i64 turn, .map (some ma), .map (some mg)] 54 (0, 0))) (ha7 : MapAt KI encP w7 ma (mdel s id)) (hg7 : MapAt KG _root_.id w7 mg gs')
    (hv : mget gs g = some (.slice (some ⟨gb, 0, none⟩) n cap)) (hget : ∀ g', g' ≠ g → mget gs' g' = mget gs g')
    (hgg : (mget gs' g = none ∧ grp (lDrop s id) g = []) ∨ ∃ v', mget gs' g = some v' ∧ (Kd.int .i64).R 3 w7 0 (fun k => ok k ∧ k ≠ lb ∧ k ≠ ma ∧ k ≠ mg) v' (grp (lDrop s id) g) ∧ grp (lDrop s id) g ≠ [] ∧ v'.ownBlock = some gb) :
    LnV w7 ok lb ma mg turn (lDrop s id) gs' := by
  have hgb : (Value.slice (some ⟨gb, 0, none⟩) n cap).ownBlock = some gb := rfl
  have hap : ∀ g' v', g' ≠ g → mget gs g' = some v' → v'.ownBlock ≠ some gb := fun g' v' hne hv' => by
    rw [← hgb]
    exact h.apart g' g v' _ hne hv' hv
  refine ⟨hd7, ha7, hg7, fun g' v hv' => ?_, fun g' hv' => ?_, fun g1 g2 v1 v2 hne h1 h2 => ?_, h.oklb, h.okma, h.okmg, h.ne⟩
  · by_cases e : g' = g
    · subst e
      rcases hgg with ⟨h1, _⟩ | ⟨v', h1, h2, h3, _⟩
      · rw [h1] at hv'; cases hv'
      · rw [h1] at hv'
        obtain rfl := Option.some.inj hv'
        exact ⟨h2, h3⟩
    · rw [hget g' e] at hv'
      rw [grp_other hn hm e]
      obtain ⟨hR, hne⟩ := h.row g' v hv'
      have hR2 : (Kd.int .i64).R 3 w 0 (fun k => (ok k ∧ k ≠ lb ∧ k ≠ ma ∧ k ≠ mg) ∧ k ≠ gb) v (grp s g') := Kd.R_of_own (Kd.own_of_R hR) (fun k hk => ⟨hR.1 k hk, fun e2 => hap g' v e hv' (e2 ▸ hk)⟩)
      exact ⟨Kd.R_mono (Kd.R_step hR2 (fun k hk hl => hm7 k hl hk.1.2.1 hk.1.2.2.1 hk.1.2.2.2 hk.2)) (fun k hk => hk.1), hne⟩
  · by_cases e : g' = g
    · subst e
      rcases hgg with ⟨_, h2⟩ | ⟨v', h1, _⟩
      · exact h2
      · rw [h1] at hv'; cases hv'
    · rw [hget g' e] at hv'
      rw [grp_other hn hm e]
      exact h.gone g' hv'
  · by_cases e1 : g1 = g
    · subst e1
      rw [hget g2 (Ne.symm hne)] at h2
      rcases hgg with ⟨h0, _⟩ | ⟨v', h0, _, _, h4⟩
      · rw [h0] at h1; cases h1
      · rw [h0] at h1
        obtain rfl := Option.some.inj h1
        rw [h4]
        exact Ne.symm (hap g2 v2 (Ne.symm hne) h2)
    · rw [hget g1 e1] at h1
      by_cases e2 : g2 = g
      · subst e2
        rcases hgg with ⟨h0, _⟩ | ⟨v', h0, _, _, h4⟩
        · rw [h0] at h2; cases h2
        · rw [h0] at h2
          obtain rfl := Option.some.inj h2
          rw [h4]
          exact hap g1 v1 e1 h1
      · rw [hget g2 e2] at h2
        exact h.apart g1 g2 v1 v2 hne h1 h2

set_option maxHeartbeats 3200000 in
theorem laneDrop_some (w : World) (ok : Nat → Prop) (lb ma mg : Nat) (turn : Int) (s : List En) (gs : List (ByteArray × Value)) (id : Int) (g : ByteArray) (t : Int) (h : LnV w ok lb ma mg turn s gs) (hO : LnOk s turn) (hw : (Lit.int .i64 id).wf = true) (hm : (id, (g, t)) ∈ s) (hgl : gs.length ≤ 1000000) :
    Calls Try.prog 10 #[.pointer (some ⟨lb, 0, none⟩), .int .i64 id] w fun e w' => e = .returned (.bool true) ∧ (∃ gs', LnV w' ok lb ma mg turn (lDrop s id) gs' ∧ gs'.length ≤ gs.length) ∧ Keep ok w w' := by
  have hlt := h.lt
  have hget := en_get hO.ids hm
  obtain ⟨v, hv, hgs⟩ := h.gok hm
  have hB1 : Below w.heap.size w (w.alloc (.cells #[.int .i64 id] 3)) := below_alloc (Below.refl _ _) _
  have hV1 := h.move (fun k _ hk => hB1.block k hk)
  have hb1 := heap_alloc_new w (.cells #[.int .i64 id] 3)
  have hz1 : (w.alloc (.cells #[.int .i64 id] 3)).heap.size = w.heap.size + 1 := by simp
  have H := Lib.hid h
  go_enter Try.func10, Try.ntmps10
  go_upto_region 1 with (fail)
  generalize w.alloc (.cells #[.int .i64 id] 3) = w1 at *
  have HM := Lib.hid hget
  have hlk : ∀ W, W.heap[ma]? = w1.heap[ma]? → (Instr.lookup 51 (.map (some ma)) (.int .i64 id) true).run Try.prog W = .ok (.tuple #[.agg #[.string g, .int .i64 t], .bool true]) W := fun W hW => by
    have := (hV1.at_.move hW).look under_at (zero_place _) (a := id) hw
    rw [HM.out] at this
    exact this
  have hlk1 := hlk w1.drew rfl
  obtain ⟨t0, t1, t2, hlt1⟩ := hV1.cells
  have b0 := blk_cell hb1 0
  simp only [List.getElem?_toArray, List.getElem?_cons_zero] at b0
  have hB2 : Below w1.heap.size w1 (w1.alloc (.cells #[.string ⟨#[]⟩, .int .i64 0] 56)) := below_alloc (Below.refl _ _) _
  have hlk2 := hlk (w1.alloc (.cells #[.string ⟨#[]⟩, .int .i64 0] 56)).drew (hB2.block ma hV1.at_.lt)
  have t1' := pw_cell_below hB2 t1
  have b0' := pw_cell_below hB2 b0
  have HV1 := Lib.hid hV1
  have HB1 := Lib.hid hB1
  have HBX := Lib.hid hb1
  have HZ1 := Lib.hid hz1
  clear hB2 hlk hV1 hb1 hB1 h hget
  go_cut [5, 6] (fun p b wx => p = .pointer (some ⟨w.heap.size + 1, 0, none⟩) ∧ b = .bool true ∧ wx = (w1.alloc (.cells #[.string g, .int .i64 t] 56)).drew)
  case first =>
    go_region_held3 (fun w' => w'.cell? ⟨lb, 1, none⟩ = some (.map (some ma)) ∧ w'.cell? ⟨w.heap.size, 0, none⟩ = some (.int .i64 id)) (first | exact ⟨t1, b0⟩ | exact ⟨t1', b0'⟩ | go_keep) (first | fail)
    all_goals
      go_wp2_with fail
      go_meet
      case rel => exact ⟨rfl, rfl, rfl⟩
  case rest =>
    obtain ⟨rfl, rfl, hW2⟩ := hcut
    have hP2 : Below w1.heap.size w1 wc := by rw [hW2]; exact (below_alloc (Below.refl _ _) _).drew
    have hbp := heap_alloc_new w1 (.cells #[.string g, .int .i64 t] 56)
    have hbp2 : wc.heap[w.heap.size + 1]? = some (.cells #[.string g, .int .i64 t] 56 (0, 0)) := by rw [hW2, ← HZ1.out]; exact hbp
    have hV2 := HV1.out.move (fun k _ hk => hP2.block k hk)
    have hbx2 := (hP2.block w.heap.size (blk_lt HBX.out)).trans HBX.out
    have HP2 := Lib.hid (HB1.out.trans (hP2.mono HB1.out.size))
    have HV2 := Lib.hid hV2
    have HBX2 := Lib.hid hbx2
    have HBP2 := Lib.hid hbp2
    clear hW2 hbp hbp2 hbx2 hP2 t0 t1 t2 t1' b0 b0' hlk1 hlk2
    obtain ⟨gb, cap, hvf, _, hgb, _⟩ := Kd.R_form (H.out.row g v hv).1 (List.length_pos_iff.2 (H.out.row g v hv).2)
    subst hvf
    have hgok := (HV2.out.row g _ hv).1.1 gb rfl
    have HV := Lib.hid hv
    clear hv
    go_upto_region 4 with (fail)
    obtain ⟨p0, p1, p2, plt⟩ := hV2.cells
    have x0 := blk_cell HBX2.out 0
    simp only [List.getElem?_toArray, List.getElem?_cons_zero] at x0
    clear hV2
    go_still_tail 5, (by kernel_rfl)
    change wpList _ _ _ _ _ wc.drew
    refine wpList_del_at (K := KI) (enc := encP) (show MapAt KI encP wc.drew ma s from HV2.out.at_) (by rfl) (.tmp 22) (.tmp 23) 51 56 rfl under_at rfl id rfl hw ?_
    intro w3 hM3 hB3
    have hR3 : (Kd.int .i64).R 3 w3 0 (fun k => ok k ∧ k ≠ lb ∧ k ≠ ma ∧ k ≠ mg) (.slice (some ⟨gb, 0, none⟩) (grp s g).length cap) (grp s g) := Kd.R_step (HV2.out.row g _ HV.out).1 (fun k hk _ => hB3.2.2.2.2 k hk.2.2.1)
    have hG3 : MapAt KG _root_.id w3 mg gs := HV2.out.gm.move (hB3.2.2.2.2 mg (Ne.symm HV2.out.ne))
    have hD3 := hB3.blk HV2.out.hd (Ne.symm HV2.out.nes.1)
    have hX3 := hB3.blk HBX2.out (show w.heap.size ≠ ma by omega)
    have hP3 := hB3.blk HBP2.out (show w.heap.size + 1 ≠ ma by omega)
    have hk23 : ∀ k, k < w.heap.size → k ≠ ma → w3.heap[k]? = w.heap[k]? := fun k hk h2 => (hB3.2.2.2.2 k h2).trans (HP2.out.block k hk)
    have hz3 : w.heap.size ≤ w3.heap.size := by have h1 := hB3.2.2.2.1; have h2 := HP2.out.size; have h3 : wc.drew.heap.size = wc.heap.size := rfl; omega
    have hos3 : w3.os = w.os ∧ w3.tape = w.tape ∧ w3.output = w.output := ⟨hB3.1.trans HP2.out.os, hB3.2.1.trans HP2.out.tape, hB3.2.2.1.trans HP2.out.output⟩
    have hl3 : (Instr.lookup 52 (.map (some mg)) (.string g) false).run Try.prog w3.drew = .ok (.slice (some ⟨gb, 0, none⟩) (grp s g).length cap) w3.drew := by
      have := (show MapAt KG _root_.id w3.drew mg gs from hG3).look1 under_groups (zero_row _) (a := g) hgs
      rw [HV.out] at this
      exact this
    have u0 := blk_cell hX3 0
    have u1 := blk_cell hP3 0
    have u2 := blk_cell hD3 2
    simp only [List.getElem?_toArray, List.getElem?_cons_zero, List.getElem?_cons_succ] at u0 u1 u2
    have hgb3 : gb < w3.heap.size := by omega
    have hne3 : w.heap.size ≠ gb := by omega
    have HR3 := Lib.hid hR3
    have HG3 := Lib.hid hG3
    have HD3 := Lib.hid hD3
    have HX3 := Lib.hid hX3
    have HP3 := Lib.hid hP3
    have HK23 := Lib.hid hk23
    have HO3 := Lib.hid hos3
    have HM3 := Lib.hid hM3
    have hdel : Calls Try.prog 25 #[.slice (some ⟨gb, 0, none⟩) (grp s g).length cap, .func (.func 26) #[] #[.pointer (some ⟨w.heap.size, 0, none⟩)]] w3.drew _ := delFunc_id w3.drew 0 _ gb (grp s g).length cap w.heap.size (grp s g) id (show (Kd.int .i64).R 3 w3.drew 0 _ _ _ from Kd.R_below HR3.out (Below.refl _ _).drew) (by exact blk_lt hX3) hne3 u0
    have hys : grp (lDrop s id) g = (grp s g).filter (fun x => decide (x ≠ id)) := grp_drop s id g
    rw [← hys] at hdel
    have HYL := Lib.hid (grp_len (lDrop s id) g)
    generalize grp (lDrop s id) g = ys at *
    have HYS := Lib.hid hys
    have HDEL := Lib.hid hdel
    clear hR3 hG3 hD3 hX3 hP3 hk23 hos3 hM3 hdel hys p0 p1 p2 x0 hB3
    go_wp2_with fail
    go_upto_region 5 with (fail)
    go_cut [7] (fun r wx => r = .slice (some ⟨gb, 0, none⟩) ys.length cap ∧ (Kd.int .i64).R 3 wx 0 (fun k => ok k ∧ k ≠ lb ∧ k ≠ ma ∧ k ≠ mg) (.slice (some ⟨gb, 0, none⟩) ys.length cap) ys ∧ Keep (fun k => k = gb) w3 wx)
    case first =>
      go_region_held3 (fun w' => w'.cell? ⟨lb, 2, none⟩ = some (.map (some mg)) ∧ w'.cell? ⟨w.heap.size + 1, 0, none⟩ = some (.string g)) (first | exact ⟨u2, u1⟩ | exact ⟨r2, r1⟩ | go_keep) (first | (go_at_call 25; refine Calls.mono HDEL.out ?_; rintro e w5 ⟨rfl, hR5, hK5⟩; have r2 : w5.cell? ⟨lb, 2, none⟩ = some (.map (some mg)) := (World.cell?_of_block (a := ⟨lb, 2, none⟩) (hK5.block lb (blk_lt HD3.out) (Ne.symm hgok.2.1))).trans u2; have r1 : w5.cell? ⟨w.heap.size + 1, 0, none⟩ = some (.string g) := (World.cell?_of_block (a := ⟨w.heap.size + 1, 0, none⟩) (hK5.block (w.heap.size + 1) (blk_lt HP3.out) (by omega))).trans u1))
      all_goals
        have HR5 := Lib.hid hR5
        have HK5 := Lib.hid hK5
        clear hR5 hK5
        go_wp2_with fail
        go_meet
        case rel => exact ⟨rfl, HR5.out, HK5.out.undrew⟩
    case rest =>
      obtain ⟨rfl, hR5, hK5⟩ := hcut
      have hD5 := (hK5.block lb (blk_lt HD3.out) (Ne.symm hgok.2.1)).trans HD3.out
      have hP5 := (hK5.block (w.heap.size + 1) (blk_lt HP3.out) (by omega)).trans HP3.out
      have hG5 : MapAt KG _root_.id wc mg gs := HG3.out.move (hK5.block mg HG3.out.lt (Ne.symm hgok.2.2.2))
      have HM5 := Lib.hid (HM3.out.move (hK5.block ma HM3.out.lt (Ne.symm hgok.2.2.1)))
      have hz5 := hK5.size
      have HK25 := Lib.hid (show ∀ k, k < w.heap.size → k ≠ ma → k ≠ gb → wc.heap[k]? = w.heap[k]? from fun k hk h2 h3 => (hK5.block k (by omega) h3).trans (HK23.out k hk h2))
      have HO5 := Lib.hid (show wc.os = w.os ∧ wc.tape = w.tape ∧ wc.output = w.output from ⟨hK5.os.trans HO3.out.1, hK5.tape.trans HO3.out.2.1, hK5.output.trans HO3.out.2.2⟩)
      have r1 := blk_cell hP5 0
      have r2 := blk_cell hD5 2
      simp only [List.getElem?_toArray, List.getElem?_cons_zero, List.getElem?_cons_succ] at r1 r2
      have HR5 := Lib.hid hR5
      have HG5 := Lib.hid hG5
      have HD5 := Lib.hid hD5
      have HP5 := Lib.hid hP5
      have hmx : gs.length < maxLen := by simp [maxLen]; omega
      clear hR5 hG5 hD5 hP5 hK5 u0 u1 u2 hl3
      go_wp2_with fail
      go_still_tail 7, (by kernel_rfl)
      change wpList _ _ _ _ _ wc.drew
      refine wpList_put_at (K := KG) (enc := _root_.id) (show MapAt KG _root_.id wc.drew mg gs from HG5.out) (by rfl) (.tmp 36) (.tmp 38) (.tmp 39) 52 41 rfl under_groups hmx rfl g (.slice (some ⟨gb, 0, none⟩) ys.length cap) rfl rfl hgs ?_
      intro w6 hM6 hB6
      have HN := Lib.hid hM6.nodup
      have HD6 := Lib.hid (hB6.blk (show wc.drew.heap[lb]? = _ from HD5.out) (Ne.symm HV2.out.nes.2))
      have hP6 := hB6.blk (show wc.drew.heap[w.heap.size + 1]? = _ from HP5.out) (show w.heap.size + 1 ≠ mg by omega)
      have HMA6 := Lib.hid (HM5.out.move (hB6.2.2.2.2 ma HV2.out.ne))
      have HR6 := Lib.hid (Kd.R_step HR5.out (fun k hk _ => hB6.2.2.2.2 k hk.2.2.2))
      have HK26 := Lib.hid (show ∀ k, k < w.heap.size → k ≠ ma → k ≠ mg → k ≠ gb → w6.heap[k]? = w.heap[k]? from fun k hk h1 h2 h3 => (hB6.2.2.2.2 k h2).trans (HK25.out k hk h1 h3))
      have HO6 := Lib.hid (show w6.os = w.os ∧ w6.tape = w.tape ∧ w6.output = w.output from ⟨hB6.1.trans HO5.out.1, hB6.2.1.trans HO5.out.2.1, hB6.2.2.1.trans HO5.out.2.2⟩)
      have hz6 : w.heap.size ≤ w6.heap.size := by have := hB6.2.2.2.1; have h3 : wc.drew.heap.size = wc.heap.size := rfl; omega
      have hpl : (mput gs g (.slice (some ⟨gb, 0, none⟩) ys.length cap)).length = gs.length := by rw [mput_length HG5.out.nodup, HV.out]; rfl
      have s1 := blk_cell hP6 0
      have s2 := blk_cell HD6.out 2
      simp only [List.getElem?_toArray, List.getElem?_cons_zero, List.getElem?_cons_succ] at s1 s2
      have HM6 := Lib.hid hM6
      have HPL := Lib.hid hpl
      clear hM6 hB6 hP6 r1 r2 hpl
      by_cases hemp : ys = []
      · have he : (((ys.length : Nat) : Int) == 0) = true := by rw [hemp]; rfl
        have HE := Lib.hid hemp
        clear hemp
        go_wp2_with fail
        go_still_tail 6, (by kernel_rfl)
        change wpList _ _ _ _ _ w6.drew
        refine wpList_del_at (K := KG) (enc := _root_.id) (show MapAt KG _root_.id w6.drew mg _ from HM6.out) (by rfl) (.tmp 46) (.tmp 48) 52 41 rfl under_groups rfl g rfl hgs ?_
        intro w7 hM7 hB7
        have HM7 := Lib.hid hM7
        have HB7 := Lib.hid hB7
        clear hM7 hB7 s1 s2
        go_wp2_with fail
        go_ret
        refine ⟨rfl, ⟨_, H.out.dropped hO.ids hm (fun k h1 h2 h3 h4 h5 => (HB7.out.2.2.2.2 k h4).trans (HK26.out k h1 h3 h4 h5)) (HB7.out.blk (show w6.drew.heap[lb]? = _ from HD6.out) (Ne.symm HV2.out.nes.2)) (HMA6.out.move (HB7.out.2.2.2.2 ma HV2.out.ne)) HM7.out HV.out (fun g' hne => by rw [mget_del_other _ hne, mget_put_other _ _ hne]) (.inl ⟨mget_del_same _ _, ?_⟩), ?_⟩, ?_⟩
        · rw [grp_drop, ← HYS.out]
          exact HE.out
        · have := mdel_length HN.out g
          rw [HPL.out] at this
          omega
        · exact ⟨HB7.out.1.trans HO6.out.1, HB7.out.2.1.trans HO6.out.2.1, HB7.out.2.2.1.trans HO6.out.2.2, by rw [HB7.out.2.2.2.1]; exact hz6, fun k hk hn => (HB7.out.2.2.2.2 k (fun e => hn (e ▸ H.out.okmg))).trans (HK26.out k hk (fun e => hn (e ▸ H.out.okma)) (fun e => hn (e ▸ H.out.okmg)) (fun e => hn (e ▸ hgok.1)))⟩
      · have he : (((ys.length : Nat) : Int) == 0) = false := by
          have := List.length_pos_iff.2 hemp
          simp
          omega
        have HE := Lib.hid hemp
        clear hemp
        go_wp2_with fail
        go_ret
        refine ⟨rfl, ⟨_, H.out.dropped hO.ids hm (fun k h1 h2 h3 h4 h5 => HK26.out k h1 h3 h4 h5) HD6.out HMA6.out HM6.out HV.out (fun g' hne => by rw [mget_put_other _ _ hne]) (.inr ⟨_, mget_put_same _ _ _, ?_, ?_, rfl⟩), by rw [HPL.out]; exact Nat.le_refl _⟩, ?_⟩
        · rw [grp_drop, ← HYS.out]
          exact HR6.out
        · rw [grp_drop, ← HYS.out]
          exact HE.out
        · exact ⟨HO6.out.1, HO6.out.2.1, HO6.out.2.2, hz6, fun k hk hn => HK26.out k hk (fun e => hn (e ▸ H.out.okma)) (fun e => hn (e ▸ H.out.okmg)) (fun e => hn (e ▸ hgok.1))⟩

theorem laneDrop_any (w : World) (ok : Nat → Prop) (lb T : Nat) (s : List En) (id : Int) (h : LnAt w ok lb s T) (hw : (Lit.int .i64 id).wf = true) (hT : T ≤ 1000000) :
    Calls Try.prog 10 #[.pointer (some ⟨lb, 0, none⟩), .int .i64 id] w fun e w' => e = .returned (.bool (hasEn s id)) ∧ LnAt w' ok lb (lDrop s id) T ∧ Keep ok w w' := by
  obtain ⟨ma, mg, turn, gs, hV, hO, h0, h1, h2, h3⟩ := h
  have hh := en_has s id
  cases hm : mget s id with
  | some v =>
    rw [hm] at hh
    have hh : hasEn s id = true := hh
    refine Calls.mono (laneDrop_some w ok lb ma mg turn s gs id v.1 v.2 hV hO hw (mget_some hm) (by omega)) ?_
    rintro e w' ⟨rfl, ⟨gs', hV', hgl⟩, hK⟩
    exact ⟨by rw [hh], ⟨ma, mg, turn, gs', hV', hO.drop id, h0, h1, by omega, Nat.le_trans (lDrop_len s id) h3⟩, hK⟩
  | none =>
    rw [hm] at hh
    have hh : hasEn s id = false := hh
    refine Calls.mono (laneDrop_none w ok lb ma mg turn s gs id hV hw hm) ?_
    rintro e w' ⟨rfl, hB⟩
    refine ⟨by rw [hh], ?_, Keep.of_below hB ok⟩
    rw [lDrop_none hh]
    exact LnAt.below ⟨ma, mg, turn, gs, hV, hO, h0, h1, h2, h3⟩ hB
end Go.Proofs.Ytdcifghhamondaa
