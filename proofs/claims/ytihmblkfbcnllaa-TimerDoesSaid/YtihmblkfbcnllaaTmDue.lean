/- (*Timer).Due by its contract. -/
import Derived.Test.YtihmblkfbcnllaaTmCopy
import Derived.Deep.LoopGhost
namespace Go.Proofs.Ytihmblkfbcnllaa
open Go.RowKit Go.Maps Go.Proofs.YtihmblkfbcnllaaW.PrintWords

/-- How many of the first are due. -/
def tDue (s : List It) (now : Int) : Nat := (s.takeWhile (fun p => decide (p.2 ≤ now))).length
theorem tDue_le (s : List It) (now : Int) : tDue s now ≤ s.length := by
  unfold tDue
  exact (List.takeWhile_sublist _).length_le
theorem tDue_nil (now : Int) : tDue [] now = 0 := rfl
theorem tDue_cons (p : It) (s : List It) (now : Int) : tDue (p :: s) now = if p.2 ≤ now then tDue s now + 1 else 0 := by
  unfold tDue
  by_cases h : p.2 ≤ now <;> simp [h]
theorem tDrop_head {x : It} {s : List It} (h : tRow (x :: s)) : tDrop (x :: s) x.1 = s := by
  have hn := h.2
  rw [List.map_cons, List.nodup_cons] at hn
  have : tDrop (x :: s) x.1 = tDrop s x.1 := by unfold tDrop; simp
  rw [this, drop_none]
  intro p hp e
  exact hn.1 (by rw [← e]; exact List.mem_map_of_mem hp)

/-- Where Due stands: what was taken out, and what is left. -/
structure DueAt (s : List It) (now : Int) (out s' : List It) : Prop where
  all : s = out ++ s'
  due : ∀ p ∈ out, p.2 ≤ now
theorem tDue_split {out s' : List It} {now : Int} (h : ∀ p ∈ out, p.2 ≤ now) : tDue (out ++ s') now = out.length + tDue s' now := by
  induction out with
  | nil => simp
  | cons p out ih =>
    rw [List.cons_append, tDue_cons, if_pos (h p (by simp)), ih (fun q hq => h q (List.mem_cons_of_mem _ hq)), List.length_cons]
    omega
theorem DueAt.done {s out s' : List It} {now : Int} (h : DueAt s now out s') (hd : tDue s' now = 0) : out = s.take (tDue s now) ∧ s' = s.drop (tDue s now) := by
  have e : tDue s now = out.length := by rw [h.all, tDue_split h.due, hd]; rfl
  rw [e, h.all]
  simp
theorem DueAt.step {s out s' : List It} {now : Int} {x : It} (h : DueAt s now out (x :: s')) (hx : x.2 ≤ now) : DueAt s now (out ++ [x]) s' := by
  refine ⟨by rw [h.all]; simp, fun p hp => ?_⟩
  rcases List.mem_append.1 hp with hp | hp
  · exact h.due p hp
  · rw [List.mem_singleton.1 hp]; exact hx

set_option maxHeartbeats 1600000 in
theorem timerDue_any (w : World) (ok : Nat → Prop) (tb : Nat) (s : List It) (now : Int) (h : TmAt w ok tb s) (hs : s.length ≤ 1000000) :
    Calls Try.prog 18 #[.pointer (some ⟨tb, 0, none⟩), .int .i64 now] w fun e w' => ∃ v, e = .returned v ∧ KIt.R 34 w' w.heap.size (fun _ => True) v (s.take (tDue s now)) ∧ TmAt w' (fun k => ok k ∧ k < w.heap.size) tb (s.drop (tDue s now)) ∧ Keep ok w w' := by
  have h := h.mono (ok' := fun k => ok k ∧ k < w.heap.size) (fun k hk hl => ⟨hk, hl⟩)
  have H := Lib.hid h
  clear h
  go_enter Try.func18, Try.ntmps18
  go_wp2_with fail
  refine Calls.mono (timerNext_any w _ tb s H.out) ?_
  rintro e w1 ⟨rfl, hB1⟩
  have HB1 := Lib.hid hB1
  clear hB1
  go_wp2_with fail
  obtain ⟨okb, hokb⟩ : ∃ okb : Nat → Prop, okb = fun k => ok k ∧ k < w.heap.size := ⟨_, rfl⟩
  have hob : ∀ k, okb k → ok k ∧ k < w.heap.size := fun k hk => by rw [hokb] at hk; exact hk
  have H' := Lib.hid (show TmAt w okb tb s by rw [hokb]; exact H.out)
  have HOB := Lib.hid hob
  have HOKB := Lib.hid hokb
  have hr0 : w1.heap.size < (w1.alloc (.cells #[.int .i64 (itFirst s).1.1, .int .i64 (itFirst s).1.2] 34)).heap.size := by simp
  have hbx := heap_alloc_new w1 (.cells #[.int .i64 (itFirst s).1.1, .int .i64 (itFirst s).1.2] 34)
  have hB2 := HB1.out.trans ((below_alloc (Below.refl _ w1) (.cells #[.int .i64 (itFirst s).1.1, .int .i64 (itFirst s).1.2] 34)).mono HB1.out.size)
  have hsz1 := HB1.out.size
  generalize w1.alloc (.cells #[.int .i64 (itFirst s).1.1, .int .i64 (itFirst s).1.2] 34) = W2 at *
  have HB2 := Lib.hid hB2
  have HBX := Lib.hid hbx
  clear hokb hob hbx hB2
  go_loopg [5, 6, 7] s.length (fun gn u5 u6 u7 wr => ∃ (out s' : List It) (xb : Nat), s'.length ≤ gn ∧ u6 = .pointer (some ⟨xb, 0, none⟩) ∧ u7 = .bool (itFirst s').2 ∧ DueAt s now out s' ∧ TmAt wr okb tb s' ∧ KIt.R 34 wr w.heap.size (fun k => k ≠ xb) u5 out ∧ wr.heap[xb]? = some (.cells #[.int .i64 (itFirst s').1.1, .int .i64 (itFirst s').1.2] 34 (0, 0)) ∧ w.heap.size ≤ xb ∧ Keep okb w wr)
  case atStart => exact ⟨[], s, w1.heap.size, Nat.le_refl _, rfl, rfl, ⟨rfl, by simp⟩, H'.out.below HB2.out, Kd.R_nil _ _ _ _ _, HBX.out, hsz1, Keep.of_below HB2.out _⟩
  case round =>
    obtain ⟨out, s', xb, hgn, rfl, rfl, hD, hT, hR, hbx, hxw, hK⟩ := hrel
    have HD := Lib.hid hD
    have HT := Lib.hid hT
    have HR := Lib.hid hR
    have HK := Lib.hid hK
    have hol : out.length + s'.length = s.length := by rw [hD.all, List.length_append]
    clear hD hT hR hK
    cases s' with
    | nil =>
      have hdone := HD.out.done rfl
      have HDN := Lib.hid hdone
      clear hdone
      rw [show (itFirst []).2 = false from rfl]
      go_wp2_with fail
      go_ret
      refine ⟨_, rfl, ?_, ?_, ?_⟩
      · rw [← HDN.out.1]
        exact Kd.R_mono HR.out (fun _ _ => trivial)
      · rw [← HDN.out.2, ← HOKB.out]
        exact HT.out
      · exact HK.out.mono (fun k _ hk => (HOB.out k hk).1)
    | cons x r =>
      rw [show (itFirst (x :: r)).2 = true from rfl]
      rw [show itFirst (x :: r) = (x, true) from rfl] at hbx
      have b0 := blk_cell hbx 0
      have b1 := blk_cell hbx 1
      have hxl := blk_lt hbx
      simp only [List.getElem?_toArray, List.getElem?_cons_succ, List.getElem?_cons_zero] at b0 b1
      have HBX' := Lib.hid hbx
      clear hbx
      by_cases hnow : x.2 ≤ now
      · have hwx := HT.out.wf x (by simp)
        rw [List.length_cons] at hol hgn
        go_wp2_with (at_builtin; refine Kd.R_append KIt (w0 := wr) w.heap.size rfl (.tmp 25) (.tmp 27) 41 34 (.agg #[.int .i64 0, .int .i64 0]) 16 rfl Try.underlying41 info_item rfl (by decide) (by omega) u5 out x [.int .i64 x.1, .int .i64 x.2] (fun k => k ≠ xb) (fun _ => False) rfl rfl (KIt_of wr w.heap.size _ x) (fun _ h => h.elim) (fun k hk e => by omega) HR.out (Below.refl _ _) HK.out.size (by omega) ?_; intro v1 w3 h1 h2 hgr hat; have HR3 := Lib.hid h1; have HGR := Lib.hid hgr; have hb3 := blk_grown HBX'.out hgr (fun e => HR.out.1 xb e.symm rfl); have c0 := blk_cell hb3 0; have c1 := blk_cell hb3 1; simp only [List.getElem?_toArray, List.getElem?_cons_succ, List.getElem?_cons_zero] at c0 c1; have HB3 := Lib.hid hb3; clear h1 h2 hgr hat hb3)
        have hT3 : TmAt w3 okb tb (x :: r) := HT.out.move (fun k hk hl => HGR.out.block k hl (fun e => by have := Kd.R_base HR.out k e.symm; have := (HOB.out k hk).2; omega))
        have hK3 : Keep okb w w3 := HK.out.trans ⟨HGR.out.os, HGR.out.tape, HGR.out.output, HGR.out.size, fun k hl hn => HGR.out.block k hl (fun e => hn (.inr (Kd.R_base HR.out k e.symm)))⟩
        refine Calls.mono (timerDrop_any w3 okb tb (x :: r) x.1 hT3 hwx (by rw [List.length_cons]; omega)) ?_
        rintro e w4 ⟨rfl, hT4, hK4⟩
        rw [tDrop_head hT3.trow] at hT4
        have hxo : ¬ okb xb := fun h => by have := (HOB.out xb h).2; omega
        have hb4 := (hK4.block xb (blk_lt HB3.out) hxo).trans HB3.out
        have c0 := blk_cell hb4 0
        have c1 := blk_cell hb4 1
        have hl4 := blk_lt hb4
        simp only [List.getElem?_toArray, List.getElem?_cons_succ, List.getElem?_cons_zero] at c0 c1
        have HR4 := Lib.hid (Kd.R_step (Kd.R_bound HR3.out) (w1 := w4) (fun k hk hl => hK4.block k hl (fun ho => by have := hk.2.1; have := (HOB.out k ho).2; omega)))
        have hs34 := hK4.size
        have HT4 := Lib.hid hT4
        have HK4 := Lib.hid (hK3.trans (hK4.mono (fun _ _ h => .inl h)))
        clear hT3 hK3 hT4 hK4 hb4
        go_wp2_with fail
        refine Calls.mono (timerNext_any _ okb tb r (HT4.out.below (below_alloc (Below.refl _ _) _))) ?_
        rintro e w5 ⟨rfl, hB5⟩
        have hb5 := blk_below (heap_alloc_new w4 (.cells #[.int .i64 x.1, .int .i64 x.2] 34)) hB5
        have d0 := blk_cell hb5 0
        have d1 := blk_cell hb5 1
        have g0 := blk_frozen hb5 0
        have g1 := blk_frozen hb5 1
        have hl5 := blk_lt hb5
        simp only [List.getElem?_toArray, List.getElem?_cons_succ, List.getElem?_cons_zero] at d0 d1
        have hB45 : Below w4.heap.size w4 w5 := (below_alloc (Below.refl _ w4) (.cells #[.int .i64 x.1, .int .i64 x.2] 34)).trans (hB5.mono (by simp))
        have HB5 := Lib.hid hB45
        have HBB := Lib.hid hb5
        have hw4 : w.heap.size ≤ w4.heap.size := HK4.out.size
        clear hB5 hb5 hB45 c0 c1
        go_wp2_with fail
        go_roundg r.length
        case measure => omega
        case rel =>
          have hne : ∀ k, k < w4.heap.size → k ≠ w4.heap.size := fun k hk => by omega
          refine ⟨out ++ [x], r, w4.heap.size, Nat.le_refl _, rfl, rfl, HD.out.step hnow, ?_, ?_, ?_, hw4, ?_⟩
          · refine HT4.out.move (fun k hk hl => ?_)
            rw [Below.heap_setCell _ _ _ k (hne k hl), Below.heap_setCell _ _ _ k (hne k hl)]
            exact HB5.out.block k hl
          · refine Kd.R_mono (Kd.R_step (Kd.R_bound HR4.out) (fun k hk hl => ?_)) (fun k hk => by have := hk.2.2.1; omega)
            rw [Below.heap_setCell _ _ _ k (hne k hl), Below.heap_setCell _ _ _ k (hne k hl)]
            exact HB5.out.block k hl
          · have := blk_set (blk_set HBB.out 0 (.int .i64 (itFirst r).1.1)) 1 (.int .i64 (itFirst r).1.2)
            simpa using this
          · refine HK4.out.trans ⟨HB5.out.os, HB5.out.tape, HB5.out.output, ?_, fun k hl hn => ?_⟩
            · simpa [World.setCell] using HB5.out.size
            · rw [Below.heap_setCell _ _ _ k (hne k hl), Below.heap_setCell _ _ _ k (hne k hl)]
              exact HB5.out.block k hl
      · have hnb : decide (x.2 ≤ now) = false := by simpa using hnow
        have hdone := HD.out.done (by rw [tDue_cons, if_neg hnow])
        have HDN := Lib.hid hdone
        clear hdone
        go_wp2_with fail
        go_ret
        refine ⟨_, rfl, ?_, ?_, ?_⟩
        · rw [← HDN.out.1]
          exact Kd.R_mono HR.out (fun _ _ => trivial)
        · rw [← HDN.out.2, ← HOKB.out]
          exact HT.out
        · exact HK.out.mono (fun k _ hk => (HOB.out k hk).1)
end Go.Proofs.Ytihmblkfbcnllaa
