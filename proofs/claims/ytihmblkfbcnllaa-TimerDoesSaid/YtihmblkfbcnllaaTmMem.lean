/- What a timer is in memory; (*Timer).put by its contract. -/
import Derived.Test.YtihmblkfbcnllaaTmLaw
import Derived.Test.YtihmblkfbcnllaaWShare
import Derived.Deep.RegionHeld3
import Derived.Deep.QuietTactic
import Derived.BigQuiet
namespace Go.Proofs.Ytihmblkfbcnllaa
open Go.RowKit Go.Maps Go.Proofs.YtihmblkfbcnllaaW.PrintWords

theorem info_item : (Try.prog.info? 34).map (fun i => (i.zero, i.size, i.bytes)) = some (some (.agg #[.int .i64 0, .int .i64 0]), 2, 16) := by kernel_rfl
def KIt : Kd It := Kd.pair (Kd.int .i64) (Kd.int .i64)
theorem KIt_cells {w : World} {base : Nat} {ok : Nat → Prop} {x : It} {c : List Value} (h : KIt.M w base ok x c) : c = [.int .i64 x.1, .int .i64 x.2] := by
  obtain ⟨c0, c1, rfl, h0, h1⟩ := h
  have h0 : c0 = [.int .i64 x.1] := h0
  have h1 : c1 = [.int .i64 x.2] := h1
  rw [h0, h1]
  rfl
theorem KIt_of (w : World) (base : Nat) (ok : Nat → Prop) (x : It) : KIt.M w base ok x [.int .i64 x.1, .int .i64 x.2] := ⟨[.int .i64 x.1], [.int .i64 x.2], rfl, rfl, rfl⟩
noncomputable def KI : KeyKd Try.prog 3 Int := intKey Try.underlying3
theorem under_map : Try.prog.underlying 53 = some (.map 3 3) := Try.underlying53
theorem zero_int (w : World) : (zeroValue 3).run Try.prog w = .ok (.int .i64 0) w := by kernel_rfl

/-- A timer (its block tb, its row v, its map's block mb): the heap l, and where each is. -/
structure TmV (w : World) (ok : Nat → Prop) (tb : Nat) (v : Value) (mb : Nat) (l : List It) (ps : List (Int × Int)) : Prop where
  hd : w.heap[tb]? = some (.cells #[v, .map (some mb)] 55 (0, 0))
  row : KIt.R 34 w 0 (fun k => ok k ∧ k ≠ tb ∧ k ≠ mb) v l
  map : MapAt KI (.int .i64) w mb ps
  oktb : ok tb
  okmb : ok mb
theorem TmV.move {w w' : World} {ok : Nat → Prop} {tb : Nat} {v : Value} {mb : Nat} {l : List It} {ps : List (Int × Int)} (h : TmV w ok tb v mb l ps) (hm : ∀ k, ok k → k < w.heap.size → w'.heap[k]? = w.heap[k]?) : TmV w' ok tb v mb l ps :=
  ⟨(hm tb h.oktb (blk_lt h.hd)).trans h.hd, Kd.R_step h.row (fun k hk hl => hm k hk.1 hl), h.map.move (hm mb h.okmb h.map.lt), h.oktb, h.okmb⟩
theorem TmV.ne {w : World} {ok : Nat → Prop} {tb : Nat} {v : Value} {mb : Nat} {l : List It} {ps : List (Int × Int)} (h : TmV w ok tb v mb l ps) : mb ≠ tb := h.map.ne_cells h.hd

set_option maxHeartbeats 400000 in
theorem put_any (w : World) (ok : Nat → Prop) (tb : Nat) (v : Value) (mb : Nat) (l : List It) (ps : List (Int × Int)) (k : Nat) (x : It) (h : TmV w ok tb v mb l ps) (hk : k < l.length) (hx : (Lit.int .i64 x.1).wf = true) (hps : ps.length < maxLen) :
    Calls Try.prog 23 #[.pointer (some ⟨tb, 0, none⟩), .int .i64 (k : Int), .agg #[.int .i64 x.1, .int .i64 x.2]] w fun e w' => e = .returned (.tuple #[]) ∧ TmV w' ok tb v mb (l.set k x) (mput ps x.1 k) ∧ Keep (fun k => k = mb ∨ v.ownBlock = some k) w w' := by
  obtain ⟨g, cap, rfl, _, hgl, cells, hg⟩ := Kd.R_form h.row (by omega)
  obtain ⟨c, hcl, hM, hcc, hcf⟩ := Kd.R_elem h.row (0, 0) (k : Int) (by omega) (by omega)
  have hc := KIt_cells hM
  subst hc
  have hsz : KIt.sz = 2 := rfl
  rw [hsz] at hcc hcf
  simp only [Int.toNat_natCast] at hcc hcf
  have e0 : w.cell? ⟨g, k * 2, none⟩ = _ := hcc 0 _ rfl
  have e1 := hcc 1 _ rfl
  have f0 : w.frozen? ⟨g, k * 2, none⟩ = false := hcf 0
  have f1 := hcf 1
  have t0 := blk_cell h.hd 0
  have t1 := blk_cell h.hd 1
  simp only [List.getElem?_toArray, List.getElem?_cons_succ, List.getElem?_cons_zero] at t0 t1
  have hmax := Kd.C_max (Kd.R_reads' h.row).2.2
  have i0 : (0 : Int) ≤ (k : Int) := by omega
  have i1 : (k : Int) < (l.length : Int) := by omega
  have htl := blk_lt h.hd
  have hml := h.map.lt
  have H := Lib.hid h
  clear h hg hcc hcf hM hcl
  go_enter Try.func23, Try.ntmps23
  go_wp2_with fail
  go_region
  have hseg := Kd.R_seg H.out.row (k : Int) (by omega) i1 (c := [.int .i64 (l.getD k (0, 0)).1, .int .i64 (l.getD k (0, 0)).2]) (seg := [.int .i64 x.1, .int .i64 x.2]) (j := 0) rfl (by
    intro j u hu
    rw [hsz, Int.toNat_natCast]
    match j, hu with
    | 0, hu => rw [← Option.some.inj hu]; exact e0
    | 1, hu => rw [← Option.some.inj hu]; exact e1
    | j + 2, hu => simp at hu) (by show 0 + 2 ≤ 2; omega) (x' := x) (by exact KIt_of w 0 (fun k' => (ok k' ∧ k' ≠ tb ∧ k' ≠ mb) ∧ k' ≠ g) x) (fun _ h => h)
  simp only [hsz, Int.toNat_natCast] at hseg
  obtain ⟨hR1, hG1⟩ := hseg
  have hokg : ok g ∧ g ≠ tb ∧ g ≠ mb := H.out.row.1 g rfl
  obtain ⟨W2, hW2⟩ : ∃ W2, W2 = (((w.setCell ⟨g, k * 2, none⟩ (.int .i64 x.1)).setCell ⟨g, k * 2 + 1, none⟩ (.int .i64 x.2)).alloc (.cells #[.int .i64 x.1, .int .i64 x.2] 34)).drew := ⟨_, rfl⟩
  rw [← hW2]
  have hz1 : ((w.setCell ⟨g, k * 2, none⟩ (.int .i64 x.1)).setCell ⟨g, k * 2 + 1, none⟩ (.int .i64 x.2)).heap.size = w.heap.size := by simp [World.setCell]
  have hB2 : Below w.heap.size ((w.setCell ⟨g, k * 2, none⟩ (.int .i64 x.1)).setCell ⟨g, k * 2 + 1, none⟩ (.int .i64 x.2)) W2 := by
    rw [hW2]
    exact ((Below.refl _ _).alloc (by rw [hz1]; exact Nat.le_refl _) _).drew
  have hm2 : ∀ k', k' ≠ g → k' < w.heap.size → W2.heap[k']? = w.heap[k']? := fun k' h1 h2 => (hB2.block k' h2).trans (hG1.block k' h2 (fun e => h1 (Option.some.inj e)))
  have hhd2 : W2.heap[tb]? = _ := (hm2 tb (Ne.symm hokg.2.1) htl).trans H.out.hd
  have hmp2 : MapAt KI (.int .i64) W2 mb ps := H.out.map.move (hm2 mb (Ne.symm hokg.2.2) hml)
  have hR2 : KIt.R 34 W2 0 (fun k => ok k ∧ k ≠ tb ∧ k ≠ mb) (.slice (some ⟨g, 0, none⟩) l.length cap) (l.set k x) := Kd.R_step hR1 (fun k' _ hl => hB2.block k' (by rw [← hz1]; exact hl))
  have hbx : W2.heap[w.heap.size]? = some (.cells #[.int .i64 x.1, .int .i64 x.2] 34 (0, 0)) := by
    rw [hW2, ← hz1]
    exact heap_alloc_new _ _
  have hsz2 : W2.heap.size = w.heap.size + 1 := by rw [hW2]; simp [World.setCell]
  obtain ⟨W3, hrun, hM3, hB3⟩ := (show MapAt KI (.int .i64) W2.drew mb ps from hmp2).put under_map hps (a := x.1) hx (k : Int)
  have hrun : (Instr.mapUpdate 53 (.map (some mb)) (.int .i64 x.1) (.int .i64 (k : Int))).run Try.prog W2.drew = .ok () W3 := hrun
  have t0 := blk_cell hhd2 0
  have t1 := blk_cell hhd2 1
  have b0 := blk_cell hbx 0
  simp only [List.getElem?_toArray, List.getElem?_cons_succ, List.getElem?_cons_zero] at t0 t1 b0
  have HW2 := Lib.hid hW2
  have HSZ := Lib.hid hsz2
  have hhd2' := Lib.hid hhd2
  clear hW2 hz1 e0 e1 f0 f1 hhd2 hbx hsz2 hsz
  go_wp2_with fail
  go_region
  go_end0
  have hs := HSZ.out
  refine ⟨rfl, ⟨hB3.blk hhd2'.out (Ne.symm H.out.ne), Kd.R_step hR2 (fun k' h1 _ => hB3.2.2.2.2 k' h1.2.2), hM3, H.out.oktb, H.out.okmb⟩, ?_⟩
  refine ⟨?_, ?_, ?_, ?_, fun k' h1 h2 => ?_⟩
  · exact hB3.1.trans (hB2.os.trans hG1.os)
  · exact hB3.2.1.trans (hB2.tape.trans hG1.tape)
  · exact hB3.2.2.1.trans (hB2.output.trans hG1.output)
  · rw [hB3.2.2.2.1]; show w.heap.size ≤ W2.heap.size; rw [hs]; omega
  · exact (hB3.2.2.2.2 k' (fun e => h2 (.inl e))).trans (hm2 k' (fun e => h2 (.inr (by rw [e]; rfl))) h1)
end Go.Proofs.Ytihmblkfbcnllaa
