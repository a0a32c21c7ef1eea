/- slices.DeleteFunc of one id, on a row of the call's own. -/
import Derived.Test.YtdcifghhamondaaLnMem
import Derived.Test.YtdcifghhamondaaShelfDel
import Derived.Sort.OwnSortedInts
namespace Go.Proofs.Ytdcifghhamondaa
open Go.RowKit Go.Proofs.YtdcifghhamondaaW.PrintWords
open Go.Sort (grow putRow putCells ahead mapBlock Holds cell?_grow cell?_putRow_other size_putRow grow_empty)

theorem drop_gives (id x : Int) (B : Nat) (W : World) (hc : W.cell? ⟨B, 0, none⟩ = some (.int .i64 id)) :
    FnGives Try.prog 26 #[.pointer (some ⟨B, 0, none⟩)] #[.int .i64 x] (.bool (decide (x = id))) W := by
  show Calls Try.prog 26 #[.int .i64 x, .pointer (some ⟨B, 0, none⟩)] W _
  go_enter Try.func26, Try.ntmps26
  go_wp2
  all_goals (go_ret; exact ⟨by rw [show (x == id) = decide (x = id) from by by_cases h : x = id <;> simp [h]]; rfl, 0, rfl⟩)
theorem drop_pred (id : Int) (B : Nat) (w : World) (hB : B < w.heap.size) (hc : w.cell? ⟨B, 0, none⟩ = some (.int .i64 id)) :
    PredAt Try.prog 26 #[.pointer (some ⟨B, 0, none⟩)] (Value.int .i64) (fun x => decide (x = id)) w :=
  fun W x hb => drop_gives id x B W ((hb.cell (p := ⟨B, 0, none⟩) hB).trans hc)
theorem drop_over (id : Int) (B blk off size : Nat) (w : World) (hB : B < w.heap.size) (hne : B ≠ blk) (hc : w.cell? ⟨B, 0, none⟩ = some (.int .i64 id)) :
    PredOver Try.prog 26 #[.pointer (some ⟨B, 0, none⟩)] (Value.int .i64) (fun x => decide (x = id)) blk off size w :=
  fun n os dk x _ => drop_gives id x B _ (by
    unfold sortWorld
    rw [cell?_grow _ _ _ (by show B < (putRow _ _ _ _ _).heap.size; rw [size_putRow]; exact hB), cell?_putRow_other _ _ blk off _ _ (Or.inl hne)]
    exact hc)
theorem delFunc_id (w : World) (b : Nat) (ok : Nat → Prop) (g n cap B : Nat) (xs : List Int) (id : Int) (hR : (Kd.int .i64).R 3 w b ok (.slice (some ⟨g, 0, none⟩) n cap) xs) (hB : B < w.heap.size) (hne : B ≠ g) (hc : w.cell? ⟨B, 0, none⟩ = some (.int .i64 id)) :
    Calls Try.prog 25 #[.slice (some ⟨g, 0, none⟩) n cap, .func (.func 26) #[] #[.pointer (some ⟨B, 0, none⟩)]] w fun e w' => e = .returned (.slice (some ⟨g, 0, none⟩) (xs.filter (fun x => decide (x ≠ id))).length cap) ∧ (Kd.int .i64).R 3 w' b ok (.slice (some ⟨g, 0, none⟩) (xs.filter (fun x => decide (x ≠ id))).length cap) (xs.filter (fun x => decide (x ≠ id))) ∧ Keep (fun k => k = g) w w' := by
  obtain ⟨hn, hcap, hC⟩ := Kd.R_reads' hR
  have hm := Kd.C_max hC
  subst hn
  have ho := Kd.own_of_R hR
  rcases ho.2 with ⟨hv, _⟩ | ⟨g', cap', cur, hv, hb, hh, h1, h2, h3, h4⟩
  · cases hv
  injection hv with ha _ hc'
  injection ha with ha
  injection ha with ha
  subst ha hc'
  rw [Nat.mul_one] at h3 h4
  have h4 : cur.toList.take xs.length = xs.map (Value.int .i64) := h4
  have eg : ∀ args w, (callFunc 26 args).run Try.prog w = .ok (.enter 26 args) w := enters_of Try.func26 (by kernel_rfl) rfl
  have hcon := AnyE.slices_DeleteFunc Try.delInt (Value.int .i64) (fun _ => rfl) (fun x => decide (x = id)) 26 #[.pointer (some ⟨B, 0, none⟩)] eg 0 Try.zeroValue3 g 0 cap xs.toArray w
    (drop_pred id B w hB hc) (drop_over id B g 0 xs.toArray.size w hB hne hc) (Go.holds_of_blockI hh h4) (by simpa using hm) (by simpa using hcap)
  have hfe : (xs.toArray.toList.filter fun x => !decide (x = id)) = xs.filter (fun x => decide (x ≠ id)) := by
    apply List.filter_congr
    intro x _
    simp
  rw [hfe] at hcon
  have hfl := List.length_filter_le (fun x => decide (x ≠ id)) xs
  generalize hys : xs.filter (fun x => decide (x ≠ id)) = ys at *
  rw [show xs.toArray.size = xs.length by simp] at hcon
  refine Calls.mono hcon ?_
  rintro e w' ⟨rfl, q, rfl⟩
  have hd : (ys ++ List.replicate (xs.length - ys.length) 0).length = xs.length := by simp; omega
  have hheap := Go.heap_sortedI (w := w) (g := g) (n := q) (os := #[]) (ys ++ List.replicate (xs.length - ys.length) (0 : Int)).toArray hh
  have hgb := Go.grownBy_sortedI (w := w) (g := g) (n := q) (os := #[]) (ys ++ List.replicate (xs.length - ys.length) (0 : Int)).toArray
  rw [grow_empty] at hheap hgb
  have htk := Go.take_putCellsI cur (ys ++ List.replicate (xs.length - ys.length) (0 : Int)) (by rw [hd]; omega)
  refine ⟨rfl, Kd.R_of_own ⟨by rw [encs_length, Nat.mul_one], .inr ⟨g, cap, _, rfl, hb, hheap, by omega, h2, by simpa [putCells] using h3, ?_⟩⟩ hR.1, ⟨hgb.os, hgb.tape, hgb.output, hgb.size, fun k hk hn => hgb.block k hk (fun e => hn (Option.some.inj e))⟩⟩
  rw [Nat.mul_one]
  have := congrArg (List.take ys.length) htk
  rw [List.take_take, hd, Nat.min_eq_left hfl] at this
  rw [this, List.map_append, List.take_append_of_le_length (by simp), List.take_of_length_le (by simp)]
  rfl
end Go.Proofs.Ytdcifghhamondaa
