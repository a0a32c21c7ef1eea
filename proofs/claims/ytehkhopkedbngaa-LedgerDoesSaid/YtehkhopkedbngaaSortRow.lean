/- A row of scalars that the library's sort has turned: what lies where. No program in it. -/
import Derived.Test.YtehkhopkedbngaaBase
import Derived.Shelf.GgSortFunc.Insertion
import Derived.Sort.OwnSorted
namespace Go.Proofs.Ytehkhopkedbngaa
open Go.RowKit Go.Proofs.YtehkhopkedbngaaW.PrintWords
open Go.Sort (grow putRow putCells ahead mapBlock Holds onCells size_putRow grow_empty heap_grow_old)

section
variable {α : Type} [Inhabited α] (enc : α → Value)
theorem swHeap (w : World) (blk off m : Nat) (dk : Array α) (os : Array Obj) {k : Nat} (hne : k ≠ blk) (hk : k < w.heap.size) : (sortWorld enc w blk off m dk os).heap[k]? = w.heap[k]? := by
  unfold sortWorld
  rw [heap_grow_old _ _ (by simp [putRow, mapBlock]; omega)]
  have : blk ≠ k := fun e => hne e.symm
  simp [putRow, mapBlock, Array.getElem?_modify, this]
theorem swBlk {w : World} {g m : Nat} {os : Array Obj} {cur : Array Value} {e : TypeId} {fr : Nat × Nat} (d : Array α) (hb : w.heap[g]? = some (.cells cur e fr)) :
    (sortWorld enc w g 0 m d os).heap[g]? = some (.cells (putCells enc 0 d cur) e fr) := by
  have hg : g < w.heap.size := (Array.getElem?_eq_some_iff.1 hb).1
  unfold sortWorld
  rw [heap_grow_old _ _ (by simpa using hg)]
  simp [putRow, mapBlock, Array.getElem?_modify, hb, onCells]
theorem swGrown {w : World} {g m : Nat} {os : Array Obj} (d : Array α) : w.grownBy (sortWorld enc w g 0 m d os) (some g) := by
  unfold sortWorld
  refine ⟨rfl, rfl, rfl, by simp, fun k hk hne => ?_⟩
  rw [heap_grow_old _ _ (by simpa using hk)]
  have : g ≠ k := fun e => hne (by rw [e])
  simp [putRow, mapBlock, Array.getElem?_modify, this]
theorem swTake (cur : Array Value) (ts : List α) (h : ts.length ≤ cur.size) : (putCells enc 0 ts.toArray cur).toList.take ts.length = ts.map enc := by
  apply List.ext_getElem?
  intro j
  by_cases hj : j < ts.length
  · rw [List.getElem?_take_of_lt hj, Array.getElem?_toList]
    simp [putCells, hj, show j < cur.size by omega]
  · rw [List.getElem?_take_eq_none (by omega), List.getElem?_eq_none (by simp; omega)]
theorem swHolds {w : World} {g : Nat} {cur : Array Value} {e : TypeId} {ss : List α} (hb : w.heap[g]? = some (.cells cur e (0, 0))) (ht : cur.toList.take ss.length = ss.map enc) : Holds enc w g 0 ss.toArray := by
  intro j hj
  have hj' : j < ss.length := by simpa using hj
  refine ⟨?_, by simp [World.frozen?, hb]⟩
  have h1 : (cur.toList.take ss.length)[j]? = (ss.map enc)[j]? := by rw [ht]
  rw [List.getElem?_take_of_lt hj'] at h1
  simp only [World.cell?, hb, Nat.zero_add]
  simp only [Option.isSome_none, Bool.false_eq_true, if_false]
  rw [← Array.getElem?_toList, h1]
  simp [hj']
end
section
variable {α β : Type} [Inhabited α] [Inhabited β] (f : β → α)
theorem swMap (enc : α → Value) (w : World) (blk off m : Nat) (d : Array β) (os : Array Obj) : sortWorld (fun x => enc (f x)) w blk off m d os = sortWorld enc w blk off m (d.map f) os := by
  have hp : ∀ c, putCells (fun x => enc (f x)) off d c = putCells enc off (d.map f) c := by
    intro c
    unfold putCells
    congr 1
    funext k x
    rw [Array.size_map]
    by_cases h : off ≤ k ∧ k < off + d.size
    · rw [if_pos h, if_pos h]
      have hk : k - off < d.size := by omega
      rw [getElem!_pos (d.map f) (k - off) (by simpa using hk), getElem!_pos d (k - off) hk, Array.getElem_map]
    · rw [if_neg h, if_neg h]
  unfold sortWorld putRow
  rw [show putCells (fun x => enc (f x)) off d = putCells enc off (d.map f) from funext hp]
theorem holdsMap {enc : α → Value} {w : World} {blk off : Nat} {d : Array β} (h : Holds enc w blk off (d.map f)) : Holds (fun x => enc (f x)) w blk off d := by
  intro j hj
  have := h j (by simpa using hj)
  rw [getElem!_pos (d.map f) j (by simpa using hj), Array.getElem_map] at this
  rw [getElem!_pos d j hj]
  exact this
end
/-- A row of the call's own stays one behind the sort. -/
theorem R_sortedS {α : Type} [Inhabited α] {enc : α → Value} {h1 : ∀ x, (enc x).oneCell' = true} {e : Nat} {w : World} {b : Nat} {ok : Nat → Prop} {g n cap m : Nat} {os : Array Obj} {xs ys : List α} (hR : (Kd.scalar enc h1).R e w b ok (.slice (some ⟨g, 0, none⟩) n cap) xs) (hl : ys.length = xs.length) :
    (Kd.scalar enc h1).R e (sortWorld enc w g 0 m ys.toArray os) b ok (.slice (some ⟨g, 0, none⟩) n cap) ys := by
  obtain ⟨hn, _, _⟩ := Kd.R_reads' hR
  subst hn
  have ho := Kd.own_of_R hR
  rcases ho.2 with ⟨hv, _⟩ | ⟨g', cap', cur, hv, hb, hh, h1', h2, h3, h4⟩
  · cases hv
  injection hv with ha _ hc'
  injection ha with ha
  injection ha with ha
  subst ha hc'
  rw [Nat.mul_one] at h3
  refine Kd.R_of_own ⟨by rw [encs_length, Nat.mul_one], .inr ⟨g, cap, _, by rw [hl], hb, swBlk enc _ hh, by omega, h2, by simpa [putCells] using h3, ?_⟩⟩ hR.1
  rw [Nat.mul_one]
  exact swTake enc cur ys (by omega)
/-- The cells of a row that is not empty. -/
theorem R_holds {α : Type} [Inhabited α] {enc : α → Value} {h1 : ∀ x, (enc x).oneCell' = true} {e : Nat} {w : World} {b : Nat} {ok : Nat → Prop} {g n cap : Nat} {xs : List α} (hR : (Kd.scalar enc h1).R e w b ok (.slice (some ⟨g, 0, none⟩) n cap) xs) : Holds enc w g 0 xs.toArray := by
  obtain ⟨hn, _, _⟩ := Kd.R_reads' hR
  subst hn
  have ho := Kd.own_of_R hR
  rcases ho.2 with ⟨hv, _⟩ | ⟨g', cap', cur, hv, hb, hh, h1', h2, h3, h4⟩
  · cases hv
  injection hv with ha _ hc'
  injection ha with ha
  injection ha with ha
  subst ha hc'
  rw [Nat.mul_one] at h4
  exact swHolds enc hh h4
end Go.Proofs.Ytehkhopkedbngaa
