/- maps.Clone at one map type, by its text. -/
import Derived.Test.YtdcifghhamondaaLnMem
import Derived.Shelf.SlMaps.Clone
namespace Go.Proofs.Ytdcifghhamondaa
open Go.RowKit Go.Maps Go.Proofs.YtdcifghhamondaaW.PrintWords

set_option maxHeartbeats 400000 in
theorem mapsCloneP_any (b : Nat) (es : Array MapEntry) (clock : Nat) (w : World) (hb : w.heap[b]? = some (.map es clock)) :
    Calls Try.prog 31 #[.map (some b)] w fun e w' => e = .returned (.map (some w.heap.size)) ∧ w' = w.alloc (.map es clock) := by
  have hq := fun w => run_eql_map_nil_sl (P := Try.prog) w 51 _ _ (some b) (Try.underlying51)
  go_enter Try.func31, Try.ntmps31
  go_wp2
  rw [run_callFunc_extern Try.func38 (by kernel_rfl) (by kernel_rfl) (by kernel_rfl) (e := Extern.MapsClone.clone) (by kernel_rfl), run_maps_clone_sl w 51 hb]
  simp only [Result.andThen]
  rw [Oper.upon_value]
  go_wp2
  rw [run_typeAssert_map_sl _ 51 20 _ _ _ (Try.underlying51)]
  simp only [Result.andThen]
  rw [Oper.upon_value]
  go_wp2
  go_ret
  exact ⟨rfl, rfl⟩
theorem mapsCloneP_at {α β : Type} [DecidableEq α] {k : TypeId} (K : KeyKd Try.prog k α) (enc : β → Value) (w : World) (b : Nat) (ps : List (α × β)) (h : MapAt K enc w b ps) :
    Calls Try.prog 31 #[.map (some b)] w fun e w' => ∃ c, e = .returned (.map (some c)) ∧ MapAt K enc w' c ps ∧ w.heap.size ≤ c ∧ Below w.heap.size w w' := by
  obtain ⟨es, clock, h1, h2⟩ := h.clone
  refine (mapsCloneP_any b es clock w h1).mono ?_
  rintro e w' ⟨rfl, rfl⟩
  exact ⟨_, rfl, h2 _ _ (heap_alloc_new w _), Nat.le_refl _, below_alloc (Below.refl _ _) _⟩
end Go.Proofs.Ytdcifghhamondaa
