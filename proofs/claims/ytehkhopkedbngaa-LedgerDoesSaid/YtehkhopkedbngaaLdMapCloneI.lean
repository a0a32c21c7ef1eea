/- maps.Clone at one map type, by its text. -/
import Derived.Test.YtehkhopkedbngaaLdLaw
import Derived.Shelf.SlMaps.Clone
namespace Go.Proofs.Ytehkhopkedbngaa
open Go.RowKit Go.Maps Go.Proofs.YtehkhopkedbngaaW.PrintWords

set_option maxHeartbeats 800000 in
set_option maxRecDepth 100000 in
theorem mapsCloneLI_any (b : Nat) (es : Array MapEntry) (clock : Nat) (w : World) (hb : w.heap[b]? = some (.map es clock)) :
    Calls Try.prog 29 #[.map (some b)] w fun e w' => e = .returned (.map (some w.heap.size)) ∧ w' = w.alloc (.map es clock) := by
  have hq := fun w => run_eql_map_nil_sl (P := Try.prog) w 58 _ _ (some b) (Try.underlying58)
  go_enter Try.func29, Try.ntmps29
  go_wp2
  rw [run_callFunc_extern Try.func37 (by kernel_rfl) (by kernel_rfl) (by kernel_rfl) (e := Extern.MapsClone.clone) (by kernel_rfl), run_maps_clone_sl w 58 hb]
  simp only [Result.andThen]
  rw [Oper.upon_value]
  go_wp2
  rw [run_typeAssert_map_sl _ 58 20 _ _ _ (Try.underlying58)]
  simp only [Result.andThen]
  rw [Oper.upon_value]
  go_wp2
  go_ret
  exact ⟨rfl, rfl⟩
theorem mapsCloneLI_at {α β : Type} [DecidableEq α] {k : TypeId} (K : KeyKd Try.prog k α) (enc : β → Value) (w : World) (b : Nat) (ps : List (α × β)) (h : MapAt K enc w b ps) :
    Calls Try.prog 29 #[.map (some b)] w fun e w' => ∃ c, e = .returned (.map (some c)) ∧ MapAt K enc w' c ps ∧ w.heap.size ≤ c ∧ Below w.heap.size w w' := by
  obtain ⟨es, clock, h1, h2⟩ := h.clone
  refine (mapsCloneLI_any b es clock w h1).mono ?_
  rintro e w' ⟨rfl, rfl⟩
  exact ⟨_, rfl, h2 _ _ (heap_alloc_new w _), Nat.le_refl _, below_alloc (Below.refl _ _) _⟩
end Go.Proofs.Ytehkhopkedbngaa
