/- A ledger in memory (values of type int): Len, Copy. -/
import Derived.Test.YtehkhopkedbngaaLdMemI
import Derived.Test.YtehkhopkedbngaaLdMapCloneI
import Derived.Deep.RegionHeld3
namespace Go.Proofs.Ytehkhopkedbngaa
open Go.RowKit Go.Proofs.YtehkhopkedbngaaW.PrintWords

set_option maxHeartbeats 400000 in
theorem ldILen_any (w : World) (ok : Nat → Prop) (lb : Nat) (room : Int) (r : List (Ent Int)) (h : LdIAt w ok lb room r) : Calls Try.prog 11 #[.pointer (some ⟨lb, 0, none⟩)] w fun e w' => e = .returned (.int .i64 r.length) ∧ w = w' := by
  obtain ⟨mb, hV⟩ := h
  obtain ⟨t0, t1, hlt⟩ := hV.cells
  have hlen := hV.map.len under_ldI 3
  clear hV
  go_enter Try.func11, Try.ntmps11
  go_wp2_with fail
  go_ret
  exact ⟨rfl, rfl⟩

set_option maxHeartbeats 800000 in
theorem ldICopy_any (w : World) (ok : Nat → Prop) (lb : Nat) (room : Int) (r : List (Ent Int)) (h : LdIAt w ok lb room r) :
    Calls Try.prog 20 #[.pointer (some ⟨lb, 0, none⟩)] w fun e w' => ∃ cb, e = .returned (.pointer (some ⟨cb, 0, none⟩)) ∧ LdIAt w' (fun k => w.heap.size ≤ k) cb room r ∧ Below w.heap.size w w' := by
  obtain ⟨mb, hV⟩ := h
  obtain ⟨t0, t1, hlt⟩ := hV.cells
  have HM := Lib.hid (show MapAt KLI encLI w.drew mb r from hV.map)
  have HR := Lib.hid hV.row
  clear hV
  go_enter Try.func20, Try.ntmps20
  go_wp2_with fail
  go_region_held3 (fun w' => w'.cell? ⟨lb, 0, none⟩ = some (.int .i64 room) ∧ w'.cell? ⟨lb, 1, none⟩ = some (.map (some mb))) (first | go_keep | (go_split_ands; exact ⟨cell_later hB (by assumption), cell_later hB (by assumption)⟩)) (first | (go_at_call 29; refine Calls.mono (mapsCloneLI_at KLI encLI _ mb r HM.out) ?_; rintro e w1 ⟨cm, rfl, hM, hcm, hB⟩))
  all_goals
    have HM1 := Lib.hid hM
    have HB1 := Lib.hid (below_undrew hB)
    have hcm : w.heap.size ≤ cm := hcm
    clear hM hB
    go_wp2
    go_ret
    exact ⟨_, rfl, ⟨cm, heap_alloc_new _ _, HM1.out.below (below_alloc (Below.refl _ _) _), HB1.out.size, hcm, HR.out⟩, below_alloc HB1.out _⟩
end Go.Proofs.Ytehkhopkedbngaa
