/- slices.Clone at a timer's row, maps.Clone, (*Timer).Copy by their contracts. -/
import Derived.Test.YtihmblkfbcnllaaTmDrop
import Derived.Shelf.SlMaps.Clone
namespace Go.Proofs.Ytihmblkfbcnllaa
open Go.RowKit Go.Maps Go.Proofs.YtihmblkfbcnllaaW.PrintWords

set_option maxHeartbeats 400000 in
theorem mapsClone_any (b : Nat) (es : Array MapEntry) (clock : Nat) (w : World) (hb : w.heap[b]? = some (.map es clock)) :
    Calls Try.prog 28 #[.map (some b)] w fun e w' => e = .returned (.map (some w.heap.size)) ∧ w' = w.alloc (.map es clock) := by
  have hq := fun w => run_eql_map_nil_sl (P := Try.prog) w 53 _ _ (some b) under_map
  go_enter Try.func28, Try.ntmps28
  go_wp2
  rw [run_callFunc_extern Try.func31 (by kernel_rfl) (by kernel_rfl) (by kernel_rfl) (e := Extern.MapsClone.clone) (by kernel_rfl), run_maps_clone_sl w 53 hb]
  simp only [Result.andThen]
  rw [Oper.upon_value]
  go_wp2
  rw [run_typeAssert_map_sl _ 53 20 _ _ _ under_map]
  simp only [Result.andThen]
  rw [Oper.upon_value]
  go_wp2
  go_ret
  exact ⟨rfl, rfl⟩
theorem mapsClone_at (w0 w : World) (b : Nat) (ps : List (Int × Int)) (h : MapAt KI (.int .i64) w0 b ps) (hB : Below w0.heap.size w0 w) :
    Calls Try.prog 28 #[.map (some b)] w fun e w' => ∃ c, e = .returned (.map (some c)) ∧ MapAt KI (.int .i64) w' c ps ∧ w.heap.size ≤ c ∧ Below w.heap.size w w' := by
  obtain ⟨es, clock, h1, h2⟩ := h.clone
  refine (mapsClone_any b es clock w ((hB.block b h.lt).trans h1)).mono ?_
  rintro e w' ⟨rfl, rfl⟩
  exact ⟨_, rfl, h2 _ _ (heap_alloc_new w _), Nat.le_refl _, below_alloc (Below.refl _ _) _⟩

set_option maxHeartbeats 400000 in
theorem clone_it (A : Option Addr) (n c : Nat) (xs : List It) (w : World) (hn : xs.length = n) (hC : KIt.C w A n xs) (hc : n ≤ c) (hb : n * 16 ≤ 140737488355328) :
    Calls Try.prog 27 #[.slice A n c] w fun e w' => ∃ A' c', e = .returned (.slice A' n c') ∧ KIt.R 34 w' w.heap.size (fun _ => True) (.slice A' n c') xs ∧ Below w.heap.size w w' := by
  subst hn
  have hnil := fun (w : World) (a : Option Addr) (n c : Nat) => Lib.run_eql_slice_nil (P := Try.prog) w 41 34 a n c 0 0 Try.underlying41
  cases A with
  | none =>
    have h0 : xs = [] := by
      by_cases h : 0 < xs.length
      · obtain ⟨ad, h1, _⟩ := hC.2.2 h; cases h1
      · exact List.eq_nil_of_length_eq_zero (by omega)
    subst h0
    go_enter Try.func27, Try.ntmps27
    go_wp2
    go_ret
    exact ⟨_, _, rfl, Kd.R_nil _ _ _ _ _, Below.refl _ _⟩
  | some ad =>
    go_enter Try.func27, Try.ntmps27
    go_wp2_with (at_builtin; refine Kd.R_append_rows KIt (w0 := w) w.heap.size rfl (.tmp 5) (.tmp 6) 41 34 (.agg #[.int .i64 0, .int .i64 0]) 16 rfl Try.underlying41 info_item rfl (by decide) (by omega) (.slice (some ⟨w.heap.size, 0, none⟩) 0 0) [] xs (some ad) xs.length c (fun _ => True) (fun _ => False) rfl rfl ?a1 ?a2 (fun _ _ h => h) (fun _ h => h.elim) (fun _ _ => trivial) (below_alloc (Below.refl _ _) _) ?a3 ?a4 ?a5)
    case a1 => exact R_empty _ _ _ _ _ (Nat.le_refl _) trivial
    case a2 => exact Kd.C_alloc hC _
    case a3 => simp
    case a4 => simpa using hb
    case a5 =>
      intro v1 w1 h1 h2 _ _
      obtain ⟨A', c', hv⟩ := Kd.R_slice h1
      have HV := Lib.hid hv
      clear hv
      go_wp2
      go_ret
      exact ⟨A', c', by rw [HV.out]; simp, by rw [HV.out] at h1; simpa using h1, h2⟩

set_option maxHeartbeats 800000 in
theorem timerCopy_any (w : World) (ok : Nat → Prop) (tb : Nat) (s : List It) (h : TmAt w ok tb s) (hs : s.length ≤ 1000000) :
    Calls Try.prog 17 #[.pointer (some ⟨tb, 0, none⟩)] w fun e w' => ∃ cb, e = .returned (.pointer (some ⟨cb, 0, none⟩)) ∧ TmAt w' (fun k => w.heap.size ≤ k) cb s ∧ Below w.heap.size w w' := by
  obtain ⟨v, mb, l, ps, hT, hO⟩ := h
  have hll : l.length = s.length := hO.perm.length_eq
  obtain ⟨A, c, rfl, hlc, hC⟩ := Kd.R_reads hT.row
  obtain ⟨t0, t1, htl⟩ := hT.tcells
  have hM := hT.map
  have hl16 : l.length * 16 ≤ 140737488355328 := by omega
  have HO := Lib.hid hO
  have HC := Lib.hid hC
  have HM := Lib.hid hM
  clear hT hO hC hM hll
  go_enter Try.func17, Try.ntmps17
  go_wp2_with fail
  go_region_held3 (fun w' => w'.cell? ⟨tb, 0, none⟩ = some (.slice A l.length c) ∧ w'.cell? ⟨tb, 1, none⟩ = some (.map (some mb))) (first | go_keep | (go_split_ands; exact ⟨cell_later hB (by assumption), cell_later hB (by assumption)⟩) | (go_split_ands; exact ⟨cell_later hB2 (by assumption), cell_later hB2 (by assumption)⟩))
    (first
      | (go_at_call 27; refine Calls.mono (clone_it _ _ _ l _ rfl (by first | exact Kd.C_below HC.out (below_drew (Below.refl _ _)) | exact Kd.C_below (Kd.C_below HC.out (below_drew (Below.refl _ _))) hB2) hlc hl16) ?_; rintro e w1 ⟨A', c', rfl, hR, hB⟩)
      | (go_at_call 28; refine Calls.mono (mapsClone_at w _ _ _ HM.out (by first | exact below_drew (Below.refl _ _) | exact (below_drew (Below.refl _ _)).trans hB)) ?_; rintro e w2 ⟨cm, rfl, hM2, hcm, hB2⟩))
  go_wp2
  go_ret
  have hB1 : Below w.heap.size w w1 := (below_drew (Below.refl _ _)).trans hB
  have hBB : Below w.heap.size w w2 := hB1.trans (hB2.mono hB1.size)
  have hs1 : w.heap.size ≤ w1.heap.size := hB1.size
  have hR2 := Kd.R_below hR hB2
  have hcl : cm < w2.heap.size := hM2.lt
  refine ⟨_, rfl, ⟨.slice A' l.length c', cm, l, ps, ⟨heap_alloc_new _ _, ?_, hM2.below (below_alloc (Below.refl _ _) _), ?_, ?_⟩, HO.out⟩, below_alloc hBB _⟩
  · have hs2 := hB2.size
    refine Kd.R_alloc (Kd.R_mono (Kd.R_below (R_fresh hR) hB2) (fun k hk => ⟨hk.1, ?_, ?_⟩)) _
    · have := hk.2
      omega
    · have := hk.2
      omega
  · show w.heap.size ≤ w2.heap.size
    exact hBB.size
  · show w.heap.size ≤ cm
    omega
end Go.Proofs.Ytihmblkfbcnllaa
