/- slices.Clone at one element type, by its contract. -/
import Derived.Test.YtdcifghhamondaaLnMem
namespace Go.Proofs.Ytdcifghhamondaa
open Go.RowKit Go.Proofs.YtdcifghhamondaaW.PrintWords

set_option maxHeartbeats 400000 in
theorem clone_int (A : Option Addr) (c : Nat) (xs : List Int) (w : World) (hC : (Kd.int .i64).C w A xs.length xs) (hc : xs.length ≤ c) (hb : xs.length * 8 ≤ 140737488355328) :
    Calls Try.prog 30 #[.slice A xs.length c] w fun e w' => ∃ A' c', e = .returned (.slice A' xs.length c') ∧ Kd.R (Kd.int .i64) 3 w' w.heap.size (fun _ => True) (.slice A' xs.length c') xs ∧ Below w.heap.size w w' := by
  have hnil := fun (w : World) (a : Option Addr) (n c : Nat) => Lib.run_eql_slice_nil (P := Try.prog) w 41 3 a n c 0 0 Try.underlying41
  cases A with
  | none =>
    have h0 : xs = [] := by
      by_cases h : 0 < xs.length
      · obtain ⟨ad, h1, _⟩ := hC.2.2 h; cases h1
      · exact List.eq_nil_of_length_eq_zero (by omega)
    subst h0
    go_enter Try.func30, Try.ntmps30
    go_wp2
    go_ret
    exact ⟨_, _, rfl, Kd.R_nil _ _ _ _ _, Below.refl _ _⟩
  | some ad =>
    go_enter Try.func30, Try.ntmps30
    go_wp2_with (at_builtin; refine Kd.R_append_rows (Kd.int .i64) (w0 := w) w.heap.size rfl (.tmp 5) (.tmp 6) 41 3 (.int .i64 0) 8 rfl Try.underlying41 info_int rfl (by decide) (by omega) (.slice (some ⟨w.heap.size, 0, none⟩) 0 0) [] xs (some ad) xs.length c (fun _ => True) (fun _ => False) rfl rfl ?a1 ?a2 (fun _ _ h => h) (fun _ h => h.elim) (fun _ _ => trivial) (below_alloc (Below.refl _ _) _) ?a3 ?a4 ?a5)
    case a1 => exact R_empty _ _ _ _ _ (Nat.le_refl _) trivial
    case a2 => exact Kd.C_alloc hC _
    case a3 => simp
    case a4 => simpa using hb
    case a5 =>
      intro v1 w1 h1 h2 _ _
      obtain ⟨A', c', hv⟩ := Kd.R_slice h1
      have HV := Lib.hid hv
      clear hv
      go_wp2
      go_ret
      exact ⟨A', c', by rw [HV.out]; simp, by rw [HV.out] at h1; simpa using h1, h2⟩

end Go.Proofs.Ytdcifghhamondaa
