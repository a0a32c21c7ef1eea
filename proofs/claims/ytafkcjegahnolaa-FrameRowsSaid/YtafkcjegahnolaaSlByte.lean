/- slices.Clone, slices.Grow (of nil) and slices.Concat at one element type, each by its contract: what they hand back is a row of the call's own. -/
import Derived.Test.YtafkcjegahnolaaBase
namespace Go.Proofs.Ytafkcjegahnolaa
open Go.RowKit Go.Proofs.YtafkcjegahnolaaW.PrintWords

theorem info_byte : (Try.prog.info? 5).map (fun i => (i.zero, i.size, i.bytes)) = some (some (.int .u8 0), 1, 1) := by kernel_rfl

set_option maxHeartbeats 400000 in
theorem grow_byte (n : Nat) (w : World) (hb : n * 1 ≤ 140737488355328) :
    Calls Try.prog 27 #[.slice none 0 0, .int .i64 n] w fun e w' => ∃ v, e = .returned v ∧ Kd.R (Kd.int .u8) 5 w' w.heap.size (fun _ => True) v [] ∧ Below w.heap.size w w' := by
  by_cases h0 : n = 0
  · subst h0
    go_enter Try.func27, Try.ntmps27
    go_wp2
    go_ret
    exact ⟨_, rfl, Kd.R_nil _ _ _ _ _, Below.refl _ _⟩
  · obtain ⟨i0, hi, hz0, hz1, hz2⟩ := info_parts info_byte
    have hr := fun ty => Lib.run_append_nil_zeros (P := Try.prog) w 22 3 ty 5 i0 (.int .u8 0) .i64 .i64 Try.underlying22 Try.underlying3 hi hz0 n (by omega) (by omega) (by omega) (by rw [hz2]; omega)
    have hpos : 0 < n := by omega
    have hge := grownCap_ge w n 0 5
    have hle := grownCap_le_maxLen w n 0 5 (by unfold maxLen; omega)
    go_enter Try.func27, Try.ntmps27
    go_wp2_with (at_builtin; refine Lib.wpList_append_run _ rfl (.tmp 20) (.tmp 21) 22 3 rfl _ _ rfl rfl _ _ (hr _) ?_)
    go_ret
    refine ⟨_, rfl, Kd.R_drew (Kd.R_step (R_room _ _ _ _ _ (Nat.le_refl _) trivial _ _ hle ?_) (fun _ _ _ => rfl)), (below_alloc (Below.refl _ _) _).drew⟩
    simp [size_zeroCells, Kd.int, Kd.scalar]
    omega

set_option maxHeartbeats 400000 in
theorem concat_byte (A : Option Addr) (c : Nat) (xss : List (List Int)) (w : World) (hC : (Kd.slice 5 (Kd.int .u8)).C w A xss.length xss) (_hc : xss.length ≤ c) (hb : xss.flatten.length * 1 ≤ 140737488355328) :
    Calls Try.prog 26 #[.slice A xss.length c] w fun e w' => ∃ A' c', e = .returned (.slice A' xss.flatten.length c') ∧ Kd.R (Kd.int .u8) 5 w' w.heap.size (fun _ => True) (.slice A' xss.flatten.length c') xss.flatten ∧ Below w.heap.size w w' := by
  have hm := Kd.C_max hC
  go_enter Try.func26, Try.ntmps26
  go_wp2_with fail
  go_loop [3, 5, 11] (fun s v i => ∃ k : Nat, k ≤ xss.length ∧ i = .int .i64 k ∧ s = .int .i64 (flatLen xss k : Nat)) (fun _ _ i => xss.length - (intOf i).toNat)
  case atStart => exact ⟨0, Nat.zero_le _, rfl, rfl⟩
  case round =>
    obtain ⟨k, hk, rfl, rfl⟩ := hrel
    by_cases hlt : k < xss.length
    · obtain ⟨ad, x, A1, c1, rfl, hx, hcell, hl1, hC1⟩ := C_nth_slice hC k hlt
      have hs := Lib.hid (flatLen_succ hx)
      have hle := flatLen_le xss (k + 1)
      have hle2 : flatLen xss k + x.length ≤ xss.flatten.length := by rw [← hs.out]; exact hle
      clear hx hle
      go_wp2
      go_round
      case rel => exact ⟨k + 1, by omega, by go_num, by rw [hs.out]; go_num⟩
      case measure => simp [intOf]; omega
    · have hk' : k = xss.length := by omega
      subst hk'
      have hfl := flatLen_le xss xss.length
      go_wp2_with fail
      refine (grow_byte (flatLen xss xss.length) _ (by omega)).mono ?_
      rintro e w1 ⟨v, rfl, hR, hB⟩
      go_wp2_with fail
      go_loopw [6, 8, 27] (fun v _ i w2 => ∃ k : Nat, k ≤ xss.length ∧ i = .int .i64 k ∧ Kd.R (Kd.int .u8) 5 w2 w.heap.size (fun _ => True) v (xss.take k).flatten ∧ Below w.heap.size w w2) (fun _ _ i _ => xss.length - (intOf i).toNat)
      case atStart => exact ⟨0, Nat.zero_le _, rfl, hR, hB⟩
      case round =>
        obtain ⟨k, hk2, rfl, hR2, hB2⟩ := hrel
        by_cases hlt2 : k < xss.length
        · obtain ⟨ad, x, A1, c1, rfl, hx, hcell, hl1, hC1⟩ := C_nth_slice (Kd.C_below hC hB2) k hlt2
          have hs := Lib.hid (flatten_succ hx)
          have hlen : (xss.take k).flatten.length + x.length ≤ xss.flatten.length := by
            have h1 := flatLen_le xss (k + 1)
            rw [flatLen_succ hx] at h1
            exact h1
          have HLEN := Lib.hid hlen
          clear hx hlen
          go_wp2_with (at_builtin; refine Kd.R_append_rows (Kd.int .u8) (w0 := w) w.heap.size rfl (.tmp 31) (.tmp 32) 22 5 (.int .u8 0) 1 rfl Try.underlying22 info_byte rfl (by decide) (by omega) u6 (xss.take k).flatten x A1 x.length c1 (fun _ => True) (fun _ => False) rfl rfl hR2 hC1 (fun _ _ h => h) (fun _ h => h.elim) (fun _ _ => trivial) hB2 hB2.size ?_ ?_)
          · have := HLEN.out; omega
          · intro v1 w3 hR3 hB3 _ _
            go_wp2
            go_roundw
            case rel => exact ⟨k + 1, by omega, by go_num, by rw [hs.out]; exact hR3, hB3⟩
            case measure => simp [intOf]; omega
        · have hk' : k = xss.length := by omega
          subst hk'
          go_wp2
          go_ret
          rw [List.take_length] at hR2
          obtain ⟨A', c', rfl⟩ := Kd.R_slice hR2
          exact ⟨A', c', rfl, hR2, hB2⟩

theorem concat2_byte (g t : Nat) (A1 A2 : Option Addr) (n1 n2 c1 c2 : Nat) (xs ys : List Int) (w : World) (hg : w.heap[g]? = some (.cells #[.slice A1 n1 c1, .slice A2 n2 c2] t (0, 0)))
    (h1 : (Kd.int .u8).C w A1 n1 xs) (hc1 : n1 ≤ c1) (h2 : (Kd.int .u8).C w A2 n2 ys) (hc2 : n2 ≤ c2) (hb : (n1 + n2) * 1 ≤ 140737488355328) :
    Calls Try.prog 26 #[.slice (some ⟨g, 0, none⟩) 2 2] w fun e w' => ∃ A' n' c', e = .returned (.slice A' n' c') ∧ n' = (xs ++ ys).length ∧ Kd.R (Kd.int .u8) 5 w' w.heap.size (fun _ => True) (.slice A' n' c') (xs ++ ys) ∧ Below w.heap.size w w' := by
  have e1 := Kd.C_len h1
  have e2 := Kd.C_len h2
  refine (concat_byte _ _ [xs, ys] w (C_two hg h1 hc1 h2 hc2) (Nat.le_refl _) (by simp; omega)).mono ?_
  rintro e w' ⟨A', c', rfl, hR, hB⟩
  have hf : [xs, ys].flatten = xs ++ ys := by simp
  rw [hf] at hR ⊢
  exact ⟨A', _, c', rfl, rfl, hR, hB⟩
end Go.Proofs.Ytafkcjegahnolaa
