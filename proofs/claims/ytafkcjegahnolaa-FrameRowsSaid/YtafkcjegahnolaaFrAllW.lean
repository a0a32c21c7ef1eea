/- frame.All by its contract (of bytes that one window holds). -/
import Derived.Test.YtafkcjegahnolaaFrAll
import Derived.Test.YtafkcjegahnolaaMid
namespace Go.Proofs.Ytafkcjegahnolaa
open Go.RowKit Go.Proofs.YtafkcjegahnolaaW.PrintWords

theorem info_rows : (Try.prog.info? 22).map (fun i => (i.zero, i.size, i.bytes)) = some (some (.slice none 0 0), 1, 24) := by kernel_rfl

set_option maxHeartbeats 1600000 in
theorem all_any (A : Option Addr) (n c : Nat) (xs : List Int) (w : World) (hn : xs.length = n) (hC : (Kd.int .u8).C w A n xs) (hc : n ≤ c) (hx : BytesOk xs) (hl : n ≤ 4000) :
    Calls Try.prog 18 #[.slice A n c] w fun e w' => ∃ v l used err, e = .returned (.tuple #[v, .int .i64 (used : Nat), .int .i64 err]) ∧ allOf (n + 1) xs = (l, used, err) ∧ (Kd.slice 5 (Kd.int .u8)).R 22 w' w.heap.size (fun _ => True) v l ∧ Below w.heap.size w w' := by
  have HC := Lib.hid hC
  have HN := Lib.hid hn
  clear hC hn
  go_enter Try.func18, Try.ntmps18
  go_wp2_with fail
  go_loopw [2, 3, 4, 5] (fun v s e _ wr => ∃ (l : List (List Int)) (used : Nat) (err : Int), s = .int .i64 used ∧ e = .int .i64 err ∧ (Kd.slice 5 (Kd.int .u8)).R 22 wr w.heap.size (fun _ => True) v l ∧ AllAt (n + 1) xs l used err ∧ Below w.heap.size w wr) (fun _ s e _ _ => 2 * (n - (intOf s).toNat) + (if intOf e = 0 then 1 else 0))
  case atStart => exact ⟨[], 0, 0, rfl, rfl, Kd.R_nil _ _ _ _ _, by rw [← HN.out]; exact AllAt.first xs, Below.refl _ _⟩
  case round =>
    obtain ⟨l, used, err, rfl, rfl, hR, hA, hb⟩ := hrel
    have HR := Lib.hid hR
    have HA := Lib.hid hA
    have HB := Lib.hid hb
    have hule : used ≤ n := by rw [← HN.out]; exact hA.le
    clear hR hA hb
    by_cases hu : used < n
    · by_cases he : err = 0
      · subst he
        have hui : (used : Int) < n := by omega
        have hw1 : IntKind.i64.wrap ((used : Int) + 6) = (used : Int) + 6 := IntWalk.i64_in _ (by omega)
        have hmn : ∀ ts t W, (Builtin.min_ ts t #[.int .i64 (n : Int), .int .i64 ((used : Int) + 6 + 4096)]).run Try.prog W = .ok (.int .i64 (n : Int)) W := by
          intro ts t W
          rw [run_min_int2]
          congr 2
          first | omega | (split <;> omega)
        obtain ⟨i0, hi, _, hz1, _⟩ := info_parts info_byte
        obtain ⟨Am, hrm, hCm⟩ := mid_row (P := Try.prog) 22 5 Try.underlying22 hi hz1 A c used n xs (by omega) (by rw [HN.out]; omega) (by rw [HN.out]; exact hc) (by rw [HN.out]; exact HC.out)
        rw [HN.out] at hrm
        have hdl : (xs.drop used).length = n - used := by rw [List.length_drop, HN.out]
        rw [List.take_of_length_le (by omega)] at hCm
        have HCm := Lib.hid (Kd.C_below hCm HB.out)
        have HDL := Lib.hid hdl
        clear hCm hdl hi hz1
        go_wp2_with fail
        refine Calls.mono (by have := next_any Am (c - used) (xs.drop used) wr (by rw [HDL.out]; exact HCm.out) (by rw [HDL.out]; omega) (fun z hz => hx z (List.mem_of_mem_drop hz)) (by rw [HDL.out]; omega); rw [HDL.out] at this; exact this) ?_
        rintro e w2 ⟨A5, n5, c5, A6, n6, c6, rfl, hR5, hR6, hB5⟩
        obtain ⟨e5, hc5, hC5⟩ := Kd.R_reads' hR5
        have HR2 := Lib.hid (Kd.R_below HR.out hB5)
        have HM := Lib.hid (Kd.R_lower (Kd.R_mono (Kd.R_bound hR5) (fun k hk => hk.2.1)) HB.out.size)
        have HFR := Lib.hid (fun k (hk : wr.heap.size ≤ k) => Kd.fresh_ok HR.out k hk)
        have HB2 := Lib.hid (HB.out.trans (hB5.mono HB.out.size))
        clear hR5 hR6 hB5 hC5
        by_cases h0 : nextErr (xs.drop used) = 0
        · have hgood := HA.out.good (by rw [HN.out]; exact hu) h0
          have hle : used + 6 + n5 ≤ n := by rw [e5, ← HN.out]; exact hgood.le
          rw [← e5] at hgood
          have HG := Lib.hid hgood
          rw [h0]
          clear e5 hgood h0
          have hw2 : IntKind.i64.wrap ((used : Int) + 6 + (n5 : Int)) = ((used + 6 + n5 : Nat) : Int) := by rw [IntWalk.i64_in _ (by omega)]; omega
          go_wp2_with (first | (at_builtin; refine Kd.R_append (Kd.slice 5 (Kd.int .u8)) (w0 := w) w.heap.size rfl (.tmp 30) (.tmp 32) 37 22 (.slice none 0 0) 24 rfl Try.underlying37 info_rows rfl (by decide) (by omega) u2 l (nextBody (xs.drop used)) [.slice A5 n5 c5] (fun _ => True) (fun k => wr.heap.size ≤ k) rfl rfl ⟨_, rfl, HM.out⟩ (fun k hk => ⟨trivial, HFR.out k hk⟩) (fun _ _ => trivial) HR2.out HB2.out HB2.out.size (by have := HA.out.len; omega) ?_; intro v1 w3 h1 h2 hgr hat2; clear hgr hat2))
          refine ⟨⟨l ++ [nextBody (xs.drop used)], used + 6 + n5, 0, by simp, rfl, h1, HG.out, h2⟩, ?_⟩
          simp [intOf]
          omega
        · have hbad := HA.out.bad (by rw [HN.out]; exact hu) h0
          obtain ⟨ne, hne⟩ : ∃ ne, ne = nextErr (xs.drop used) := ⟨_, rfl⟩
          rw [← hne] at hbad h0 ⊢
          have HBAD := Lib.hid hbad
          clear hbad hne e5
          go_wp2_with fail
          refine ⟨⟨l, used, ne, rfl, rfl, HR2.out, HBAD.out, HB2.out⟩, ?_⟩
          simp [intOf, h0]
      · go_wp2_with fail
        go_ret3
        exact ⟨_, l, used, err, rfl, HA.out.end_ (Or.inr he), HR.out, HB.out⟩
    · have hui : ¬ (used : Int) < n := by omega
      go_wp2_with fail
      go_ret3
      exact ⟨_, l, used, err, rfl, HA.out.end_ (Or.inl (by rw [HN.out]; omega)), HR.out, HB.out⟩
end Go.Proofs.Ytafkcjegahnolaa
