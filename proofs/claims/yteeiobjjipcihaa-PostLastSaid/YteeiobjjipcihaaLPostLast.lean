/- The statement PostLast of layer 17: every call of it tells true and leaves what was there as it was. -/
import Derived.Test.YteeiobjjipcihaaPostAwake
import Derived.Test.YteeiobjjipcihaaOpen
namespace Go.Proofs.Yteeiobjjipcihaa
open Go.RowKit Go.Proofs.YteeiobjjipcihaaW.PrintWords

theorem take_front {xs : List Int} {x : Int} {k : Nat} (h : xs[k]? = some x) : lookAt 0 (xs.drop k) 0 = (x, true) ∧ takeOut (xs.drop k) 0 = xs.drop (k + 1) := by
  have hl : k < xs.length := (List.getElem?_eq_some_iff.1 h).1
  have h0 : (xs.drop k)[0]? = some x := by rw [List.getElem?_drop]; simpa using h
  refine ⟨lookAt_in (k := 0) h0, ?_⟩
  rw [show (0 : Int) = ((0 : Nat) : Int) from rfl, takeOut_in (by rw [List.length_drop]; omega)]
  simp

set_option maxHeartbeats 800000 in
set_option maxRecDepth 100000 in
theorem last_any (A : Option Addr) (n cap : Nat) (xs : List Int) (room : Int) (w : World) (hC : (Kd.int .i64).C w A n xs) (hc : n ≤ cap) (_ho : ∀ x ∈ xs, (Lit.int .i64 x).wf = true) (hw : (Lit.int .u8 room).wf = true) :
    Calls Try.prog 5 #[.slice A n cap, .int .u8 room] w fun e w' => e = .returned (.bool true) ∧ Below w.heap.size w w' := by
  have hn := Kd.C_len hC
  have HN := Lib.hid hn
  have hm := Kd.C_max hC
  clear hn
  have hroom : 0 ≤ room ∧ room ≤ 255 := by
    have := bounds_u8 hw
    omega
  obtain ⟨rm, rfl⟩ := Int.eq_ofNat_of_zero_le hroom.1
  have hr0 : (0 : Int) ≤ (rm : Int) := hroom.1
  have hr1 : (rm : Int) ≤ 255 := hroom.2
  clear hroom hw
  by_cases h100 : 100 < n
  · go_enter Try.func5, Try.ntmps5
    go_wp2_with (go_at_call 8; refine Calls.mono (awake_any _) ?_; rintro e w1 ⟨rfl, hB⟩)
    go_ret
    exact ⟨rfl, hB⟩
  · obtain ⟨N, hN⟩ : ∃ N, N = sendN rm 0 n := ⟨_, rfl⟩
    have hmn : ∀ ts t W, (Builtin.min_ ts t #[.int .i64 (n : Int), .int .i64 (rm : Int)]).run Try.prog W = .ok (.int .i64 (N : Int)) W := by
      intro ts t W
      rw [run_min_int2]
      congr 2
      rw [hN]; unfold sendN; split <;> omega
    have hNn : N ≤ n := by rw [hN]; unfold sendN; omega
    have HNN := Lib.hid hN
    clear hN
    have hself : ((N : Int) != (N : Int)) = false := by simp
    go_enter Try.func5, Try.ntmps5
    go_wp2_with fail
    refine Calls.mono (new1_int rm w _ (by omega) (Below.refl _ _)) ?_
    rintro e w1 ⟨rfl, hP1⟩
    have hB1 := hP1.2
    have hC1 := Kd.C_below hC hB1
    go_wp2_with fail
    refine Calls.mono (send1_int hP1 hC1 hc (by simp; omega) (r := N) (by rw [HNN.out]; simp [sendN])) ?_
    rintro e w2 ⟨rfl, hP2⟩
    rw [List.nil_append] at hP2
    go_wp2_with fail
    go_loopw [7, 8, 9, 30] (fun _ _ _ i wr => ∃ k : Nat, k ≤ N ∧ i = .int .i64 k ∧ P1 (Kd.int .i64) 3 52 w wr w.heap.size (max rm 0) ((xs.take N).drop k)) (fun _ _ _ i _ => N - (intOf i).toNat)
    case atStart => exact ⟨0, Nat.zero_le _, rfl, hP2⟩
    case round =>
      clear hP1 hP2 hB1 hC1
      obtain ⟨k, hk, rfl, hP⟩ := hrel
      have hBr := hP.2
      by_cases hlt : k < N
      · obtain ⟨ad, x, rfl, hx, hc1⟩ := C_nth_scalar hC k (by omega)
        have HC1 := Lib.hid hc1
        have hx' : (xs.take N)[k]? = some x := by rw [List.getElem?_take_of_lt hlt]; exact hx
        obtain ⟨t1, t2⟩ := take_front hx'
        have hl : ((xs.take N).drop k).length ≤ 100 := by rw [List.length_drop, List.length_take]; omega
        have HT := Lib.hid (take1_int hP (by omega) t1 t2)
        have i0 : (0 : Int) ≤ (k : Int) := by omega
        have i1 : (k : Int) < (n : Int) := by omega
        clear hx hx' t1 t2 hl hP hc1
        go_wp2_with fail
        refine Calls.mono HT.out ?_
        rintro e w3 ⟨rfl, hP3⟩
        have hc2 := cell_later hP3.2 HC1.out
        have hxx : (x != x) = false := by simp
        go_wp2
        go_roundw
        case rel => exact ⟨k + 1, by omega, by go_num, hP3⟩
        case measure => simp [intOf]; omega
      · have hk' : k = N := by omega
        have e0 : (xs.take N).drop k = [] := by rw [List.drop_eq_nil_of_le]; rw [List.length_take]; omega
        rw [e0] at hP
        have hlen := len_int _ _ _ _ _ hP.1
        have hlose := lose1_int hP (by decide) (k := 0) (is := false) (ys := []) (by decide) (by decide)
        have HL := Lib.hid hlen
        have HO := Lib.hid hlose
        clear e0 hlen hlose
        subst hk'
        go_wp2_with (first | (go_at_call 19; refine Calls.mono HL.out ?_; rintro e w3 ⟨rfl, rfl⟩) | (go_at_call 20; refine Calls.mono HO.out ?_; rintro e w3 ⟨rfl, hP3⟩) | (go_at_call 8; refine Calls.mono (awake_any _) ?_; rintro e w1 ⟨rfl, hB⟩))
        go_ret
        exact ⟨rfl, below_then hP3.2 hP3.2.size hB⟩

end Go.Proofs.Yteeiobjjipcihaa
