/- The calls of a post of one element type, each by its contract: what it tells, what is on its way behind it, and that nothing else has turned. -/
import Derived.Test.YteeiobjjipcihaaSlInt
import Derived.Test.YteeiobjjipcihaaPostDef
namespace Go.Proofs.Yteeiobjjipcihaa
open Go.RowKit Go.Proofs.YteeiobjjipcihaaW.PrintWords

set_option maxHeartbeats 400000 in
theorem new_int (n : Int) (w : World) (h0 : n ≤ 9223372036854775807) :
    Calls Try.prog 13 #[.int .i64 n] w fun e w' => e = .returned (.pointer (some ⟨w.heap.size, 0, none⟩)) ∧ PostAt (Kd.int .i64) 3 52 w' (fun k => w.heap.size ≤ k) w.heap.size (max n 0) [] ∧ Below w.heap.size w w' := by
  go_enter Try.func13, Try.ntmps13
  go_wp2
  · have : max n 0 = 0 := by omega
    rw [this]
    go_ret
    exact ⟨rfl, ⟨_, heap_alloc_new w _, Kd.R_nil _ _ _ _ _, Nat.le_refl _, by simp, by omega⟩, below_alloc (Below.refl _ _) _⟩
  · have : max n 0 = n := by omega
    rw [this]
    go_ret
    exact ⟨rfl, ⟨_, heap_alloc_new w _, Kd.R_nil _ _ _ _ _, Nat.le_refl _, by simp; omega, by omega⟩, below_alloc (Below.refl _ _) _⟩

set_option maxHeartbeats 400000 in
theorem len_int (p : Nat) (ok : Nat → Prop) (room : Int) (xs : List Int) (w : World) (hP : PostAt (Kd.int .i64) 3 52 w ok p room xs) :
    Calls Try.prog 19 #[.pointer (some ⟨p, 0, none⟩)] w fun e w' => e = .returned (.int .i64 xs.length) ∧ w = w' := by
  obtain ⟨v, h1, h2, _⟩ := hP
  obtain ⟨A, c, rfl, hl, hC⟩ := Kd.R_reads h2
  have c1 := blk_cell h1 1
  simp only [List.getElem?_toArray, List.getElem?_cons_succ, List.getElem?_cons_zero] at c1
  clear h1
  go_enter Try.func19, Try.ntmps19
  go_wp2
  go_ret
  exact ⟨rfl, rfl⟩

set_option maxHeartbeats 400000 in
theorem look_int (p : Nat) (ok : Nat → Prop) (room : Int) (xs : List Int) (k : Int) (w : World) (hP : PostAt (Kd.int .i64) 3 52 w ok p room xs) :
    Calls Try.prog 25 #[.pointer (some ⟨p, 0, none⟩), .int .i64 k] w fun e w' => e = .returned (.tuple #[.int .i64 (lookAt 0 xs k).1, .bool (lookAt 0 xs k).2]) ∧ w = w' := by
  obtain ⟨v, h1, h2, _⟩ := hP
  obtain ⟨A, c, rfl, hl, hC⟩ := Kd.R_reads h2
  have c1 := blk_cell h1 1
  simp only [List.getElem?_toArray, List.getElem?_cons_succ, List.getElem?_cons_zero] at c1
  clear h1 h2
  by_cases h0 : k < 0
  · rw [lookAt_out (by omega)]
    go_enter Try.func25, Try.ntmps25
    go_wp2
    go_ret2
    exact ⟨rfl, rfl⟩
  · by_cases hk : k < xs.length
    · obtain ⟨n, rfl⟩ := Int.eq_ofNat_of_zero_le (show 0 ≤ k by omega)
      obtain ⟨ad, x, rfl, hx, hcell⟩ := C_nth_scalar hC n (by omega)
      rw [lookAt_in hx]
      clear hx
      go_enter Try.func25, Try.ntmps25
      go_wp2
      go_ret2
      exact ⟨rfl, rfl⟩
    · rw [lookAt_out (by omega)]
      go_enter Try.func25, Try.ntmps25
      go_wp2
      go_ret2
      exact ⟨rfl, rfl⟩

set_option maxHeartbeats 400000 in
theorem send_int (p : Nat) (ok : Nat → Prop) (room : Int) (xs ls : List Int) (A1 : Option Addr) (c1 : Nat) (w : World) (hP : PostAt (Kd.int .i64) 3 52 w ok p room xs)
    (hC1 : (Kd.int .i64).C w A1 ls.length ls) (hc1 : ls.length ≤ c1) (hb : (xs.length + ls.length) * 8 ≤ 140737488355328) :
    Calls Try.prog 14 #[.pointer (some ⟨p, 0, none⟩), .slice A1 ls.length c1] w fun e w' => e = .returned (.int .i64 (sendN room xs.length ls.length : Nat)) ∧
      PostAt (Kd.int .i64) 3 52 w' (fun k => ok k ∨ w.heap.size ≤ k) p room (xs ++ ls.take (sendN room xs.length ls.length)) ∧ Keep (fun k => k = p) w w' := by
  obtain ⟨v, h1, h2, h3, hr1, hr2⟩ := hP
  obtain ⟨A, c, rfl, hl, hC⟩ := Kd.R_reads h2
  have c1' := blk_cell h1 1
  have c0 := blk_cell h1 0
  have fr := blk_frozen h1 1
  simp only [List.getElem?_toArray, List.getElem?_cons_succ, List.getElem?_cons_zero] at c1' c0
  obtain ⟨rm, rfl⟩ := Int.eq_ofNat_of_zero_le (show 0 ≤ room by omega)
  have hmax := Kd.C_max hC1
  have hmaxx := Kd.C_max hC
  have hN : sendN rm xs.length ls.length ≤ ls.length := by unfold sendN; omega
  have hN2 : xs.length + sendN rm xs.length ls.length ≤ rm := by unfold sendN; omega
  obtain ⟨N, hNe⟩ : ∃ N, N = sendN rm xs.length ls.length := ⟨_, rfl⟩
  rw [← hNe] at hN hN2 ⊢
  have hmn : ∀ ts t W, (Builtin.min_ ts t #[.int .i64 (ls.length : Int), .int .i64 ((rm : Int) - xs.length)]).run Try.prog W = .ok (.int .i64 (N : Int)) W := by
    intro ts t W
    rw [run_min_int2]
    congr 2
    rw [hNe]; unfold sendN; split <;> omega
  clear hNe
  obtain ⟨i0, hi, hz0, hz1, hz2⟩ := info_parts info_int
  have hcut := run_take (P := Try.prog) 31 3 Try.underlying31 hi A1 ls.length c1 N hN hc1
  have hC2 := Kd.C_take hC1 hN
  rw [List.length_take, Nat.min_eq_left hN] at hC2
  have H1 := Lib.hid h1
  clear h1 h2
  go_enter Try.func14, Try.ntmps14
  go_wp2_with fail
  go_quiet (fail)
  go_wp2_with fail
  go_region_with ((go_at_call 23; refine Calls.mono (concat2_int _ 31 A A1 xs.length N c c1 xs (ls.take N) _ (by exact heap_alloc_new _ _) (by exact Kd.C_alloc (Kd.C_drewN hC _) _) hl (by exact Kd.C_alloc (Kd.C_drewN hC2 _) _) (by omega) (by omega)) ?_; rintro e w1 ⟨A', n', c', rfl, hn', hR, hB⟩; replace hn' := Lib.hid hn'; have b1 := blk_below (blk_alloc (blk_drewN H1.out _) _) hB; have k1 := blk_cell b1 1; have f1 := blk_frozen b1 1; simp only [List.getElem?_toArray, List.getElem?_cons_succ, List.getElem?_cons_zero] at k1; replace b1 := Lib.hid b1))
  go_wp2
  go_ret
  have hB' : Below w.heap.size w w1 := ⟨hB.os, hB.tape, hB.output, Nat.le_trans (by simp) hB.size, fun k hk => (hB.block k (by simp; omega)).trans (Below.heap_alloc (w.drewN (nq + 1)) _ k hk)⟩
  have hR' := R_fresh hR
  have hpl := blk_lt H1.out
  have hn2 := hn'.out
  refine ⟨rfl, ⟨_, blk_set b1.out 1 _, ?_, .inl h3, by simp; omega, hr2⟩, ?_⟩
  · rw [hn2] at hR' ⊢
    refine Kd.R_far (Kd.R_mono hR' (fun k hk => ⟨.inr ?_, ?_⟩)) (fun k hk => hk.2) _
    · have := hk.1; simp at this; omega
    · have := hk.1; simp at this; omega
  · exact (Keep.of_below hB' (fun k => k = p)).setCell (.inl rfl) _

end Go.Proofs.Yteeiobjjipcihaa
