/- More calls of a post of one element type. -/
import Derived.Test.YteeiobjjipcihaaPostInt
import Derived.Test.YteeiobjjipcihaaSlCloneInt
namespace Go.Proofs.Yteeiobjjipcihaa
open Go.RowKit Go.Proofs.YteeiobjjipcihaaW.PrintWords

set_option maxHeartbeats 400000 in
theorem all_int (p : Nat) (ok : Nat → Prop) (room : Int) (xs : List Int) (w : World) (hP : PostAt (Kd.int .i64) 3 52 w ok p room xs) (hb : xs.length * 8 ≤ 140737488355328) :
    Calls Try.prog 17 #[.pointer (some ⟨p, 0, none⟩)] w fun e w' => ∃ A' c', e = .returned (.slice A' xs.length c') ∧ Kd.R (Kd.int .i64) 3 w' w.heap.size (fun _ => True) (.slice A' xs.length c') xs ∧ Below w.heap.size w w' := by
  obtain ⟨v, h1, h2, _⟩ := hP
  obtain ⟨A, c, rfl, hl, hC⟩ := Kd.R_reads h2
  have c1 := blk_cell h1 1
  simp only [List.getElem?_toArray, List.getElem?_cons_succ, List.getElem?_cons_zero] at c1
  clear h1
  go_enter Try.func17, Try.ntmps17
  go_wp2_with (go_at_call 24; refine (clone_int _ _ _ _ hC hl hb).mono ?_; rintro e w1 ⟨A', c', rfl, hR, hB⟩)
  go_ret
  exact ⟨_, _, rfl, hR, hB⟩

set_option maxHeartbeats 400000 in
theorem copy_int (p : Nat) (ok : Nat → Prop) (room : Int) (xs : List Int) (w : World) (hP : PostAt (Kd.int .i64) 3 52 w ok p room xs) (hb : xs.length * 8 ≤ 140737488355328) :
    Calls Try.prog 15 #[.pointer (some ⟨p, 0, none⟩)] w fun e w' => ∃ p', e = .returned (.pointer (some ⟨p', 0, none⟩)) ∧ PostAt (Kd.int .i64) 3 52 w' (fun k => w.heap.size ≤ k) p' room xs ∧ Below w.heap.size w w' := by
  have hP0 := hP
  obtain ⟨v, h1, h2, h3, hr⟩ := hP
  obtain ⟨A, c, rfl, hl, hC⟩ := Kd.R_reads h2
  have c1 := blk_cell h1 1
  have c0 := blk_cell h1 0
  simp only [List.getElem?_toArray, List.getElem?_cons_succ, List.getElem?_cons_zero] at c1 c0
  clear h1 h2
  go_enter Try.func15, Try.ntmps15
  go_wp2_with fail
  go_region_held3 (fun w' => w'.cell? ⟨p, 0, none⟩ = some (.int .i64 room) ∧ w'.cell? ⟨p, 1, none⟩ = some (.slice A xs.length c)) (first | go_keep | (go_split_ands; exact ⟨cell_later hB (by assumption), cell_later hB (by assumption)⟩)) ((go_at_call 24; refine (clone_int _ _ _ _ (Kd.C_drew hC) hl hb).mono ?_; rintro e w1 ⟨A', c', rfl, hR, hB⟩))
  go_wp2
  go_ret
  replace hB := below_undrew hB
  refine ⟨_, rfl, ⟨_, heap_alloc_new w1 _, Kd.R_alloc (Kd.R_mono (R_fresh hR) (fun k hk => ⟨hk.1, by have := hk.2; omega⟩)) _, hB.size, hr⟩, below_alloc hB _⟩

set_option maxHeartbeats 400000 in
set_option maxRecDepth 100000 in
theorem take_int (p : Nat) (ok : Nat → Prop) (room : Int) (xs : List Int) (k : Int) (w : World) (hP : PostAt (Kd.int .i64) 3 52 w ok p room xs) (hb : xs.length * 8 ≤ 140737488355328) :
    Calls Try.prog 16 #[.pointer (some ⟨p, 0, none⟩), .int .i64 k] w fun e w' => e = .returned (.tuple #[.int .i64 (lookAt 0 xs k).1, .bool (lookAt 0 xs k).2]) ∧
      PostAt (Kd.int .i64) 3 52 w' (fun k => ok k ∨ w.heap.size ≤ k) p room (takeOut xs k) ∧ Keep (fun k => k = p) w w' := by
  have hlook := look_int p ok room xs k w hP
  by_cases hk : 0 ≤ k ∧ k < xs.length
  · obtain ⟨n, rfl⟩ := Int.eq_ofNat_of_zero_le hk.1
    have hn : n < xs.length := by omega
    obtain ⟨x, hx⟩ : ∃ x, xs[n]? = some x := ⟨xs[n], by simp [hn]⟩
    rw [lookAt_in hx] at hlook ⊢
    rw [takeOut_in hn]
    clear hx
    obtain ⟨v, h1, h2, h3, hr1, hr2⟩ := hP
    obtain ⟨A, c, rfl, hl, hC⟩ := Kd.R_reads h2
    have c1' := blk_cell h1 1
    simp only [List.getElem?_toArray, List.getElem?_cons_succ, List.getElem?_cons_zero] at c1'
    have hmaxx := Kd.C_max hC
    obtain ⟨i0, hi, hz0, hz1, hz2⟩ := info_parts info_int
    have hcut := run_take (P := Try.prog) 31 3 Try.underlying31 hi A xs.length c n (by omega) hl
    obtain ⟨A2, hcut2, hC2⟩ := drop_row (d := (Kd.int .i64)) (P := Try.prog) 31 3 Try.underlying31 hi hz1 A c (n + 1) xs (by omega) hl hC
    simp only [Int.natCast_add, Int.cast_ofNat_Int] at hcut2
    have hC1 := Kd.C_take hC (show n ≤ xs.length by omega)
    rw [List.length_take, Nat.min_eq_left (by omega)] at hC1
    have H1 := Lib.hid h1
    have HL := Lib.hid hlook
    have hwr : IntKind.i64.wrap ((n : Int) + 1) = (n : Int) + 1 := IntWalk.i64_in _ (by omega)
    clear h1 h2 hlook
    go_enter Try.func16, Try.ntmps16
    go_wp2_with (go_at_call 25; refine Calls.mono HL.out ?_; rintro e w1 ⟨rfl, rfl⟩)
    go_region_with ((go_at_call 23; refine Calls.mono (concat2_int _ 31 A A2 n (xs.length - (n + 1)) c (c - (n + 1)) (xs.take n) (xs.drop (n + 1)) _ (by exact heap_alloc_new _ _) (by exact Kd.C_alloc (Kd.C_drew hC1) _) (by omega) (by exact Kd.C_alloc (Kd.C_drew hC2) _) (by omega) (by omega)) ?_; rintro e w1 ⟨A', n', c', rfl, hn', hR, hB⟩; replace hn' := Lib.hid hn'; have b1 := blk_below (blk_alloc (blk_drew H1.out) _) hB; have k1 := blk_cell b1 1; have f1 := blk_frozen b1 1; simp only [List.getElem?_toArray, List.getElem?_cons_succ, List.getElem?_cons_zero] at k1; replace b1 := Lib.hid b1))
    all_goals
      go_wp2
      go_ret2
      have hB' : Below w.heap.size w w1 := ⟨hB.os, hB.tape, hB.output, Nat.le_trans (by simp) hB.size, fun k hk => (hB.block k (by simp; omega)).trans (Below.heap_alloc w.drew _ k hk)⟩
      have hR' := R_fresh hR
      have hpl := blk_lt H1.out
      have hn2 := hn'.out
      refine ⟨rfl, ⟨_, blk_set b1.out 1 _, ?_, .inl h3, by simp; omega, hr2⟩, ?_⟩
      · rw [hn2] at hR' ⊢
        refine Kd.R_far (Kd.R_mono hR' (fun k hk => ⟨.inr ?_, ?_⟩)) (fun k hk => hk.2) _
        · have := hk.1; simp at this; omega
        · have := hk.1; simp at this; omega
      · exact (Keep.of_below hB' (fun k => k = p)).setCell (.inl rfl) _
  · rw [lookAt_out hk] at hlook ⊢
    rw [takeOut_out hk]
    have HL := Lib.hid hlook
    have HP := Lib.hid hP
    clear hlook hP
    go_enter Try.func16, Try.ntmps16
    go_wp2_with (go_at_call 25; refine Calls.mono HL.out ?_; rintro e w1 ⟨rfl, rfl⟩)
    go_ret2
    exact ⟨rfl, HP.out.mono (fun k hk _ => .inl hk), Keep.refl _ _⟩

set_option maxHeartbeats 400000 in
theorem lose_int (p : Nat) (ok : Nat → Prop) (room : Int) (xs : List Int) (k : Int) (w : World) (hP : PostAt (Kd.int .i64) 3 52 w ok p room xs) (hb : xs.length * 8 ≤ 140737488355328) :
    Calls Try.prog 20 #[.pointer (some ⟨p, 0, none⟩), .int .i64 k] w fun e w' => e = .returned (.bool (lookAt 0 xs k).2) ∧
      PostAt (Kd.int .i64) 3 52 w' (fun k => ok k ∨ w.heap.size ≤ k) p room (takeOut xs k) ∧ Keep (fun k => k = p) w w' := by
  have HT := Lib.hid (take_int p ok room xs k w hP hb)
  clear hP hb
  go_enter Try.func20, Try.ntmps20
  go_wp2_with (go_at_call 16; refine Calls.mono HT.out ?_; rintro e w1 ⟨rfl, h1, h2⟩)
  go_ret
  exact ⟨rfl, h1, h2⟩

set_option maxHeartbeats 400000 in
theorem twice_int (p : Nat) (ok : Nat → Prop) (room : Int) (xs : List Int) (k : Int) (w : World) (hP : PostAt (Kd.int .i64) 3 52 w ok p room xs) :
    Calls Try.prog 21 #[.pointer (some ⟨p, 0, none⟩), .int .i64 k] w fun e w' => e = .returned (.tuple #[.int .i64 (lookAt 0 xs k).1, .bool (lookAt 0 xs k).2]) ∧ w = w' := by
  have HT := Lib.hid (look_int p ok room xs k w hP)
  clear hP
  go_enter Try.func21, Try.ntmps21
  go_wp2_with (go_at_call 25; refine Calls.mono HT.out ?_; rintro e w1 ⟨rfl, rfl⟩)
  go_ret2
  exact ⟨rfl, rfl⟩

end Go.Proofs.Yteeiobjjipcihaa
