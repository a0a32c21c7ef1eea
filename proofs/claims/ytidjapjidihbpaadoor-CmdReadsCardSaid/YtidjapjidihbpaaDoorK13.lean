/- Put together: The document's Read. -/
import Derived.Test.YtidjapjidihbpaaDoorK12
set_option linter.unusedVariables false
set_option linter.unusedSimpArgs false
set_option linter.unusedVariables false
set_option linter.unusedSimpArgs false
namespace Go.Proofs.YtidjapjidihbpaaDoor
open Go.RowKit Go.Proofs.YtidjapjidihbpaaDoorW.PrintWords
/-- A row of fixed length, filled so far. -/
def fixArr {α : Type} (enc : α → Value) (z : α) (N : Nat) (l : List α) (j : Nat) : Array Value := ((l ++ List.replicate (N - j) z).map enc).toArray
theorem fixArr_set {α : Type} {enc : α → Value} {z : α} {N j : Nat} {l : List α} (hl : l.length = j) (hj : j < N) (x : α) : (fixArr enc z N l j).setIfInBounds j (enc x) = fixArr enc z N (l ++ [x]) (j + 1) := by
  unfold fixArr
  rw [List.setIfInBounds_toArray, ← List.map_set, show N - j = (N - (j + 1)) + 1 by omega, List.replicate_succ, List.set_append_right _ _ (by omega), hl, Nat.sub_self, List.set_cons_zero, List.append_assoc, List.singleton_append]
theorem fixArr_cell {α : Type} {enc : α → Value} {z : α} {N j : Nat} {l : List α} (hl : l.length = j) (hj : j < N) : (fixArr enc z N l j)[j]? = some (enc z) := by
  unfold fixArr
  rw [show N - j = (N - (j + 1)) + 1 by omega, List.replicate_succ, List.getElem?_toArray, List.getElem?_map, List.getElem?_append_right (by omega), hl, Nat.sub_self]
  rfl
theorem eleven {α : Type} {l : List α} (h : l.length = 11) : ∃ a0 a1 a2 a3 a4 a5 a6 a7 a8 a9 aa, l = [a0, a1, a2, a3, a4, a5, a6, a7, a8, a9, aa] := by
  match l, h with
  | [a0, a1, a2, a3, a4, a5, a6, a7, a8, a9, aa], _ => exact ⟨a0, a1, a2, a3, a4, a5, a6, a7, a8, a9, aa, rfl⟩
theorem arr11 (n0 n1 n2 n3 n4 n5 n6 n7 n8 n9 na : Int) : fixArr (Value.int .i64) 0 11 [n0, n1, n2, n3, n4, n5, n6, n7, n8, n9, na] 11 = #[.int .i64 n0, .int .i64 n1, .int .i64 n2, .int .i64 n3, .int .i64 n4, .int .i64 n5, .int .i64 n6, .int .i64 n7, .int .i64 n8, .int .i64 n9, .int .i64 na] := by kernel_rfl
theorem arr6 (t0 t1 t2 t3 t4 t5 : ByteArray) : fixArr Value.string ⟨#[]⟩ 6 [t0, t1, t2, t3, t4, t5] 6 = #[.string t0, .string t1, .string t2, .string t3, .string t4, .string t5] := by kernel_rfl
theorem Hp.upFour {w0 w : World} {P Q R S U : Asn} {Ps : List Asn} (h : Hp w0 w (P :: Q :: R :: S :: U :: Ps)) : Hp w0 w (U :: P :: Q :: R :: S :: Ps) := h.perm (List.perm_middle (l₁ := [P, Q, R, S]))
theorem rsNum_at {bs : List Int} (hb : ByOk bs) {s : Rs} (hs : s.at_ ≤ bs.length) : (rsNum bs s).1.at_ ≤ bs.length ∧ 0 ≤ (rsNum bs s).2 ∧ (rsNum bs s).2 ≤ 9223372036854775807 := by
  have h := rsNum_in hb hs
  exact ⟨h.2.2.1, h.1, h.2.1⟩
theorem rsText_at {bs : List Int} (hb : ByOk bs) {s : Rs} (hs : s.at_ ≤ bs.length) : (rsText bs 256 s).1.at_ ≤ bs.length := by
  by_cases h0 : (rsNum bs s).1.no = 0
  · obtain ⟨_, g1, g2, g3⟩ := rsText_go (most := 256) hb h0
    have h1 := (rsNum_at hb hs).1
    by_cases a : (256 : Int) < (rsNum bs s).2
    · rw [g1 a]; exact hs
    · by_cases b : (bs.length : Int) - ((rsNum bs s).1.at_ : Int) < (rsNum bs s).2
      · rw [g2 a b]; exact hs
      · rw [g3 a b]
        dsimp only
        omega
  · rw [rsText_stay h0]
    exact (rsNum_at hb hs).1
set_option maxHeartbeats 16000000 in
set_option maxRecDepth 100000 in
theorem refReadCmd_any (A : Option Addr) (n c : Nat) (bs : List Int) (w : World) (hA : Rd w A n c bs) (hn : n ≤ 1000000) (hb : ByOk bs) :
    Calls Tryd.prog 20 #[.slice A n c] w fun e w' => ∃ B m d, e = .returned (.tuple #[.agg ((readCmd bs).1.cells (.slice B m d) (readCmd bs).1.n), .int .i64 (readCmd bs).2]) ∧ Kd.string.C w' B m (readCmd bs).1.bodies ∧ Below w.heap.size w w' := by
  have HA := Lib.hid hA
  have HB := Lib.hid hb
  have HN := Lib.hid hA.len
  obtain ⟨R, hR⟩ : ∃ R, R = readCmd bs := ⟨_, rfl⟩
  rw [← hR]
  have HRR := Lib.hid hR
  clear hA hb hR
  have hp0 := ((Hp.nil w).alloc (.cells #[.int .i64 0, .int .i64 0, .int .i64 0, .string ⟨#[]⟩, .int .i64 0, .int .i64 0, .int .i64 0, .int .i64 0, .int .i64 0, .string ⟨#[]⟩, .bool false, .string ⟨#[]⟩, .string ⟨#[]⟩, .string ⟨#[]⟩, .string ⟨#[]⟩, .slice none 0 0, .int .i64 0, .int .i64 0] 37)).alloc (.cells #[.slice none 0 0, .int .i64 0, .int .i64 0] 102)
  have hz : (w.alloc (.cells #[.int .i64 0, .int .i64 0, .int .i64 0, .string ⟨#[]⟩, .int .i64 0, .int .i64 0, .int .i64 0, .int .i64 0, .int .i64 0, .string ⟨#[]⟩, .bool false, .string ⟨#[]⟩, .string ⟨#[]⟩, .string ⟨#[]⟩, .string ⟨#[]⟩, .slice none 0 0, .int .i64 0, .int .i64 0] 37)).heap.size = w.heap.size + 1 := by simp
  rw [hz] at hp0
  have HP0 := Lib.hid hp0
  have HP1 := Lib.hid (hp0.setRowBlk #[.slice A n c, .int .i64 0, .int .i64 0])
  clear hp0 hz
  go_enter Tryd.func20, Tryd.ntmps20
  go_wp2_with ((with_reducible refine gate_store (t := 102) (p := 4) (v := .tmp 19) rfl ?_); refine wpList_store_row rfl 102 (.tmp 4) (.tmp 19) rfl (w.heap.size + 1) #[.slice A n c, .int .i64 0, .int .i64 0] rfl rfl 102 #[.slice none 0 0, .int .i64 0, .int .i64 0] HP0.out.blk0 info_reader rfl (by simp [Value.oneCell']) ?_; generalize ((w.alloc (.cells #[.int .i64 0, .int .i64 0, .int .i64 0, .string ⟨#[]⟩, .int .i64 0, .int .i64 0, .int .i64 0, .int .i64 0, .int .i64 0, .string ⟨#[]⟩, .bool false, .string ⟨#[]⟩, .string ⟨#[]⟩, .string ⟨#[]⟩, .string ⟨#[]⟩, .slice none 0 0, .int .i64 0, .int .i64 0] 37)).alloc (.cells #[.slice none 0 0, .int .i64 0, .int .i64 0] 102)).setRow (w.heap.size + 1) #[.slice A n c, .int .i64 0, .int .i64 0] = W1 at *)
  obtain ⟨z18, hz18⟩ : ∃ z : Array Value, z = #[.int .i64 0, .int .i64 0, .int .i64 0, .string ⟨#[]⟩, .int .i64 0, .int .i64 0, .int .i64 0, .int .i64 0, .int .i64 0, .string ⟨#[]⟩, .bool false, .string ⟨#[]⟩, .string ⟨#[]⟩, .string ⟨#[]⟩, .string ⟨#[]⟩, .slice none 0 0, .int .i64 0, .int .i64 0] := ⟨_, rfl⟩
  rw [← hz18] at HP1
  have HZS := Lib.hid (show z18.size = 18 by rw [hz18]; rfl)
  clear hz18 HP0
  have HP2 := Lib.hid ((HP1.out.alloc (.cells (fixArr (Value.int .i64) 0 11 [] 0) 103)).swap)
  go_loopw [6] (fun i wr => ∃ (j : Nat) (s1 : Rs) (l1 : List Int), i = .int .i64 j ∧ j ≤ 11 ∧ s1.at_ ≤ n ∧ Hid ((s1, l1) = rsMany (rsNum bs) j ⟨0, 0⟩) ∧ Hp w wr [ABlk (w.heap.size + 1) (.cells #[.slice A n c, .int .i64 (s1.at_ : Int), .int .i64 s1.no] 102 (0, 0)), ABlk W1.heap.size (.cells (fixArr (Value.int .i64) 0 11 l1 j) 103 (0, 0)), ABlk w.heap.size (.cells z18 37 (0, 0))]) (fun i _ => 11 - (intOf i).toNat)
  case atStart => exact ⟨0, ⟨0, 0⟩, [], rfl, Nat.zero_le _, Nat.zero_le _, Lib.hid rfl, HP2.out⟩
  case round =>
    obtain ⟨j, s1, l1, rfl, hj, hat, hM, hQ⟩ := hrel
    have HQ := Lib.hid hQ
    have hl1 : l1.length = j := by
      have h := rsMany_len (rsNum bs) j ⟨0, 0⟩
      rw [← hM.out] at h
      exact h
    have HL1 := Lib.hid hl1
    obtain ⟨x0, x1, x2, xf⟩ := blk3c (by exact hQ.blk0)
    clear hQ hl1
    by_cases hj11 : j < 11
    case pos =>
      have i0 : (0 : Int) ≤ (j : Int) := by omega
      have i1 : (j : Int) < 11 := by omega
      have HSUC := Lib.hid (rsMany_succ (rsNum bs) j ⟨0, 0⟩)
      rw [← hM.out] at HSUC
      have hnum := refnum_any (HA.out.below HQ.out.belowW) hn HB.out s1 hat
      have hat2 := (rsNum_at HB.out (s := s1) (by rw [← HN.out]; exact hat)).1
      rw [← HN.out] at hat2
      obtain ⟨⟨s2, x⟩, hr⟩ : ∃ r, r = rsNum bs s1 := ⟨_, rfl⟩
      rw [← hr] at hnum hat2
      unfold rrCells at hnum
      have HNUM := Lib.hid hnum
      have HX := Lib.hid hr
      clear hr hnum
      go_wp2_with (first | (go_at_call 54; refine Calls.mono HNUM.out ?_; rintro e w3 ⟨rfl, hB⟩; have HP3 := Lib.hid (HQ.out.below hB); have HA3 := Lib.hid (HP3.out.alloc (.cells #[.slice none 0 0, .int .i64 0, .int .i64 0] 102)); have HS3 := Lib.hid (HA3.out.setRowBlk #[.slice A n c, .int .i64 (s2.at_ : Int), .int .i64 s2.no]); clear hB) | ((with_reducible refine gate_store (t := 102) (p := 7) (v := .tmp 27) rfl ?_); refine wpList_store_row rfl 102 (.tmp 7) (.tmp 27) rfl w3.heap.size #[.slice A n c, .int .i64 (s2.at_ : Int), .int .i64 s2.no] rfl rfl 102 #[.slice none 0 0, .int .i64 0, .int .i64 0] HA3.out.blk0 info_reader rfl (by simp [Value.oneCell']) ?_; generalize (w3.alloc (.cells #[.slice none 0 0, .int .i64 0, .int .i64 0] 102)).setRow w3.heap.size #[.slice A n c, .int .i64 (s2.at_ : Int), .int .i64 s2.no] = W4 at *; obtain ⟨g0, g1, g2, gf⟩ := blk3c (by exact HS3.out.blk0); have HR4 := Lib.hid (HS3.out.swap.setRowBlk #[.slice A n c, .int .i64 (s2.at_ : Int), .int .i64 s2.no])) | ((with_reducible refine gate_store (t := 102) (p := 4) (v := .tmp 29) rfl ?_); refine wpList_store_row rfl 102 (.tmp 4) (.tmp 29) rfl (w.heap.size + 1) #[.slice A n c, .int .i64 (s2.at_ : Int), .int .i64 s2.no] rfl rfl 102 #[.slice A n c, .int .i64 (s1.at_ : Int), .int .i64 s1.no] HS3.out.blk1 info_reader rfl (by simp [Value.oneCell']) ?_; generalize (W4).setRow (w.heap.size + 1) #[.slice A n c, .int .i64 (s2.at_ : Int), .int .i64 s2.no] = W5 at *; clear g0 g1 g2 gf; have hc0 : W5.cell? ⟨W1.heap.size, j, none⟩ = some (.int .i64 0) := (blk_cell HR4.out.blk2 j).trans (fixArr_cell HL1.out hj11); have hf0 : W5.frozen? ⟨W1.heap.size, j, none⟩ = false := blk_frozen HR4.out.blk2 j))
      have HF := Lib.hid (HR4.out.up2.setBlk j (.int .i64 x)).swap.drop2
      rw [fixArr_set (enc := Value.int .i64) HL1.out hj11] at HF
      refine ⟨⟨j + 1, s2, l1 ++ [x], by simp, by omega, hat2, Lib.hid ?_, HF.out⟩, ?_⟩
      · rw [HSUC.out, ← HX.out]
      · simp [intOf]
        omega
    case neg =>
    have hj' : j = 11 := by omega
    subst hj'
    rw [show ((11 : Nat) : Int) = (11 : Int) from rfl]
    obtain ⟨n0, n1, n2, n3, n4, n5, n6, n7, n8, n9, na, rfl⟩ := eleven HL1.out
    obtain ⟨s0, rfl⟩ : ∃ s0, s0 = s1 := ⟨s1, rfl⟩
    obtain ⟨wA, rfl⟩ : ∃ wA, wA = wr := ⟨wr, rfl⟩
    have hM1 := hM
    rw [arr11] at HQ
    obtain ⟨ar, har⟩ : ∃ z : Array Value, z = #[.int .i64 n0, .int .i64 n1, .int .i64 n2, .int .i64 n3, .int .i64 n4, .int .i64 n5, .int .i64 n6, .int .i64 n7, .int .i64 n8, .int .i64 n9, .int .i64 na] := ⟨_, rfl⟩
    rw [← har] at HQ
    have HAR := Lib.hid har
    clear har
    have HP3 := Lib.hid HQ.out
    have HM1 := Lib.hid hM1.out
    clear x0 x1 x2 xf HQ
    go_wp2_with fail
    have HP4 := Lib.hid ((HP3.out.alloc (.cells (fixArr Value.string ⟨#[]⟩ 6 [] 0) 106)).swap)
    go_loopw [10] (fun i w' => ∃ (j : Nat) (s1 : Rs) (l1 : List ByteArray), i = .int .i64 j ∧ j ≤ 6 ∧ s1.at_ ≤ n ∧ Hid ((s1, l1) = rsMany (rsText bs 256) j s0) ∧ Hp w w' [ABlk (w.heap.size + 1) (.cells #[.slice A n c, .int .i64 (s1.at_ : Int), .int .i64 s1.no] 102 (0, 0)), ABlk wA.heap.size (.cells (fixArr Value.string ⟨#[]⟩ 6 l1 j) 106 (0, 0)), ABlk W1.heap.size (.cells ar 103 (0, 0)), ABlk w.heap.size (.cells z18 37 (0, 0))]) (fun i _ => 6 - (intOf i).toNat)
    case atStart => exact ⟨0, s0, [], rfl, Nat.zero_le _, hat, Lib.hid rfl, HP4.out⟩
    case round =>
      obtain ⟨j, s1, l1, rfl, hj, hat1, hM, hQ⟩ := hrel
      have HQ := Lib.hid hQ
      have hl1 : l1.length = j := by
        have h := rsMany_len (rsText bs 256) j s0
        rw [← hM.out] at h
        exact h
      have HL1 := Lib.hid hl1
      obtain ⟨x0, x1, x2, xf⟩ := blk3c (by exact hQ.blk0)
      clear hQ hl1
      by_cases hj6 : j < 6
      case pos =>
        have i0 : (0 : Int) ≤ (j : Int) := by omega
        have i1 : (j : Int) < 6 := by omega
        have HSUC := Lib.hid (rsMany_succ (rsText bs 256) j s0)
        rw [← hM.out] at HSUC
        have hnum := reftext_any (HA.out.below HQ.out.belowW) hn HB.out s1 hat1
        have hat2 := rsText_at HB.out (s := s1) (by rw [← HN.out]; exact hat1)
        rw [← HN.out] at hat2
        obtain ⟨⟨s2, x⟩, hr⟩ : ∃ r, r = rsText bs 256 s1 := ⟨_, rfl⟩
        rw [← hr] at hnum hat2
        unfold rrCells at hnum
        have HNUM := Lib.hid hnum
        have HX := Lib.hid hr
        clear hr hnum
        go_wp2_with (first | (go_at_call 55; refine Calls.mono HNUM.out ?_; rintro e w3 ⟨rfl, hB⟩; have HP3 := Lib.hid (HQ.out.below hB); have HA3 := Lib.hid (HP3.out.alloc (.cells #[.slice none 0 0, .int .i64 0, .int .i64 0] 102)); have HS3 := Lib.hid (HA3.out.setRowBlk #[.slice A n c, .int .i64 (s2.at_ : Int), .int .i64 s2.no]); clear hB) | ((with_reducible refine gate_store (t := 102) (p := 11) (v := .tmp 40) rfl ?_); refine wpList_store_row rfl 102 (.tmp 11) (.tmp 40) rfl w3.heap.size #[.slice A n c, .int .i64 (s2.at_ : Int), .int .i64 s2.no] rfl rfl 102 #[.slice none 0 0, .int .i64 0, .int .i64 0] HA3.out.blk0 info_reader rfl (by simp [Value.oneCell']) ?_; generalize (w3.alloc (.cells #[.slice none 0 0, .int .i64 0, .int .i64 0] 102)).setRow w3.heap.size #[.slice A n c, .int .i64 (s2.at_ : Int), .int .i64 s2.no] = W4 at *; obtain ⟨g0, g1, g2, gf⟩ := blk3c (by exact HS3.out.blk0); have HR4 := Lib.hid (HS3.out.swap.setRowBlk #[.slice A n c, .int .i64 (s2.at_ : Int), .int .i64 s2.no])) | ((with_reducible refine gate_store (t := 102) (p := 4) (v := .tmp 42) rfl ?_); refine wpList_store_row rfl 102 (.tmp 4) (.tmp 42) rfl (w.heap.size + 1) #[.slice A n c, .int .i64 (s2.at_ : Int), .int .i64 s2.no] rfl rfl 102 #[.slice A n c, .int .i64 (s1.at_ : Int), .int .i64 s1.no] HS3.out.blk1 info_reader rfl (by simp [Value.oneCell']) ?_; generalize (W4).setRow (w.heap.size + 1) #[.slice A n c, .int .i64 (s2.at_ : Int), .int .i64 s2.no] = W5 at *; clear g0 g1 g2 gf; have hc0 : W5.cell? ⟨wA.heap.size, j, none⟩ = some (.string ⟨#[]⟩) := (blk_cell HR4.out.blk2 j).trans (fixArr_cell HL1.out hj6); have hf0 : W5.frozen? ⟨wA.heap.size, j, none⟩ = false := blk_frozen HR4.out.blk2 j))
        have HF := Lib.hid (HR4.out.up2.setBlk j (.string x)).swap.drop2
        rw [fixArr_set (enc := Value.string) HL1.out hj6] at HF
        refine ⟨⟨j + 1, s2, l1 ++ [x], by simp, by omega, hat2, Lib.hid ?_, HF.out⟩, ?_⟩
        · rw [HSUC.out, ← HX.out]
        · simp [intOf]
          omega
      case neg =>
      have hj' : j = 6 := by omega
      subst hj'
      rw [show ((6 : Nat) : Int) = (6 : Int) from rfl]
      obtain ⟨t0, t1, t2, t3, t4, t5, rfl⟩ := six HL1.out
      obtain ⟨s5, rfl⟩ : ∃ s5, s5 = s1 := ⟨s1, rfl⟩
      obtain ⟨wB, rfl⟩ : ∃ wB, wB = wr := ⟨wr, rfl⟩
      have HM2 := Lib.hid hM.out
      rw [arr6] at HQ
      have HP5 := Lib.hid HQ.out
      have hAR : wB.heap[W1.heap.size]? = some (.cells #[.int .i64 n0, .int .i64 n1, .int .i64 n2, .int .i64 n3, .int .i64 n4, .int .i64 n5, .int .i64 n6, .int .i64 n7, .int .i64 n8, .int .i64 n9, .int .i64 na] 103 (0, 0)) := by have h := HP5.out.blk2; rw [HAR.out] at h; exact h
      have a0 : wB.cell? ⟨W1.heap.size, 0, none⟩ = some (.int .i64 n0) := blk_cell hAR 0
      have a1 : wB.cell? ⟨W1.heap.size, 1, none⟩ = some (.int .i64 n1) := blk_cell hAR 1
      have a2 : wB.cell? ⟨W1.heap.size, 2, none⟩ = some (.int .i64 n2) := blk_cell hAR 2
      have a3 : wB.cell? ⟨W1.heap.size, 3, none⟩ = some (.int .i64 n3) := blk_cell hAR 3
      have a4 : wB.cell? ⟨W1.heap.size, 4, none⟩ = some (.int .i64 n4) := blk_cell hAR 4
      have a5 : wB.cell? ⟨W1.heap.size, 5, none⟩ = some (.int .i64 n5) := blk_cell hAR 5
      have a6 : wB.cell? ⟨W1.heap.size, 6, none⟩ = some (.int .i64 n6) := blk_cell hAR 6
      have a7 : wB.cell? ⟨W1.heap.size, 7, none⟩ = some (.int .i64 n7) := blk_cell hAR 7
      have a8 : wB.cell? ⟨W1.heap.size, 8, none⟩ = some (.int .i64 n8) := blk_cell hAR 8
      have a9 : wB.cell? ⟨W1.heap.size, 9, none⟩ = some (.int .i64 n9) := blk_cell hAR 9
      have a10 : wB.cell? ⟨W1.heap.size, 10, none⟩ = some (.int .i64 na) := blk_cell hAR 10
      have b0 : wB.cell? ⟨wA.heap.size, 0, none⟩ = some (.string t0) := blk_cell HP5.out.blk1 0
      have b1 : wB.cell? ⟨wA.heap.size, 1, none⟩ = some (.string t1) := blk_cell HP5.out.blk1 1
      have b2 : wB.cell? ⟨wA.heap.size, 2, none⟩ = some (.string t2) := blk_cell HP5.out.blk1 2
      have b3 : wB.cell? ⟨wA.heap.size, 3, none⟩ = some (.string t3) := blk_cell HP5.out.blk1 3
      have b4 : wB.cell? ⟨wA.heap.size, 4, none⟩ = some (.string t4) := blk_cell HP5.out.blk1 4
      have b5 : wB.cell? ⟨wA.heap.size, 5, none⟩ = some (.string t5) := blk_cell HP5.out.blk1 5
      have hn3 : 0 ≤ n3 ∧ n3 ≤ 9223372036854775807 := by
        obtain ⟨_, h2⟩ := Fit.many (ok := fun x => 0 ≤ x ∧ x ≤ 9223372036854775807) (fun s E h => Fit.num HB.out h) 11 _ _ (Fit.start bs)
        rw [← HM1.out] at h2
        exact h2 n3 (by simp)
      have hw3 : IntKind.i64.wrap (n3 - 1) = n3 - 1 := by rw [IntKind.wrap_i64]; omega
      have HP7 := Lib.hid (HP5.out.alloc (.cells #[.int .i64 n0, .int .i64 n1, .int .i64 n2, .string t0, .int .i64 0, .int .i64 0, .int .i64 0, .int .i64 0, .int .i64 0, .string ⟨#[]⟩, .bool false, .string t2, .string t3, .string t4, .string t5, .slice none 0 0, .int .i64 (n3 - 1), .int .i64 n4] 37))
      obtain ⟨fb, hfb⟩ : ∃ fb, fb = decide (na = 1) := ⟨_, rfl⟩
      have hfb1 : (na == 1) = fb := by rw [hfb]; rfl
      have HFB := Lib.hid hfb
      clear hfb x0 x1 x2 xf HQ
      go_upto_region 17 with (fail)
      generalize wB.alloc (.cells #[.int .i64 n0, .int .i64 n1, .int .i64 n2, .string t0, .int .i64 0, .int .i64 0, .int .i64 0, .int .i64 0, .int .i64 0, .string ⟨#[]⟩, .bool false, .string t2, .string t3, .string t4, .string t5, .slice none 0 0, .int .i64 (n3 - 1), .int .i64 n4] 37) = W7 at *
      have hAR7 : W7.heap[W1.heap.size]? = some (.cells #[.int .i64 n0, .int .i64 n1, .int .i64 n2, .int .i64 n3, .int .i64 n4, .int .i64 n5, .int .i64 n6, .int .i64 n7, .int .i64 n8, .int .i64 n9, .int .i64 na] 103 (0, 0)) := by (have h := HP7.out.blk3;rw [HAR.out] at h;exact h)
      have d5 : W7.cell? ⟨W1.heap.size, 5, none⟩ = some (.int .i64 n5) := blk_cell hAR7 5
      have d6 : W7.cell? ⟨W1.heap.size, 6, none⟩ = some (.int .i64 n6) := blk_cell hAR7 6
      have d7 : W7.cell? ⟨W1.heap.size, 7, none⟩ = some (.int .i64 n7) := blk_cell hAR7 7
      have d8 : W7.cell? ⟨W1.heap.size, 8, none⟩ = some (.int .i64 n8) := blk_cell hAR7 8
      have d9 : W7.cell? ⟨W1.heap.size, 9, none⟩ = some (.int .i64 n9) := blk_cell hAR7 9
      have d10 : W7.cell? ⟨W1.heap.size, 10, none⟩ = some (.int .i64 na) := blk_cell hAR7 10
      have d11 : W7.cell? ⟨wA.heap.size, 1, none⟩ = some (.string t1) := blk_cell HP7.out.blk2 1
      have e4 : W7.cell? ⟨wB.heap.size, 4, none⟩ = some (.int .i64 0) := blk_cell HP7.out.blk0 4
      have e5 : W7.cell? ⟨wB.heap.size, 5, none⟩ = some (.int .i64 0) := blk_cell HP7.out.blk0 5
      have e6 : W7.cell? ⟨wB.heap.size, 6, none⟩ = some (.int .i64 0) := blk_cell HP7.out.blk0 6
      have e7 : W7.cell? ⟨wB.heap.size, 7, none⟩ = some (.int .i64 0) := blk_cell HP7.out.blk0 7
      have e8 : W7.cell? ⟨wB.heap.size, 8, none⟩ = some (.int .i64 0) := blk_cell HP7.out.blk0 8
      have e9 : W7.cell? ⟨wB.heap.size, 9, none⟩ = some (.string ⟨#[]⟩) := blk_cell HP7.out.blk0 9
      have e10 : W7.cell? ⟨wB.heap.size, 10, none⟩ = some (.bool false) := blk_cell HP7.out.blk0 10
      have ef : ∀ i, W7.frozen? ⟨wB.heap.size, i, none⟩ = false := fun i => blk_frozen HP7.out.blk0 _
      have HP8 := Lib.hid (((((((HP7.out.setBlk 4 (.int .i64 n5)).setBlk 5 (.int .i64 n6)).setBlk 6 (.int .i64 n7)).setBlk 7 (.int .i64 n8)).setBlk 8 (.int .i64 n9)).setBlk 9 (.string t1)).setBlk 10 (.bool fb))
      simp only [List.setIfInBounds_toArray, List.set_cons_zero, List.set_cons_succ] at HP8
      obtain ⟨CC, hCC⟩ : ∃ CC : Value → Array Value, ∀ v, CC v = #[.int .i64 n0, .int .i64 n1, .int .i64 n2, .string t0, .int .i64 n5, .int .i64 n6, .int .i64 n7, .int .i64 n8, .int .i64 n9, .string t1, .bool fb, .string t2, .string t3, .string t4, .string t5, v, .int .i64 (n3 - 1), .int .i64 n4] := ⟨fun v => #[.int .i64 n0, .int .i64 n1, .int .i64 n2, .string t0, .int .i64 n5, .int .i64 n6, .int .i64 n7, .int .i64 n8, .int .i64 n9, .string t1, .bool fb, .string t2, .string t3, .string t4, .string t5, v, .int .i64 (n3 - 1), .int .i64 n4], fun _ => rfl⟩
      rw [← hCC] at HP8
      have HCC := Lib.hid hCC
      clear hCC
      obtain ⟨x0, x1, x2, xf⟩ := blk3c (by exact HP8.out.blk1)
      have hnum := refnum_any (HA.out.below HP8.out.belowW) hn HB.out s5 hat1
      have hnat := rsNum_at HB.out (s := s5) (by rw [← HN.out]; exact hat1)
      rw [← HN.out] at hnat
      obtain ⟨⟨s6, mm⟩, hr⟩ : ∃ r, r = rsNum bs s5 := ⟨_, rfl⟩
      rw [← hr] at hnum hnat
      unfold rrCells at hnum
      have HNUM := Lib.hid hnum
      have HX := Lib.hid hr
      obtain ⟨hat6, hmm0, hmm1⟩ := hnat
      dsimp only at hat6 hmm0 hmm1
      clear hr hnum
      go_wp2_with fail
      clear x0 x1 x2 xf hAR hAR7 d5 d6 d7 d8 d9 d10 d11 e4 e5 e6 e7 e8 e9 e10 ef a0 a1 a2 a3 a4 a5 a6 a7 a8 a9 a10 b0 b1 b2 b3 b4 b5
      generalize (((((((W7.setCell ⟨wB.heap.size, 4, none⟩ (.int .i64 n5)).setCell ⟨wB.heap.size, 5, none⟩ (.int .i64 n6)).setCell ⟨wB.heap.size, 6, none⟩ (.int .i64 n7)).setCell ⟨wB.heap.size, 7, none⟩ (.int .i64 n8)).setCell ⟨wB.heap.size, 8, none⟩ (.int .i64 n9)).setCell ⟨wB.heap.size, 9, none⟩ (.string t1)).setCell ⟨wB.heap.size, 10, none⟩ (.bool fb)) = W8 at *
      refine Calls.mono HNUM.out ?_
      rintro e w9 ⟨rfl, hB9⟩
      have HP9 := Lib.hid (HP8.out.below hB9).swap
      have HP10 := Lib.hid ((HP9.out.setRowBlk #[.slice A n c, .int .i64 (s6.at_ : Int), .int .i64 s6.no]).drop2)
      have HP11 := Lib.hid ((HP10.out.nilRow Kd.string 9).down2)
      clear hB9
      obtain ⟨rm, hrm⟩ : ∃ rm : Nat, rm = (min mm 10).toNat := ⟨_, rfl⟩
      have HRM := Lib.hid hrm
      have HR3 := Lib.hid (show (rm : Int) = mm ∨ (rm : Int) = 10 by omega)
      have hrm1 : (rm : Int) ≤ mm := by omega
      have hrm2 : (rm : Int) ≤ 10 := by omega
      clear hrm
      go_wp2_with ((with_reducible refine gate_store (t := 102) (p := 4) (v := .tmp 88) rfl ?_); refine wpList_store_row rfl 102 (.tmp 4) (.tmp 88) rfl (w.heap.size + 1) #[.slice A n c, .int .i64 (s6.at_ : Int), .int .i64 s6.no] rfl rfl 102 #[.slice A n c, .int .i64 (s5.at_ : Int), .int .i64 s5.no] HP9.out.blk0 info_reader rfl (by simp [Value.oneCell']) ?_; generalize (w9).setRow (w.heap.size + 1) #[.slice A n c, .int .i64 (s6.at_ : Int), .int .i64 s6.no] = W10 at *)
      generalize Value.agg #[.int .i64 n0, .int .i64 n1, .int .i64 n2, .string t0, .int .i64 0, .int .i64 0, .int .i64 0, .int .i64 0, .int .i64 0, .string ⟨#[]⟩, .bool false, .string t2, .string t3, .string t4, .string t5, .slice none 0 0, .int .i64 (n3 - 1), .int .i64 n4] = vC0
      generalize Value.agg #[.int .i64 n5, .int .i64 n6, .int .i64 n7, .int .i64 n8, .int .i64 n9, .string t1, .bool fb] = vA0
      generalize Value.pointer (some ⟨W1.heap.size, 1, none⟩) = pa1
      generalize Value.pointer (some ⟨W1.heap.size, 2, none⟩) = pa2
      generalize Value.pointer (some ⟨W1.heap.size, 3, none⟩) = pa3
      generalize Value.pointer (some ⟨W1.heap.size, 4, none⟩) = pa4
      generalize Value.pointer (some ⟨W1.heap.size, 5, none⟩) = pa5
      generalize Value.pointer (some ⟨W1.heap.size, 6, none⟩) = pa6
      generalize Value.pointer (some ⟨W1.heap.size, 7, none⟩) = pa7
      generalize Value.pointer (some ⟨W1.heap.size, 8, none⟩) = pa8
      generalize Value.pointer (some ⟨W1.heap.size, 9, none⟩) = pa9
      generalize Value.pointer (some ⟨W1.heap.size, 10, none⟩) = pa10
      generalize Value.pointer (some ⟨wA.heap.size, 1, none⟩) = pb1
      generalize Value.pointer (some ⟨wA.heap.size, 2, none⟩) = pb2
      generalize Value.pointer (some ⟨wA.heap.size, 3, none⟩) = pb3
      generalize Value.pointer (some ⟨wA.heap.size, 4, none⟩) = pb4
      generalize Value.pointer (some ⟨wA.heap.size, 5, none⟩) = pb5
      as_aux_lemma =>
      go_loopw [15] (fun i wr => ∃ (j : Nat) (s1 : Rs) (l1 : List ByteArray) (v : Value), i = .int .i64 j ∧ j ≤ rm ∧ s1.at_ ≤ n ∧ Hid ((s1, l1) = rsMany (rsText bs 256) j s6) ∧ Hp w wr [ABlk (w.heap.size + 1) (.cells #[.slice A n c, .int .i64 (s1.at_ : Int), .int .i64 s1.no] 102 (0, 0)), ABlk wB.heap.size (.cells (CC v) 37 (0, 0)), ARow Kd.string 9 v l1, ABlk W1.heap.size (.cells ar 103 (0, 0)), ABlk w.heap.size (.cells z18 37 (0, 0))]) (fun i _ => rm - (intOf i).toNat)
      case atStart => exact ⟨0, s6, [], .slice none 0 0, rfl, Nat.zero_le _, hat6, Lib.hid rfl, HP11.out⟩
      case round =>
        obtain ⟨j, s1, l1, v, rfl, hj, hat2, hM3, hQ⟩ := hrel
        have HQ := Lib.hid hQ
        have hl1 : l1.length = j := by
          have h := rsMany_len (rsText bs 256) j s6
          rw [← hM3.out] at h
          exact h
        have HL1 := Lib.hid hl1
        obtain ⟨x0, x1, x2, xf⟩ := blk3c (by exact hQ.blk0)
        clear hQ hl1
        by_cases hjr : j < rm
        case pos =>
          have i1 : (j : Int) < mm := by omega
          have i2 : (j : Int) < 10 := by omega
          have HSUC := Lib.hid (rsMany_succ (rsText bs 256) j s6)
          rw [← hM3.out] at HSUC
          have hnum := reftext_any (HA.out.below HQ.out.belowW) hn HB.out s1 hat2
          have hat3 := rsText_at HB.out (s := s1) (by rw [← HN.out]; exact hat2)
          rw [← HN.out] at hat3
          obtain ⟨⟨s2, x⟩, hr⟩ : ∃ r, r = rsText bs 256 s1 := ⟨_, rfl⟩
          rw [← hr] at hnum hat3
          unfold rrCells at hnum
          have HNUM := Lib.hid hnum
          have HX2 := Lib.hid hr
          clear hr hnum
          go_wp2_with (first | (go_at_call 55; refine Calls.mono HNUM.out ?_; rintro e w3 ⟨rfl, hB⟩; have HP3 := Lib.hid (HQ.out.below hB); have HA3 := Lib.hid (HP3.out.alloc (.cells #[.slice none 0 0, .int .i64 0, .int .i64 0] 102)); have HS3 := Lib.hid (HA3.out.setRowBlk #[.slice A n c, .int .i64 (s2.at_ : Int), .int .i64 s2.no]); clear hB) | ((with_reducible refine gate_store (t := 102) (p := 16) (v := .tmp 102) rfl ?_); refine wpList_store_row rfl 102 (.tmp 16) (.tmp 102) rfl w3.heap.size #[.slice A n c, .int .i64 (s2.at_ : Int), .int .i64 s2.no] rfl rfl 102 #[.slice none 0 0, .int .i64 0, .int .i64 0] HA3.out.blk0 info_reader rfl (by simp [Value.oneCell']) ?_; generalize (w3.alloc (.cells #[.slice none 0 0, .int .i64 0, .int .i64 0] 102)).setRow w3.heap.size #[.slice A n c, .int .i64 (s2.at_ : Int), .int .i64 s2.no] = W4 at *; obtain ⟨g0, g1, g2, gf⟩ := blk3c (by exact HS3.out.blk0); have HR4 := Lib.hid (HS3.out.swap.setRowBlk #[.slice A n c, .int .i64 (s2.at_ : Int), .int .i64 s2.no])) | ((with_reducible refine gate_store (t := 102) (p := 4) (v := .tmp 104) rfl ?_); refine wpList_store_row rfl 102 (.tmp 4) (.tmp 104) rfl (w.heap.size + 1) #[.slice A n c, .int .i64 (s2.at_ : Int), .int .i64 s2.no] rfl rfl 102 #[.slice A n c, .int .i64 (s1.at_ : Int), .int .i64 s1.no] HS3.out.blk1 info_reader rfl (by simp [Value.oneCell']) ?_; generalize (W4).setRow (w.heap.size + 1) #[.slice A n c, .int .i64 (s2.at_ : Int), .int .i64 s2.no] = W5 at *; clear g0 g1 g2 gf; have HR5 := Lib.hid HR4.out.drop1; have c15 : W5.cell? ⟨wB.heap.size, 15, none⟩ = some v := (by have h := HR5.out.blk1; rw [HCC.out] at h; exact blk_cell h 15); obtain ⟨okr, hR1, hR2, hR3⟩ := HR5.out.up2.appended; have HR1_ := Lib.hid hR1; have HR2_ := Lib.hid hR2; have HR3_ := Lib.hid hR3; clear hR1 hR2 hR3) | (at_builtin; refine Kd.R_append Kd.string (w0 := W5) 0 rfl (.tmp 106) (.tmp 108) 24 9 (.string ⟨#[]⟩) 16 rfl Tryd.underlying24 info_str rfl (by decide) (by omega) v l1 x [.string x] okr (fun _ => False) rfl rfl rfl (fun _ hk => hk.elim) HR2_.out HR1_.out (Below.refl _ _) (Nat.zero_le _) (by rw [HL1.out]; omega) ?_; intro v6 w6 hR6 hB6 hg6 _; obtain ⟨A6, d6, hv6⟩ := Kd.R_slice hR6; generalize (l1 ++ [x]).length = n6' at hv6; subst hv6; have HP6 := Lib.hid (HR3_.out _ _ _ hR6 hg6); have c15 : w6.cell? ⟨wB.heap.size, 15, none⟩ = some v := (by have h := HP6.out.blk2; rw [HCC.out] at h; exact blk_cell h 15); have f15 := blk_frozen HP6.out.blk2 15; have HPB := Lib.hid (HP6.out.up2.setBlk 15 (.slice A6 n6' d6)); rw [show (CC v).setIfInBounds 15 (.slice A6 n6' d6) = CC (.slice A6 n6' d6) by rw [HCC.out, HCC.out]; rfl] at HPB; clear hR6 hB6 hg6))
          refine ⟨⟨j + 1, s2, l1 ++ [x], .slice A6 n6' d6, by simp, by omega, hat3, Lib.hid ?_, HPB.out.up2⟩, ?_⟩
          · rw [HSUC.out, ← HX2.out]
          · simp [intOf]
            omega
        case neg =>
        have hj' : j = rm := by omega
        subst hj'
        obtain ⟨s7, rfl⟩ : ∃ s7, s7 = s1 := ⟨s1, rfl⟩
        obtain ⟨l5, rfl⟩ : ∃ l5, l5 = l1 := ⟨l1, rfl⟩
        obtain ⟨cc, hcc⟩ : ∃ cc, cc = Cm.of [n0, n1, n2, n3, n4, n5, n6, n7, n8, n9] na [t0, t1, t2, t3, t4, t5] l5 := ⟨_, rfl⟩
        have hcells : ∀ v k, cc.cells v k = #[.int .i64 n0, .int .i64 n1, .int .i64 n2, .string t0, .int .i64 n5, .int .i64 n6, .int .i64 n7, .int .i64 n8, .int .i64 n9, .string t1, .bool fb, .string t2, .string t3, .string t4, .string t5, v, .int .i64 k, .int .i64 n4] := fun v k => by rw [hcc, HFB.out]; rfl
        have hccn : cc.n = n3 - 1 := by rw [hcc]; rfl
        have hccb : cc.bodies = l5 := by rw [hcc]; rfl
        have he : rc2 bs = (s0, na) ∧ rc4 bs = (s6, mm) ∧ rc5 bs = (s7, l5) ∧ rcCmd bs = cc := by
          have h11 := rsMany_succ (rsNum bs) 10 ⟨0, 0⟩
          rw [← HM1.out] at h11
          have h12 : s0 = (rsNum bs (rc1 bs).1).1 := congrArg Prod.fst h11
          have h13 : [n0, n1, n2, n3, n4, n5, n6, n7, n8, n9] ++ [na] = (rc1 bs).2 ++ [(rsNum bs (rc1 bs).1).2] := congrArg Prod.snd h11
          obtain ⟨h14, h15⟩ := List.append_inj' h13 rfl
          have h15 : na = (rsNum bs (rc1 bs).1).2 := List.head_eq_of_cons_eq h15
          have e2 : rc2 bs = (s0, na) := by unfold rc2; rw [h12, h15]
          have e3 : rc3 bs = (s5, [t0, t1, t2, t3, t4, t5]) := by unfold rc3; rw [e2]; exact HM2.out.symm
          have e4 : rc4 bs = (s6, mm) := by unfold rc4; rw [e3]; exact HX.out.symm
          have e5 : rc5 bs = (s7, l5) := by unfold rc5; rw [e4]; dsimp only; rw [← HRM.out]; exact hM3.out.symm
          exact ⟨e2, e4, e5, by unfold rcCmd; rw [e2, e3, e5, ← h14, hcc]⟩
        have hread := fun h => read_ref HB.out h
        have HBAD := Lib.hid (readCmd_bad (bs := bs))
        have HNO := Lib.hid (readCmd_no (bs := bs))
        have HYES := Lib.hid (readCmd_yes (bs := bs))
        rw [he.1, he.2.1, he.2.2.1, he.2.2.2] at hread
        rw [← HRR.out] at HBAD HNO HYES
        rw [he.2.2.1, he.2.2.2] at HNO HYES
        rw [he.2.2.1] at HBAD
        dsimp only at hread HBAD HNO HYES
        have HREAD := Lib.hid hread
        have HCE := Lib.hid hcells
        have hdn := fun W : World => refdone_any (A := A) (c := c) (bs := bs) (w := W) HN.out s7
        unfold rrCells at hdn
        obtain ⟨no, hno⟩ : ∃ no, no = rsDone bs s7 := ⟨_, rfl⟩
        rw [← hno] at HBAD HNO HYES HREAD hdn
        have HDN := Lib.hid hdn
        have HCCN := Lib.hid hccn
        have HCCB := Lib.hid hccb
        clear he hread hdn hno hcells hcc hccn hccb
        obtain ⟨A6, d6, hv6⟩ := Kd.R_slice HQ.out.up2.head
        rw [HL1.out] at hv6
        subst hv6
        go_upto_region 20 with (fail)
        go_cut [96] (fun b wx => b = .bool false ∧ wx = wr)
        case first =>
          have hcase : ((j : Int) < mm ∧ ¬ (j : Int) < 10) ∨ ¬ (j : Int) < mm := by have := HR3.out; omega
          rcases hcase with ⟨i1, i2⟩ | i1
          all_goals
            go_wp2_with fail
            go_meet
            case rel => exact ⟨rfl, rfl⟩
        case rest =>
        obtain ⟨rfl, rfl⟩ := hcut
        obtain ⟨wq, rfl⟩ : ∃ z, z = wc := ⟨wc, rfl⟩
        as_aux_lemma =>
        go_wp2_with fail
        refine Calls.mono (HDN.out _) ?_
        rintro e w30 ⟨rfl, hB30⟩
        have HP30 := Lib.hid (HQ.out.below hB30)
        clear x0 x1 x2 xf hB30
        obtain ⟨x0, x1, x2, xf⟩ := blk3c (by exact HP30.out.blk0)
        have d10 : w30.cell? ⟨W1.heap.size, 10, none⟩ = some (.int .i64 na) := by have h := HP30.out.blk3; rw [HAR.out] at h; exact blk_cell h 10
        by_cases h0 : no = 0
        case neg =>
          have HE := Lib.hid (HBAD.out h0)
          have hne : (no != 0) = true := by simpa using h0
          clear h0 d10
          go_wp2_with fail
          refine Calls.mono (HDN.out _) ?_
          rintro e w31 ⟨rfl, hB31⟩
          have HP31 := Lib.hid (HP30.out.below hB31)
          clear hB31 x0 x1 x2 xf
          go_wp2_with ((with_reducible refine gate_store (t := 37) (p := 2) (v := .tmp 114) rfl ?_); refine wpList_store_row rfl 37 (.tmp 2) (.tmp 114) rfl w.heap.size #[.int .i64 0, .int .i64 0, .int .i64 0, .string ⟨#[]⟩, .int .i64 0, .int .i64 0, .int .i64 0, .int .i64 0, .int .i64 0, .string ⟨#[]⟩, .bool false, .string ⟨#[]⟩, .string ⟨#[]⟩, .string ⟨#[]⟩, .string ⟨#[]⟩, .slice none 0 0, .int .i64 0, .int .i64 0] rfl rfl 37 z18 HP31.out.upFour.blk0 rcmd_info (by rw [HZS.out]; rfl) (by simp [Value.oneCell']) ?_)
          have HPZ := Lib.hid (HP31.out.upFour.setRowBlk #[.int .i64 0, .int .i64 0, .int .i64 0, .string ⟨#[]⟩, .int .i64 0, .int .i64 0, .int .i64 0, .int .i64 0, .int .i64 0, .string ⟨#[]⟩, .bool false, .string ⟨#[]⟩, .string ⟨#[]⟩, .string ⟨#[]⟩, .string ⟨#[]⟩, .slice none 0 0, .int .i64 0, .int .i64 0])
          refine bodyPost_ret (results_cell_slot rfl _ _ w.heap.size 37 #[.int .i64 0, .int .i64 0, .int .i64 0, .string ⟨#[]⟩, .int .i64 0, .int .i64 0, .int .i64 0, .int .i64 0, .int .i64 0, .string ⟨#[]⟩, .bool false, .string ⟨#[]⟩, .string ⟨#[]⟩, .string ⟨#[]⟩, .string ⟨#[]⟩, .slice none 0 0, .int .i64 0, .int .i64 0] (0, 0) _ rfl HPZ.out.blk0 Tryd.underlying37 rfl rcmd_info _ rfl) rfl ?_
          rw [HE.out]
          exact ⟨none, 0, 0, rfl, Kd.C_nil _ _, HPZ.out.belowW⟩
        case pos =>
        have hne : (no != 0) = false := by simpa using h0
        have HRE := Lib.hid (HREAD.out h0)
        have H0 := Lib.hid h0
        clear h0
        by_cases hna : 1 < na
        case pos =>
          have HE := Lib.hid (HNO.out H0.out (fun h => by have := (HRE.out.1 h).1; omega))
          go_wp2_with ((with_reducible refine gate_store (t := 37) (p := 2) (v := .tmp 129) rfl ?_); refine wpList_store_row rfl 37 (.tmp 2) (.tmp 129) rfl w.heap.size #[.int .i64 0, .int .i64 0, .int .i64 0, .string ⟨#[]⟩, .int .i64 0, .int .i64 0, .int .i64 0, .int .i64 0, .int .i64 0, .string ⟨#[]⟩, .bool false, .string ⟨#[]⟩, .string ⟨#[]⟩, .string ⟨#[]⟩, .string ⟨#[]⟩, .slice none 0 0, .int .i64 0, .int .i64 0] rfl rfl 37 z18 HP30.out.upFour.blk0 rcmd_info (by rw [HZS.out]; rfl) (by simp [Value.oneCell']) ?_)
          have HPZ := Lib.hid (HP30.out.upFour.setRowBlk #[.int .i64 0, .int .i64 0, .int .i64 0, .string ⟨#[]⟩, .int .i64 0, .int .i64 0, .int .i64 0, .int .i64 0, .int .i64 0, .string ⟨#[]⟩, .bool false, .string ⟨#[]⟩, .string ⟨#[]⟩, .string ⟨#[]⟩, .string ⟨#[]⟩, .slice none 0 0, .int .i64 0, .int .i64 0])
          refine bodyPost_ret (results_cell_slot rfl _ _ w.heap.size 37 #[.int .i64 0, .int .i64 0, .int .i64 0, .string ⟨#[]⟩, .int .i64 0, .int .i64 0, .int .i64 0, .int .i64 0, .int .i64 0, .string ⟨#[]⟩, .bool false, .string ⟨#[]⟩, .string ⟨#[]⟩, .string ⟨#[]⟩, .string ⟨#[]⟩, .slice none 0 0, .int .i64 0, .int .i64 0] (0, 0) _ rfl HPZ.out.blk0 Tryd.underlying37 rfl rcmd_info _ rfl) rfl ?_
          rw [HE.out]
          exact ⟨none, 0, 0, rfl, Kd.C_nil _ _, HPZ.out.belowW⟩
        case neg =>
        by_cases hm10 : 10 < mm
        case pos =>
          have HE := Lib.hid (HNO.out H0.out (fun h => by have := (HRE.out.1 h).2.1; omega))
          go_wp2_with ((with_reducible refine gate_store (t := 37) (p := 2) (v := .tmp 129) rfl ?_); refine wpList_store_row rfl 37 (.tmp 2) (.tmp 129) rfl w.heap.size #[.int .i64 0, .int .i64 0, .int .i64 0, .string ⟨#[]⟩, .int .i64 0, .int .i64 0, .int .i64 0, .int .i64 0, .int .i64 0, .string ⟨#[]⟩, .bool false, .string ⟨#[]⟩, .string ⟨#[]⟩, .string ⟨#[]⟩, .string ⟨#[]⟩, .slice none 0 0, .int .i64 0, .int .i64 0] rfl rfl 37 z18 HP30.out.upFour.blk0 rcmd_info (by rw [HZS.out]; rfl) (by simp [Value.oneCell']) ?_)
          have HPZ := Lib.hid (HP30.out.upFour.setRowBlk #[.int .i64 0, .int .i64 0, .int .i64 0, .string ⟨#[]⟩, .int .i64 0, .int .i64 0, .int .i64 0, .int .i64 0, .int .i64 0, .string ⟨#[]⟩, .bool false, .string ⟨#[]⟩, .string ⟨#[]⟩, .string ⟨#[]⟩, .string ⟨#[]⟩, .slice none 0 0, .int .i64 0, .int .i64 0])
          refine bodyPost_ret (results_cell_slot rfl _ _ w.heap.size 37 #[.int .i64 0, .int .i64 0, .int .i64 0, .string ⟨#[]⟩, .int .i64 0, .int .i64 0, .int .i64 0, .int .i64 0, .int .i64 0, .string ⟨#[]⟩, .bool false, .string ⟨#[]⟩, .string ⟨#[]⟩, .string ⟨#[]⟩, .string ⟨#[]⟩, .slice none 0 0, .int .i64 0, .int .i64 0] (0, 0) _ rfl HPZ.out.blk0 Tryd.underlying37 rfl rcmd_info _ rfl) rfl ?_
          rw [HE.out]
          exact ⟨none, 0, 0, rfl, Kd.C_nil _ _, HPZ.out.belowW⟩
        case neg =>
        have hrd := (Kd.R_reads' HP30.out.up2.head).2.2
        rw [HL1.out] at hrd
        have HCL := Lib.hid hrd
        have hrr := refRight_any cc A6 j d6 w30 (by rw [HCCB.out]; exact hrd)
        rw [HCCN.out, HCE.out] at hrr
        obtain ⟨rt, hrt⟩ : ∃ rt, rt = cmRight cc := ⟨_, rfl⟩
        rw [← hrt] at hrr
        have HRT := Lib.hid hrt
        have HRI := Lib.hid hrr
        clear hrd hrr hrt
        have hcm : w30.heap[wB.heap.size]? = some (.cells #[.int .i64 n0, .int .i64 n1, .int .i64 n2, .string t0, .int .i64 n5, .int .i64 n6, .int .i64 n7, .int .i64 n8, .int .i64 n9, .string t1, .bool fb, .string t2, .string t3, .string t4, .string t5, .slice A6 j d6, .int .i64 (n3 - 1), .int .i64 n4] 37 (0, 0)) := by have h := HP30.out.blk1; rw [HCC.out] at h; exact h
        have g0 : w30.cell? ⟨wB.heap.size, 0, none⟩ = some (.int .i64 n0) := blk_cell hcm 0
        have g1 : w30.cell? ⟨wB.heap.size, 1, none⟩ = some (.int .i64 n1) := blk_cell hcm 1
        have g2 : w30.cell? ⟨wB.heap.size, 2, none⟩ = some (.int .i64 n2) := blk_cell hcm 2
        have g3 : w30.cell? ⟨wB.heap.size, 3, none⟩ = some (.string t0) := blk_cell hcm 3
        have g4 : w30.cell? ⟨wB.heap.size, 4, none⟩ = some (.int .i64 n5) := blk_cell hcm 4
        have g5 : w30.cell? ⟨wB.heap.size, 5, none⟩ = some (.int .i64 n6) := blk_cell hcm 5
        have g6 : w30.cell? ⟨wB.heap.size, 6, none⟩ = some (.int .i64 n7) := blk_cell hcm 6
        have g7 : w30.cell? ⟨wB.heap.size, 7, none⟩ = some (.int .i64 n8) := blk_cell hcm 7
        have g8 : w30.cell? ⟨wB.heap.size, 8, none⟩ = some (.int .i64 n9) := blk_cell hcm 8
        have g9 : w30.cell? ⟨wB.heap.size, 9, none⟩ = some (.string t1) := blk_cell hcm 9
        have g10 : w30.cell? ⟨wB.heap.size, 10, none⟩ = some (.bool fb) := blk_cell hcm 10
        have g11 : w30.cell? ⟨wB.heap.size, 11, none⟩ = some (.string t2) := blk_cell hcm 11
        have g12 : w30.cell? ⟨wB.heap.size, 12, none⟩ = some (.string t3) := blk_cell hcm 12
        have g13 : w30.cell? ⟨wB.heap.size, 13, none⟩ = some (.string t4) := blk_cell hcm 13
        have g14 : w30.cell? ⟨wB.heap.size, 14, none⟩ = some (.string t5) := blk_cell hcm 14
        have g15 : w30.cell? ⟨wB.heap.size, 15, none⟩ = some (.slice A6 j d6) := blk_cell hcm 15
        have g16 : w30.cell? ⟨wB.heap.size, 16, none⟩ = some (.int .i64 (n3 - 1)) := blk_cell hcm 16
        have g17 : w30.cell? ⟨wB.heap.size, 17, none⟩ = some (.int .i64 n4) := blk_cell hcm 17
        go_wp2_with fail
        clear hcm g0 g1 g2 g3 g4 g5 g6 g7 g8 g9 g10 g11 g12 g13 g14 g15 g16 g17
        refine Calls.mono HRI.out ?_
        rintro e w32 ⟨rfl, hB32⟩
        have HP32 := Lib.hid (HP30.out.below hB32)
        have HCL2 := Lib.hid (Kd.C_below HCL.out hB32)
        clear x0 x1 x2 xf hB32 d10
        cases rt
        case false =>
          have HE := Lib.hid (HNO.out H0.out (fun h => absurd (HRT.out.trans h.1) (by decide)))
          go_wp2_with ((with_reducible refine gate_store (t := 37) (p := 2) (v := .tmp 129) rfl ?_); refine wpList_store_row rfl 37 (.tmp 2) (.tmp 129) rfl w.heap.size #[.int .i64 0, .int .i64 0, .int .i64 0, .string ⟨#[]⟩, .int .i64 0, .int .i64 0, .int .i64 0, .int .i64 0, .int .i64 0, .string ⟨#[]⟩, .bool false, .string ⟨#[]⟩, .string ⟨#[]⟩, .string ⟨#[]⟩, .string ⟨#[]⟩, .slice none 0 0, .int .i64 0, .int .i64 0] rfl rfl 37 z18 HP32.out.upFour.blk0 rcmd_info (by rw [HZS.out]; rfl) (by simp [Value.oneCell']) ?_)
          have HPZ := Lib.hid (HP32.out.upFour.setRowBlk #[.int .i64 0, .int .i64 0, .int .i64 0, .string ⟨#[]⟩, .int .i64 0, .int .i64 0, .int .i64 0, .int .i64 0, .int .i64 0, .string ⟨#[]⟩, .bool false, .string ⟨#[]⟩, .string ⟨#[]⟩, .string ⟨#[]⟩, .string ⟨#[]⟩, .slice none 0 0, .int .i64 0, .int .i64 0])
          refine bodyPost_ret (results_cell_slot rfl _ _ w.heap.size 37 #[.int .i64 0, .int .i64 0, .int .i64 0, .string ⟨#[]⟩, .int .i64 0, .int .i64 0, .int .i64 0, .int .i64 0, .int .i64 0, .string ⟨#[]⟩, .bool false, .string ⟨#[]⟩, .string ⟨#[]⟩, .string ⟨#[]⟩, .string ⟨#[]⟩, .slice none 0 0, .int .i64 0, .int .i64 0] (0, 0) _ rfl HPZ.out.blk0 Tryd.underlying37 rfl rcmd_info _ rfl) rfl ?_
          rw [HE.out]
          exact ⟨none, 0, 0, rfl, Kd.C_nil _ _, HPZ.out.belowW⟩
        case true =>
          have hnm : na ≤ 1 ∧ mm ≤ 10 := by omega
          have HE := Lib.hid (HYES.out H0.out HRT.out.symm (HRE.out.2 ⟨hnm.1, hnm.2, HRT.out.symm⟩).2)
          have HB3 := Lib.hid HP32.out.upFour.blk0
          go_wp2_with (first | ((with_reducible refine gate_dst (N := 130) rfl ?_); refine wpList_load_row rfl 37 (.tmp 13) rfl wB.heap.size rfl 37 #[.int .i64 n0, .int .i64 n1, .int .i64 n2, .string t0, .int .i64 n5, .int .i64 n6, .int .i64 n7, .int .i64 n8, .int .i64 n9, .string t1, .bool fb, .string t2, .string t3, .string t4, .string t5, .slice A6 j d6, .int .i64 (n3 - 1), .int .i64 n4] (0, 0) _ (by have h := HP32.out.blk1; rw [HCC.out] at h; exact h) Tryd.underlying37 rfl rcmd_info ?_) | ((with_reducible refine gate_store (t := 37) (p := 2) (v := .tmp 130) rfl ?_); refine wpList_store_row rfl 37 (.tmp 2) (.tmp 130) rfl w.heap.size #[.int .i64 n0, .int .i64 n1, .int .i64 n2, .string t0, .int .i64 n5, .int .i64 n6, .int .i64 n7, .int .i64 n8, .int .i64 n9, .string t1, .bool fb, .string t2, .string t3, .string t4, .string t5, .slice A6 j d6, .int .i64 (n3 - 1), .int .i64 n4] rfl rfl 37 z18 HB3.out rcmd_info (by rw [HZS.out]; rfl) (by simp [Value.oneCell']) ?_))
          have HPZ := Lib.hid (HP32.out.upFour.setRowBlk #[.int .i64 n0, .int .i64 n1, .int .i64 n2, .string t0, .int .i64 n5, .int .i64 n6, .int .i64 n7, .int .i64 n8, .int .i64 n9, .string t1, .bool fb, .string t2, .string t3, .string t4, .string t5, .slice A6 j d6, .int .i64 (n3 - 1), .int .i64 n4])
          have hrz := (Kd.R_reads' HPZ.out.up3.head).2.2
          rw [HL1.out] at hrz
          refine bodyPost_ret (results_cell_slot rfl _ _ w.heap.size 37 #[.int .i64 n0, .int .i64 n1, .int .i64 n2, .string t0, .int .i64 n5, .int .i64 n6, .int .i64 n7, .int .i64 n8, .int .i64 n9, .string t1, .bool fb, .string t2, .string t3, .string t4, .string t5, .slice A6 j d6, .int .i64 (n3 - 1), .int .i64 n4] (0, 0) _ rfl HPZ.out.blk0 Tryd.underlying37 rfl rcmd_info _ rfl) rfl ?_
          rw [HE.out]
          refine ⟨A6, j, d6, ?_, ?_, HPZ.out.belowW⟩
          · dsimp only
            rw [HCCN.out, HCE.out]
            rfl
          · dsimp only
            rw [HCCB.out]
            exact hrz
end Go.Proofs.YtidjapjidihbpaaDoor
