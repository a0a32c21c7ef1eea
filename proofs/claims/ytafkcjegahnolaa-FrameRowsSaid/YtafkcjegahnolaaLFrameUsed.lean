/- The statement FrameUsed of layer 2: every call of it tells true and leaves what was there as it was. -/
import Derived.Test.YtafkcjegahnolaaFrAwake
import Derived.Test.YtafkcjegahnolaaFrAllW
namespace Go.Proofs.Ytafkcjegahnolaa
open Go.RowKit Go.Proofs.YtafkcjegahnolaaW.PrintWords

theorem next_split {b : List Int} (h : nextErr b = 0) : b = sealOf (nextBody b) ++ nextRest b ∧ (nextBody b).length ≤ 4096 := by
  obtain ⟨_, h2, h3, h4, h5⟩ := next_facts h
  refine ⟨?_, by omega⟩
  conv => lhs; rw [← List.take_append_drop (6 + headN b) b]
  rw [h5, h3]
theorem all_law (k : Nat) (b : List Int) (hk : b.length < k) :
    (allOf k b).2.1 ≤ b.length ∧ ((allOf k b).2.2 = 0 ↔ (allOf k b).2.1 = b.length) ∧ (∀ q, (allOf k b).2.1 < q → allOf q (b.take (allOf k b).2.1) = ((allOf k b).1, (allOf k b).2.1, 0)) ∧ nextErr (b.drop (allOf k b).2.1) ≠ 0 := by
  induction k generalizing b with
  | zero => omega
  | succ k ih =>
    by_cases hb : b = []
    · subst hb
      simp only [allOf, if_true, List.length_nil, List.take_nil, List.drop_nil]
      refine ⟨by omega, by simp, fun q hq => ?_, by decide⟩
      obtain ⟨q, rfl⟩ : ∃ p, q = p + 1 := ⟨q - 1, by omega⟩
      simp [allOf]
    · have hlen : 0 < b.length := List.length_pos_iff.2 hb
      by_cases hn : nextErr b = 0
      · obtain ⟨hs, hl⟩ := next_split hn
        obtain ⟨i1, i2, i3, i4⟩ := ih (nextRest b) (by
          have := congrArg List.length hs
          rw [List.length_append, sealOf_length] at this
          omega)
        have hlen2 := congrArg List.length hs
        rw [List.length_append, sealOf_length] at hlen2
        rw [allOf, if_neg hb, if_pos hn]
        generalize hbd : nextBody b = body at *
        generalize hrs : nextRest b = rst at *
        generalize hr : allOf k rst = r at *
        obtain ⟨l, used, e⟩ := r
        simp only at i1 i2 i3 i4 ⊢
        refine ⟨by omega, ⟨fun h => by have := i2.1 h; omega, fun h => i2.2 (by omega)⟩, fun q hq => ?_, ?_⟩
        · have ht : b.take (6 + body.length + used) = sealOf body ++ rst.take used := by
            rw [hs, List.take_append, List.take_of_length_le (by rw [sealOf_length]; omega), sealOf_length]
            congr 2
            omega
          obtain ⟨q, rfl⟩ : ∃ p, q = p + 1 := ⟨q - 1, by omega⟩
          obtain ⟨j1, j2, j3⟩ := seal_law (l := body) (r := rst.take used) hl
          have hne : sealOf body ++ rst.take used ≠ [] := fun e => by have := congrArg List.length e; rw [List.length_append, sealOf_length] at this; simp at this
          rw [ht, allOf, if_neg hne, if_pos j1, j2, j3, i3 q (by omega)]
        · have hd : b.drop (6 + body.length + used) = rst.drop used := by
            rw [hs, List.drop_append, List.drop_eq_nil_of_le (by rw [sealOf_length]; omega), sealOf_length, List.nil_append]
            congr 1
            omega
          rw [hd]
          exact i4
      · rw [allOf, if_neg hb, if_neg hn]
        refine ⟨Nat.zero_le _, ⟨fun h => absurd h hn, fun h => by simp only at h; omega⟩, fun q hq => ?_, by simpa using hn⟩
        obtain ⟨q, rfl⟩ : ∃ p, q = p + 1 := ⟨q - 1, by omega⟩
        simp [allOf]

theorem all_is (A : Option Addr) (n c : Nat) (xs : List Int) (w : World) (hn : xs.length = n) (hC : (Kd.int .u8).C w A n xs) (hc : n ≤ c) (hx : BytesOk xs) (hl : n ≤ 4000) {l : List (List Int)} {used : Nat} {err : Int} (h : allOf (n + 1) xs = (l, used, err)) :
    Calls Try.prog 18 #[.slice A n c] w fun e w' => ∃ A' c', e = .returned (.tuple #[.slice A' l.length c', .int .i64 (used : Nat), .int .i64 err]) ∧ (Kd.slice 5 (Kd.int .u8)).R 22 w' w.heap.size (fun _ => True) (.slice A' l.length c') l ∧ Below w.heap.size w w' := by
  refine Calls.mono (all_any A n c xs w hn hC hc hx hl) ?_
  rintro e w' ⟨v, l', u', e', rfl, h', hR, hB⟩
  rw [h] at h'
  have h1 : l' = l := (congrArg (fun x => x.1) h').symm
  have h2 : u' = used := (congrArg (fun x => x.2.1) h').symm
  have h3 : e' = err := (congrArg (fun x => x.2.2) h').symm
  subst h1 h2 h3
  obtain ⟨A', c', rfl⟩ := Kd.R_slice hR
  exact ⟨A', c', rfl, hR, hB⟩
theorem next_n (A : Option Addr) (n c : Nat) (xs : List Int) (w : World) (hn : xs.length = n) (hC : (Kd.int .u8).C w A n xs) (hc : n ≤ c) (hx : BytesOk xs) (hl47 : n ≤ 100000) :
    Calls Try.prog 15 #[.slice A n c] w fun e w' => NextAns w xs e w' := by
  subst hn
  exact next_any A c xs w hC hc hx hl47

set_option maxHeartbeats 1600000 in
set_option maxRecDepth 100000 in
theorem used_any (A : Option Addr) (n cap : Nat) (xs : List Int) (w : World) (hC : (Kd.int .u8).C w A n xs) (hc : n ≤ cap) (ho : ∀ s ∈ xs, (Lit.int .u8 s).wf = true) :
    Calls Try.prog 8 #[.slice A n cap] w fun e w' => e = .returned (.bool true) ∧ Below w.heap.size w w' := by
  have HN := Lib.hid (Kd.C_len hC)
  have HC := Lib.hid hC
  have hx := BytesOk.of_wf ho
  clear hC ho
  by_cases hbig : 600 < n
  · have hbi : (600 : Int) < n := by omega
    go_enter Try.func8, Try.ntmps8
    go_wp2_with (go_at_call 11; refine Calls.mono (awake_any _) ?_; rintro e w1 ⟨rfl, hB⟩)
    go_ret
    exact ⟨rfl, hB⟩
  · have hbi : ¬ (600 : Int) < n := by omega
    have hlaw := all_law (n + 1) xs (by rw [HN.out]; omega)
    go_enter Try.func8, Try.ntmps8
    have HLAW := Lib.hid hlaw
    clear hlaw
    go_wp2_with fail
    refine Calls.mono (all_any A n cap xs w HN.out HC.out hc hx (by omega)) ?_
    rintro e w1 ⟨v1, l, used, err, rfl, hall, hR1, hB1⟩
    obtain ⟨A1, c1, rfl⟩ := Kd.R_slice hR1
    have hlaw := HLAW.out
    rw [hall, HN.out] at hlaw
    obtain ⟨i1, i2, i3, i4⟩ := hlaw
    simp only at i1 i2 i3 i4
    have hu0 : ¬ (used : Int) < 0 := by omega
    have hu1 : ¬ (n : Int) < used := by omega
    have hbq : (decide (err = 0) != decide ((used : Int) = n)) = false := by
      by_cases h : err = 0
      · have := i2.1 h
        simp [h, this]
      · have h2 : ¬ used = n := fun e => h (i2.2 e)
        have h3 : ¬ (used : Int) = n := by omega
        simp [h, h3]
    have HI := Lib.hid i3
    have HI4 := Lib.hid i4
    have HB1 := Lib.hid hB1
    obtain ⟨i0, hi, _, hz1, _⟩ := info_parts info_byte
    obtain ⟨hrun, hCt⟩ := take_row (P := Try.prog) 22 5 Try.underlying22 hi used i1 hc HC.out
    have HCt := Lib.hid hCt
    obtain ⟨Ar, hrr, hCr⟩ := drop_row (P := Try.prog) 22 5 Try.underlying22 hi hz1 A cap used xs (by rw [HN.out]; exact i1) (by rw [HN.out]; exact hc) (by rw [HN.out]; exact HC.out)
    rw [HN.out] at hrr hCr
    have HCr := Lib.hid hCr
    have hcase : (err = 0 ∧ used = n) ∨ (¬ err = 0 ∧ ¬ (used : Int) = n) := by
      by_cases h : err = 0
      · exact Or.inl ⟨h, i2.1 h⟩
      · refine Or.inr ⟨h, fun e => h (i2.2 (by omega))⟩
    clear hall hR1 i3 i4 hB1 hCt hCr hi hz1 hbq i2
    have hct : (xs.take used).length = used := by rw [List.length_take, HN.out]; omega
    have hcd : (xs.drop used).length = n - used := by rw [List.length_drop, HN.out]
    have HCT := Lib.hid hct
    have HCD := Lib.hid hcd
    clear hct hcd
    have hx1 : BytesOk (xs.take used) := fun z hz => hx z (List.mem_of_mem_take hz)
    have hx2 : BytesOk (xs.drop used) := fun z hz => hx z (List.mem_of_mem_drop hz)
    have hul : used ≤ 600 := by omega
    have hx1 : BytesOk (xs.take used) := fun z hz => hx z (List.mem_of_mem_take hz)
    have hx2 : BytesOk (xs.drop used) := fun z hz => hx z (List.mem_of_mem_drop hz)
    have hul : used ≤ 600 := by omega
    rcases hcase with ⟨rfl, hun⟩ | ⟨he0, hun⟩
    · subst hun
      go_wp2_with fail
      refine Calls.mono (all_is A used cap (xs.take used) _ HCT.out (Kd.C_below HCt.out HB1.out) (by omega) hx1 (by omega) (HI.out (used + 1) (by omega))) ?_
      rintro e w2 ⟨A2, c2, rfl, hR2, hB2⟩
      have HB2 := Lib.hid (HB1.out.trans (hB2.mono HB1.out.size))
      clear hR2 hB2
      go_wp2_with fail
      refine Calls.mono (next_n _ _ _ (xs.drop used) _ (by have := HCD.out; omega) (by have := Kd.C_below HCr.out HB2.out; simpa using this) (by omega) hx2 (by omega)) ?_
      rintro e w3 ⟨A5, n5, c5, A6, n6, c6, rfl, hR5, hR6, hB5⟩
      have HB3 := Lib.hid (HB2.out.trans (hB5.mono HB2.out.size))
      have hne : ¬ nextErr (xs.drop used) = 0 := HI4.out
      generalize nextErr (xs.drop used) = ne at *
      have hneb : (ne != 0) = true := by simpa using hne
      clear hR5 hR6 hB5
      go_wp2_with (go_at_call 11; refine Calls.mono (awake_any _) ?_; rintro e w4 ⟨rfl, hB4⟩)
      go_ret
      exact ⟨rfl, HB3.out.trans (hB4.mono HB3.out.size)⟩
    · have heb : (err == 0) = false := by simpa using he0
      have hub : ((used : Int) == (n : Int)) = false := by simpa using hun
      have hnu : ¬ n < used := by omega
      go_wp2_with fail
      refine Calls.mono (all_is A used cap (xs.take used) _ HCT.out (Kd.C_below HCt.out HB1.out) (by omega) hx1 (by omega) (HI.out (used + 1) (by omega))) ?_
      rintro e w2 ⟨A2, c2, rfl, hR2, hB2⟩
      have HB2 := Lib.hid (HB1.out.trans (hB2.mono HB1.out.size))
      clear hR2 hB2
      go_wp2_with fail
      refine Calls.mono (next_n _ _ _ (xs.drop used) _ HCD.out (Kd.C_below HCr.out HB2.out) (by omega) hx2 (by omega)) ?_
      rintro e w3 ⟨A5, n5, c5, A6, n6, c6, rfl, hR5, hR6, hB5⟩
      have HB3 := Lib.hid (HB2.out.trans (hB5.mono HB2.out.size))
      have hne : ¬ nextErr (xs.drop used) = 0 := HI4.out
      generalize nextErr (xs.drop used) = ne at *
      have hneb : (ne != 0) = true := by simpa using hne
      clear hR5 hR6 hB5
      go_wp2_with (go_at_call 11; refine Calls.mono (awake_any _) ?_; rintro e w4 ⟨rfl, hB4⟩)
      go_ret
      exact ⟨rfl, HB3.out.trans (hB4.mono HB3.out.size)⟩
end Go.Proofs.Ytafkcjegahnolaa
