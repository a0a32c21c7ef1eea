/- The statement FrameBits of layer 2: every call of it tells true and leaves what was there as it was. -/
import Derived.Test.YtafkcjegahnolaaFrAwake
import Derived.Test.YtafkcjegahnolaaFrInj
import Derived.Test.YtafkcjegahnolaaFrRefDef
import Derived.Test.YtafkcjegahnolaaWGuard
namespace Go.Proofs.Ytafkcjegahnolaa
open Go.RowKit Go.Proofs.YtafkcjegahnolaaW.PrintWords

/-- An element of a row of the call's own is set. -/
theorem set_put {e base g cap n : Nat} {ok : Nat → Prop} {L : List Int} {w : World} (h : (Kd.int .u8).R e w base ok (.slice (some ⟨g, 0, none⟩) n cap) L) (hn : L.length = n) (j : Nat) (hj : j < n) (x : Int) (hx : L[j]? = some x) (y : Int) :
    w.cell? ⟨g, j, none⟩ = some (.int .u8 x) ∧ w.frozen? ⟨g, j, none⟩ = false ∧ (Kd.int .u8).R e (w.setCell ⟨g, j, none⟩ (.int .u8 y)) base ok (.slice (some ⟨g, 0, none⟩) n cap) (L.set j y) := by
  subst hn
  obtain ⟨h1, h2⟩ := Kd.R_cell 0 h (j : Int) (by omega) (by omega)
  have h3 : (Kd.int .u8).R e (w.setCell ⟨g, (j : Int).toNat, none⟩ (.int .u8 y)) base ok (.slice (some ⟨g, 0, none⟩) L.length cap) (L.set (j : Int).toNat y) := (Kd.R_put h (j : Int) y).1
  rw [Int.toNat_natCast] at h3
  exact ⟨by simpa [rdOf, hx] using h1, by simpa using h2, h3⟩

theorem set_split (xs : List Int) (k : Nat) (x y : Int) (h : xs[k]? = some x) : xs = xs.take k ++ [x] ++ xs.drop (k + 1) ∧ xs.set k y = xs.take k ++ [y] ++ xs.drop (k + 1) := by
  have hk : k < xs.length := (List.getElem?_eq_some_iff.1 h).1
  have hx : xs[k] = x := (List.getElem?_eq_some_iff.1 h).2
  constructor
  · conv => lhs; rw [← List.take_append_drop k xs]
    rw [List.drop_eq_getElem_cons hk, hx]
    simp
  · rw [List.set_eq_take_append_cons_drop, if_pos hk]
    simp
theorem BytesOk.set {xs : List Int} (h : BytesOk xs) (k : Nat) {y : Nat} (hy : y < 256) : BytesOk (xs.set k (y : Int)) := by
  intro z hz
  rcases List.mem_or_eq_of_mem_set hz with hz | rfl
  · exact h z hz
  · omega
theorem BytesOk.take {xs : List Int} (h : BytesOk xs) (k : Nat) : BytesOk (xs.take k) := fun y hy => h y (List.mem_of_mem_take hy)
theorem BytesOk.drop {xs : List Int} (h : BytesOk xs) (k : Nat) : BytesOk (xs.drop k) := fun y hy => h y (List.mem_of_mem_drop hy)
theorem set_sum_ne {xs : List Int} {k m y : Nat} (hx : BytesOk xs) (h : xs[k]? = some (m : Int)) (hy : y < 256) (hne : y ≠ m) : sumOf (xs.set k (y : Int)) ≠ sumOf xs := by
  intro e
  obtain ⟨h1, h2⟩ := set_split xs k m y h
  have hm := hx _ (List.mem_of_getElem? h)
  rw [h2] at e
  rw [show sumOf xs = sumOf (xs.take k ++ [(m : Int)] ++ xs.drop (k + 1)) by rw [← h1]] at e
  have := sum_apart (hx.take k) (u := [(y : Int)]) (v := [(m : Int)]) (by intro z hz; simp at hz; omega) (by intro z hz; simp at hz; omega) (hx.drop (k + 1)) rfl (by simp) e
  simp at this
  omega
theorem bit_turned (m q : Nat) (hm : m < 256) : ∃ y : Nat, bits .xor .u8 (m : Int) (2 ^ (q % 8) % 256) = (y : Int) ∧ y < 256 ∧ y ≠ m := by
  have h8 : 2 ^ (q % 8) < 256 := Nat.lt_of_le_of_lt (Nat.pow_le_pow_right (by omega) (by omega : q % 8 ≤ 7)) (by decide)
  have e : ((2 : Int) ^ (q % 8) % 256) = ((2 ^ (q % 8) : Nat) : Int) := by
    have : ((2 ^ (q % 8) : Nat) : Int) = (2 : Int) ^ (q % 8) := by simp
    rw [← this]
    generalize 2 ^ (q % 8) = z at *
    omega
  refine ⟨m ^^^ 2 ^ (q % 8), ?_, Nat.xor_lt_two_pow (n := 8) hm h8, ?_⟩
  · rw [e]
    exact u8_xor_nat m (2 ^ (q % 8)) hm h8
  · intro h
    have h2 : m ^^^ (m ^^^ 2 ^ (q % 8)) = m ^^^ m := by rw [h]
    rw [← Nat.xor_assoc, Nat.xor_self, Nat.zero_xor] at h2
    have := Nat.two_pow_pos (q % 8)
    omega

set_option maxHeartbeats 800000 in
set_option maxRecDepth 100000 in
theorem bits_any (A : Option Addr) (n cap : Nat) (xs : List Int) (at_ bit : Int) (w : World) (hC : (Kd.int .u8).C w A n xs) (hc : n ≤ cap) (ho : ∀ s ∈ xs, (Lit.int .u8 s).wf = true) (_ha : (Lit.int .i64 at_).wf = true) (hb : (Lit.int .u8 bit).wf = true) :
    Calls Try.prog 4 #[.slice A n cap, .int .i64 at_, .int .u8 bit] w fun e w' => e = .returned (.bool true) ∧ Below w.heap.size w w' := by
  have HN := Lib.hid (Kd.C_len hC)
  have HC := Lib.hid hC
  have hx := BytesOk.of_wf ho
  have hbit := bounds_u8 hb
  clear hC
  by_cases hbig : 600 < n
  · have hbi : (600 : Int) < n := by omega
    go_enter Try.func4, Try.ntmps4
    go_wp2_with (go_at_call 11; refine Calls.mono (awake_any _) ?_; rintro e w1 ⟨rfl, hB⟩)
    go_ret
    exact ⟨rfl, hB⟩
  · have hbi : ¬ (600 : Int) < n := by omega
    by_cases hat : 0 ≤ at_ ∧ at_ < n
    · obtain ⟨k, rfl⟩ := Int.eq_ofNat_of_zero_le hat.1
      obtain ⟨q, rfl⟩ := Int.eq_ofNat_of_zero_le hbit.1
      have hk1 : (0 : Int) ≤ k := hat.1
      have hk2 : (k : Int) < n := hat.2
      clear hat _ha hb
      have hk3 : ¬ (k : Int) < 0 := by omega
      have hk4 : ¬ (n : Int) ≤ k := by omega
      go_enter Try.func4, Try.ntmps4
      have hkx : k < xs.length := by have := HN.out; omega
      have hkx2 : (k : Int) < xs.length := by omega
      have hlx : xs.length ≤ 600 := by have := HN.out; omega
      obtain ⟨x, hxk⟩ : ∃ x, xs[k]? = some x := ⟨_, List.getElem?_eq_getElem (by omega)⟩
      obtain ⟨m, hm, rfl⟩ := BytesOk.at hx hxk
      obtain ⟨y, hy, hyl, hym⟩ := bit_turned m q hm
      have HNE := Lib.hid (set_sum_ne hx hxk hyl hym)
      have HX := Lib.hid hxk
      clear hxk hym
      go_wp2_with (first
        | (at_builtin; refine Kd.R_append_rows (Kd.int .u8) (w0 := w) w.heap.size rfl (.tmp 22) (.tmp 23) 22 5 (.int .u8 0) 1 rfl Try.underlying22 info_byte rfl (by decide) (by omega) (.slice (some ⟨w.heap.size, 0, none⟩) 0 0) [] xs A n cap (fun _ => True) (fun _ => False) rfl rfl (R_empty _ _ _ _ _ (Nat.le_refl _) trivial) (Kd.C_alloc HC.out _) (fun _ _ h => h) (fun _ h => h.elim) (fun _ _ => trivial) ((Below.refl _ w).alloc (Nat.le_refl _) _) (by simp) (by simp; omega) ?_; intro v2 w2 hR2 hB2 hgr hat2; clear hgr hat2
           rw [List.nil_append] at hR2
           obtain ⟨g, c2, rfl, _, hg1, hg2⟩ := R_at0 hR2 (by omega) (by decide)
           obtain ⟨hc1, hc2, hc3⟩ := set_put hR2 rfl k (by omega) m HX.out (y : Int)
           have HB2 := Lib.hid hB2
           have H2 := Lib.hid hR2
           have H3 := Lib.hid hc3
           clear hR2 hc3 hB2))
      have hok3 : BytesOk (xs.set k (y : Int)) := hx.set k hyl
      go_wp2_with fail
      refine Calls.mono (sum_hid (some ⟨g, 0, none⟩) xs.length c2 (xs.set k (y : Int)) _ (by simp) (Kd.R_reads' H3.out).2.2 hok3) ?_
      rintro e w3 ⟨s3, rfl, _, HS3, hB3⟩
      have HB3 := Lib.hid ((HB2.out.setCell hg1 _).trans (hB3.mono (by simpa using HB2.out.size)))
      clear hB3
      go_wp2_with fail
      refine Calls.mono (sum_hid A n cap xs w3 HN.out.symm (by rw [HN.out]; exact Kd.C_below HC.out HB3.out) hx) ?_
      rintro e w4 ⟨s4, rfl, _, HS4, hB4⟩
      have HB4 := Lib.hid (HB3.out.trans (hB4.mono HB3.out.size))
      have hne : s3 ≠ s4 := fun e => HNE.out (HS3.out.symm.trans (e.trans HS4.out))
      have hne1 : ((s3 : Int) != (s4 : Int)) = true := by simp; omega
      clear hne
      clear hB4
      go_wp2_with (first
        | (at_builtin; refine gate_guard (by rfl) ?_; refine Kd.R_append_rows (Kd.int .u8) (w0 := w) w.heap.size rfl (.tmp 40) (.tmp 41) 22 5 (.int .u8 0) 1 rfl Try.underlying22 info_byte rfl (by decide) (by omega) (.slice (some ⟨w4.heap.size, 0, none⟩) 0 0) [] xs A n cap (fun _ => True) (fun _ => False) rfl rfl (R_empty _ _ _ _ _ HB4.out.size trivial) (Kd.C_alloc (Kd.C_below HC.out HB4.out) _) (fun _ _ h => h) (fun _ h => h.elim) (fun _ _ => trivial) (HB4.out.alloc HB4.out.size _) (Nat.le_trans HB4.out.size (by simp)) (by simp; omega) ?_; intro v5 w5 hR5 hB5 hgr hat2; clear hgr hat2
           rw [List.nil_append] at hR5
           obtain ⟨A5, c5, rfl⟩ := Kd.R_slice hR5
           have HB5 := Lib.hid hB5
           have H5 := Lib.hid hR5
           clear hR5 hB5))
      refine Calls.mono (sum_hid A5 xs.length c5 xs w5 rfl (Kd.R_reads' H5.out).2.2 hx) ?_
      rintro e w6 ⟨s6, rfl, _, HS6, hB6⟩
      have HB6 := Lib.hid (HB5.out.trans (hB6.mono HB5.out.size))
      obtain rfl : s6 = s4 := HS6.out.trans HS4.out.symm
      clear hB6
      go_wp2_with fail
      refine Calls.mono (sum_hid A n cap xs w6 HN.out.symm (by rw [HN.out]; exact Kd.C_below HC.out HB6.out) hx) ?_
      rintro e w7 ⟨s7, rfl, _, HS7, hB7⟩
      have HB7 := Lib.hid (HB6.out.trans (hB7.mono HB6.out.size))
      obtain rfl : s7 = s6 := HS7.out.trans HS4.out.symm
      clear hB7
      go_wp2_with fail
      refine Calls.mono (awake_any _) ?_
      rintro e w8 ⟨rfl, hB8⟩
      have HB8 := Lib.hid (HB7.out.trans (hB8.mono HB7.out.size))
      clear hB8
      go_wp2_with fail
      go_ret
      exact ⟨rfl, HB8.out⟩
    · by_cases h0 : at_ < 0
      · go_enter Try.func4, Try.ntmps4
        go_wp2_with (go_at_call 11; refine Calls.mono (awake_any _) ?_; rintro e w1 ⟨rfl, hB⟩)
        go_ret
        exact ⟨rfl, hB⟩
      · have h1 : (n : Int) ≤ at_ := by omega
        go_enter Try.func4, Try.ntmps4
        go_wp2_with (go_at_call 11; refine Calls.mono (awake_any _) ?_; rintro e w1 ⟨rfl, hB⟩)
        go_ret
        exact ⟨rfl, hB⟩
end Go.Proofs.Ytafkcjegahnolaa
