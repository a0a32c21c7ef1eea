/- slices.Equal and bytes.Equal of bytes, frame.Next by their contracts. -/
import Derived.Test.YtafkcjegahnolaaFrSeal
import Derived.Test.YtafkcjegahnolaaSlCloneByte
import Derived.Test.YtafkcjegahnolaaMid
import Derived.Test.YtafkcjegahnolaaPFrameReadsx1
import Derived.Lib.Bytes
import Derived.Deep.DeepCutAuto
import Derived.Deep.QuietTactic
import Derived.BigQuiet
import Derived.Deep.RegionHeld3
namespace Go.Proofs.Ytafkcjegahnolaa
open Go.RowKit Go.Proofs.YtafkcjegahnolaaW.PrintWords

theorem eq_loop (l0 l1 : List Int) (hl : l0.length = l1.length) (hm : l0.length ≤ 9223372036854775807) : ∀ m k i : Nat, i + m = l0.length → m < k → l0.take i = l1.take i →
    PFrameReads.slices_Equal_byte_byte.l0 k l0 l1 (l0.length : Int) (i : Int) = some (decide (l0 = l1)) := by
  intro m
  induction m with
  | zero =>
    intro k i hi hk ht
    obtain ⟨k, rfl⟩ : ∃ q, k = q + 1 := ⟨k - 1, by omega⟩
    rw [PFrameReads.slices_Equal_byte_byte.l0, if_neg (by omega)]
    have h1 : i = l0.length := by omega
    have : l0 = l1 := by
      rw [h1, List.take_length] at ht
      rw [hl, List.take_length] at ht
      exact ht
    simp [this]
  | succ m ih =>
    intro k i hi hk ht
    obtain ⟨k, rfl⟩ : ∃ q, k = q + 1 := ⟨k - 1, by omega⟩
    rw [PFrameReads.slices_Equal_byte_byte.l0, if_pos (by omega), if_pos (by omega), if_pos (by omega), if_pos (by omega)]
    have hw : wrap64 ((i : Int) + 1) = ((i + 1 : Nat) : Int) := by rw [IntWalk.wrap64_in _ (by omega)]; omega
    have h0 : l0[i]? = some (rd l0 i) := by simp [rd, List.getD_eq_getElem?_getD, (by omega : i < l0.length)]
    have h1 : l1[i]? = some (rd l1 i) := by simp [rd, List.getD_eq_getElem?_getD, (by omega : i < l1.length)]
    by_cases h : rd l0 i = rd l1 i
    · rw [if_pos h, hw]
      refine ih k (i + 1) (by omega) (by omega) ?_
      rw [List.take_add_one, List.take_add_one, ht, h0, h1, h]
    · rw [if_neg h]
      have : ¬ l0 = l1 := fun e => h (by rw [e])
      simp [this]
theorem equal_any (A0 : Option Addr) (c0 : Nat) (l0 : List Int) (A1 : Option Addr) (c1 : Nat) (l1 : List Int) (w : World) (h0 : (Kd.int .u8).C w A0 l0.length l0) (hc0 : l0.length ≤ c0) (h1 : (Kd.int .u8).C w A1 l1.length l1) (hc1 : l1.length ≤ c1) :
    Calls Try.prog 24 #[.slice A0 l0.length c0, .slice A1 l1.length c1] w fun e w' => e = .returned (.bool (decide (l0 = l1))) ∧ Drawn0 w w' := by
  refine PFrameReads.slices_Equal_byte_byte.calls (l0.length + 1) A0 c0 l0 A1 c1 l1 _ w h0 hc0 h1 hc1 ?_
  unfold PFrameReads.slices_Equal_byte_byte.f
  by_cases h : l0.length = l1.length
  · rw [if_pos (by omega)]
    exact eq_loop l0 l1 h h0.2.1 l0.length _ 0 (by omega) (by omega) rfl
  · rw [if_neg (by omega)]
    have : ¬ l0 = l1 := fun e => h (by rw [e])
    simp [this]
theorem bytesOf_inj {l m : List Int} (hl : BytesOk l) (hm : BytesOk m) (h1 : Lib.bytesOf l = Lib.bytesOf m) : l = m := by
  have hlen : l.length = m.length := by simpa [Lib.bytesOf] using congrArg List.length h1
  apply List.ext_getElem hlen
  intro i hi hj
  have h2 : (Lib.bytesOf l)[i]'(by simpa [Lib.bytesOf] using hi) = (Lib.bytesOf m)[i]'(by simpa [Lib.bytesOf] using hj) := by
    simp only [h1]
  simp only [Lib.bytesOf, List.getElem_map] at h2
  have a := hl _ (List.getElem_mem hi)
  have b := hm _ (List.getElem_mem hj)
  have h3 := congrArg UInt8.toNat h2
  simp only [UInt8.toNat_ofNat'] at h3
  omega
theorem bytesEqual_any (A0 : Option Addr) (c0 : Nat) (l0 : List Int) (A1 : Option Addr) (c1 : Nat) (l1 : List Int) (w : World) (h0 : (Kd.int .u8).C w A0 l0.length l0) (hc0 : l0.length ≤ c0) (h1 : (Kd.int .u8).C w A1 l1.length l1) (hc1 : l1.length ≤ c1) (hx0 : BytesOk l0) (hx1 : BytesOk l1) :
    Calls Try.prog 16 #[.slice A0 l0.length c0, .slice A1 l1.length c1] w fun e w' => e = .returned (.bool (decide (l0 = l1))) ∧ Drawn0 w w' := by
  refine PFrameReads.bytes_Equal.calls A0 c0 l0 A1 c1 l1 _ w h0 hc0 h1 hc1 ?_
  unfold PFrameReads.bytes_Equal.f
  congr 1
  rw [Bool.eq_iff_iff]
  simp only [beq_iff_eq, decide_eq_true_eq]
  constructor
  · intro h
    rw [Lib.strOfNums_toList, Lib.strOfNums_toList] at h
    exact bytesOf_inj hx0 hx1 h
  · intro h
    rw [h]

/-- How many bytes the head says. -/
def headN (b : List Int) : Nat := (b.getD 0 0).toNat + 256 * (b.getD 1 0).toNat
def bodyOf (b : List Int) : List Int := (b.drop 6).take (headN b)
/-- Why b begins with no frame; 0: it does. -/
def nextErr (b : List Int) : Int := if b.length < 6 then 3 else if headN b > 4096 then 2 else if headN b > b.length - 6 then 3 else if headOf (bodyOf b) = b.take 6 then 0 else 4
def nextBody (b : List Int) : List Int := if nextErr b = 0 then bodyOf b else []
def nextRest (b : List Int) : List Int := if nextErr b = 0 then b.drop (6 + headN b) else []
/-- What Next hands back. -/
def NextAns (w : World) (b : List Int) (e : Ending) (w' : World) : Prop :=
  ∃ A1 n1 c1 A2 n2 c2, e = .returned (.tuple #[.slice A1 n1 c1, .slice A2 n2 c2, .int .i64 (nextErr b)]) ∧ (Kd.int .u8).R 5 w' w.heap.size (fun _ => True) (.slice A1 n1 c1) (nextBody b) ∧ (Kd.int .u8).R 5 w' w.heap.size (fun _ => True) (.slice A2 n2 c2) (nextRest b) ∧ Below w.heap.size w w'
theorem NextAns.err {w w' : World} {b : List Int} (x : Int) (hx : nextErr b = x) (h0 : x ≠ 0) (hb : Below w.heap.size w w') : NextAns w b (.returned (.tuple #[.slice none 0 0, .slice none 0 0, .int .i64 x])) w' := by
  have h1 : nextBody b = [] := if_neg (by rw [hx]; exact h0)
  have h2 : nextRest b = [] := if_neg (by rw [hx]; exact h0)
  exact ⟨none, 0, 0, none, 0, 0, by rw [hx], by rw [h1]; exact Kd.R_nil _ _ _ _ _, by rw [h2]; exact Kd.R_nil _ _ _ _ _, hb⟩

theorem clone_n (A : Option Addr) (n c : Nat) (xs : List Int) (w : World) (hn : xs.length = n) (hC : (Kd.int .u8).C w A n xs) (hc : n ≤ c) (hb : n ≤ 140737488355328) :
    Calls Try.prog 23 #[.slice A n c] w fun e w' => ∃ A' c', e = .returned (.slice A' n c') ∧ (Kd.int .u8).R 5 w' w.heap.size (fun _ => True) (.slice A' n c') xs ∧ n ≤ c' ∧ (Kd.int .u8).C w' A' n xs ∧ Below w.heap.size w w' := by
  subst hn
  refine Calls.mono (clone_byte A c xs w hC hc (by omega)) ?_
  rintro e w' ⟨A', c', rfl, hR, hB⟩
  obtain ⟨_, h2, h3⟩ := Kd.R_reads' hR
  exact ⟨A', c', rfl, hR, h2, h3, hB⟩
theorem sealed_n (A : Option Addr) (n c : Nat) (xs : List Int) (w : World) (hn : xs.length = n) (hC : (Kd.int .u8).C w A n xs) (hc : n ≤ c) (hx : BytesOk xs) (hl : n ≤ 5000) :
    Calls Try.prog 22 #[.slice A n c] w fun e w' => ∃ A' c', e = .returned (.slice A' 6 c') ∧ (Kd.int .u8).R 5 w' w.heap.size (fun _ => True) (.slice A' 6 c') (headOf xs) ∧ 6 ≤ c' ∧ (Kd.int .u8).C w' A' 6 (headOf xs) ∧ Below w.heap.size w w' := by
  subst hn
  refine Calls.mono (sealed_any A c xs w hC hc hx hl) ?_
  rintro e w' ⟨v, rfl, hR, hB⟩
  obtain ⟨A', c', rfl, h2, h3⟩ := Kd.R_reads hR
  rw [headOf_length] at hR h2 h3 ⊢
  exact ⟨A', c', rfl, hR, h2, h3, hB⟩
theorem equal_n (A0 : Option Addr) (n0 c0 : Nat) (l0 : List Int) (A1 : Option Addr) (n1 c1 : Nat) (l1 : List Int) (w : World) (hn0 : l0.length = n0) (hn1 : l1.length = n1) (h0 : (Kd.int .u8).C w A0 n0 l0) (hc0 : n0 ≤ c0) (h1 : (Kd.int .u8).C w A1 n1 l1) (hc1 : n1 ≤ c1) :
    Calls Try.prog 24 #[.slice A0 n0 c0, .slice A1 n1 c1] w fun e w' => ∃ b : Bool, e = .returned (.bool b) ∧ Hid (b = decide (l0 = l1)) ∧ Below w.heap.size w w' := by
  subst hn0 hn1
  refine Calls.mono (equal_any A0 c0 l0 A1 c1 l1 w h0 hc0 h1 hc1) ?_
  rintro e w' ⟨rfl, hD⟩
  exact ⟨_, rfl, Lib.hid rfl, hD.below⟩
theorem bytesEqual_n (A0 : Option Addr) (n0 c0 : Nat) (l0 : List Int) (A1 : Option Addr) (n1 c1 : Nat) (l1 : List Int) (w : World) (hn0 : l0.length = n0) (hn1 : l1.length = n1) (h0 : (Kd.int .u8).C w A0 n0 l0) (hc0 : n0 ≤ c0) (h1 : (Kd.int .u8).C w A1 n1 l1) (hc1 : n1 ≤ c1) (hx0 : BytesOk l0) (hx1 : BytesOk l1) :
    Calls Try.prog 16 #[.slice A0 n0 c0, .slice A1 n1 c1] w fun e w' => ∃ b : Bool, e = .returned (.bool b) ∧ Hid (b = decide (l0 = l1)) ∧ Below w.heap.size w w' := by
  subst hn0 hn1
  refine Calls.mono (bytesEqual_any A0 c0 l0 A1 c1 l1 w h0 hc0 h1 hc1 hx0 hx1) ?_
  rintro e w' ⟨rfl, hD⟩
  exact ⟨_, rfl, Lib.hid rfl, hD.below⟩

set_option maxHeartbeats 400000 in
theorem next_any (A : Option Addr) (c : Nat) (xs : List Int) (w : World) (hC : (Kd.int .u8).C w A xs.length xs) (hc : xs.length ≤ c) (hx : BytesOk xs) (hl47 : xs.length ≤ 100000) :
    Calls Try.prog 15 #[.slice A xs.length c] w fun e w' => NextAns w xs e w' := by
  have HC := Lib.hid hC
  clear hC
  have hlm := HC.out.2.1
  by_cases h6 : xs.length < 6
  · have he : nextErr xs = 3 := if_pos h6
    have h6i : (xs.length : Int) < 6 := by omega
    have H := fun w' => NextAns.err (w := w) (w' := w') 3 he (by decide)
    clear he
    go_enter Try.func15, Try.ntmps15
    go_wp2_with fail
    go_ret3
    exact H _ (Below.refl _ _)
  · have h6i : ¬ (xs.length : Int) < 6 := by omega
    obtain ⟨ad, x0, hA, hx0, hc0⟩ := C_nth_scalar HC.out 0 (by omega)
    obtain ⟨ad', x1, hA', hx1, hc1⟩ := C_nth_scalar HC.out 1 (by omega)
    subst hA
    obtain rfl := Option.some.inj hA'
    obtain ⟨a0, ha0, rfl⟩ := BytesOk.at hx hx0
    obtain ⟨a1, ha1, rfl⟩ := BytesOk.at hx hx1
    obtain ⟨n, hn⟩ : ∃ n, n = a0 + 256 * a1 := ⟨_, rfl⟩
    have hnn : headN xs = n := by
      rw [hn, headN, List.getD_eq_getElem?_getD, List.getD_eq_getElem?_getD, hx0, hx1]
      simp
    have hc0 : w.cell? (ad.add 0) = some (.int .u8 (a0 : Int)) := hc0
    have hc1 : w.cell? (ad.add 1) = some (.int .u8 (a1 : Int)) := hc1
    have hc1' := hc1
    simp [Addr.add] at hc1'
    have hc0' : w.cell? ad = some (.int .u8 (a0 : Int)) := by simpa [Addr.add] using hc0
    have H0 := Lib.hid hx0
    have H1 := Lib.hid hx1
    have HN := Lib.hid hn
    have HNN := Lib.hid hnn
    clear hx0 hx1 hn hnn
    go_enter Try.func15, Try.ntmps15
    go_wp2_with fail
    have hb0 : (0 : Int) < xs.length := by omega
    have hb1 : (1 : Int) < xs.length := by omega
    have hnI : (a0 : Int) + (a1 : Int) * 256 = (n : Int) := by have := HN.out; omega
    have hn16 : n < 65536 := by have := HN.out; omega
    go_region
    clear hc0 hc1 hc0' hc1' hb0 hb1 hnI
    by_cases hbig : n > 4096
    · have he : nextErr xs = 2 := by rw [nextErr, if_neg h6, if_pos (by rw [HNN.out]; exact hbig)]
      have H := fun w' => NextAns.err (w := w) (w' := w') 2 he (by decide)
      have hbi : (4096 : Int) < n := by omega
      clear he
      go_wp2_with fail
      go_ret3
      exact H _ (below_drew (Below.refl _ _))
    · have hbi : ¬ (4096 : Int) < n := by omega
      by_cases hend : n > xs.length - 6
      · have he : nextErr xs = 3 := by rw [nextErr, if_neg h6, if_neg (by rw [HNN.out]; exact hbig), if_pos (by rw [HNN.out]; exact hend)]
        have H := fun w' => NextAns.err (w := w) (w' := w') 3 he (by decide)
        have hei : (xs.length : Int) - 6 < n := by omega
        clear he
        go_wp2_with fail
        go_ret3
        exact H _ (below_drew (Below.refl _ _))
      · have hei : ¬ (xs.length : Int) - 6 < n := by omega
        obtain ⟨i0, hi, _, hz1, _⟩ := info_parts info_byte
        obtain ⟨Am, hrm, hCm⟩ := mid_row (P := Try.prog) 22 5 Try.underlying22 hi hz1 (some ad) c 6 (6 + n) xs (by omega) (by omega) hc HC.out
        obtain ⟨A6, hr6, hC6⟩ : ∃ A6, (∀ W : World, (Instr.slice 22 (.slice (some ad) xs.length c) none (some (.int .i64 6)) none).run Try.prog W = .ok (.slice A6 6 c) W) ∧ (Kd.int .u8).C w A6 6 (xs.take 6) := ⟨_, take_row (P := Try.prog) 22 5 Try.underlying22 hi 6 (by omega) hc HC.out⟩
        obtain ⟨Ar, hrr, hCr⟩ := drop_row (P := Try.prog) 22 5 Try.underlying22 hi hz1 (some ad) c (6 + n) xs (by omega) hc HC.out
        have e1 : ((6 + n : Nat) : Int) = 6 + (n : Int) := by omega
        have e2 : 6 + n - 6 = n := by omega
        rw [e1, e2] at hrm
        rw [e1] at hrr
        rw [e2] at hCm
        have hrm : ∀ W : World, (Instr.slice 22 (.slice (some ad) xs.length c) (some (.int .i64 6)) (some (.int .i64 (6 + (n : Int)))) none).run Try.prog W = .ok (.slice Am n (c - 6)) W := hrm
        have hbl : ((xs.drop 6).take n).length = n := by rw [List.length_take, List.length_drop]; omega
        have HCm := Lib.hid hCm
        have HC6 := Lib.hid hC6
        have HCr := Lib.hid hCr
        have HBL := Lib.hid hbl
        clear hCm hC6 hCr hbl e1 e2 hi hz1
        have hbo : BytesOk ((xs.drop 6).take n) := fun y hy => hx y (List.mem_of_mem_drop (List.mem_of_mem_take hy))
        go_wp2_with fail
        refine Calls.mono (clone_n Am n (c - 6) ((xs.drop 6).take n) w.drew HBL.out (Kd.C_drew HCm.out) (by omega) (by omega)) ?_
        rintro e w1 ⟨A1, c1, rfl, hR1, hc1, hC1, hB1⟩
        have hB1 := below_undrew hB1
        have HR1 := Lib.hid hR1
        have HC1 := Lib.hid hC1
        have HB1 := Lib.hid hB1
        clear hR1 hC1 hB1
        go_wp2_with fail
        go_region_with (first
          | (go_at_call 22
             refine Calls.mono (sealed_n A1 n c1 ((xs.drop 6).take n) _ HBL.out (Kd.C_drew HC1.out) hc1 hbo (by omega)) ?_
             rintro e w2 ⟨A2, c2, rfl, hR2, hc2, hC2, hB2⟩
             have HR2 := Lib.hid hR2
             have HC2 := Lib.hid hC2
             have HB2 := Lib.hid (below_undrew hB2)
             clear hR2 hC2 hB2)
          | (go_at_call 24
             refine Calls.mono (equal_n A2 6 c2 (headOf ((xs.drop 6).take n)) A6 6 c (xs.take 6) _ (headOf_length _) (by rw [List.length_take]; omega) HC2.out (by omega) (Kd.C_below (Kd.C_below HC6.out HB1.out) HB2.out) (by omega)) ?_
             rintro e w3 ⟨bb, rfl, HBB, hB3⟩
             have HB3 := Lib.hid hB3
             clear hB3))
        have HBall := Lib.hid ((HB1.out.trans (HB2.out.mono HB1.out.size)).trans (HB3.out.mono (Nat.le_trans HB1.out.size HB2.out.size)))
        have hne : nextErr xs = if headOf ((xs.drop 6).take n) = xs.take 6 then 0 else 4 := by
          rw [nextErr, if_neg h6, if_neg (by rw [HNN.out]; exact hbig), if_neg (by rw [HNN.out]; exact hend), bodyOf, HNN.out]
        cases bb with
        | false =>
          have he : nextErr xs = 4 := by rw [hne, if_neg (by have := HBB.out; simpa using this)]
          have H := fun w' => NextAns.err (w := w) (w' := w') 4 he (by decide)
          clear he hne
          go_wp2_with fail
          go_ret3
          exact H _ HBall.out
        | true =>
          have he : nextErr xs = 0 := by rw [hne, if_pos (by have := HBB.out; simpa using this)]
          have HE := Lib.hid he
          clear he hne
          go_wp2_with fail
          refine Calls.mono (clone_n Ar (xs.length - (6 + n)) (c - (6 + n)) (xs.drop (6 + n)) _ (by rw [List.length_drop]) (Kd.C_below HCr.out HBall.out) (by omega) (by omega)) ?_
          rintro e w4 ⟨A4, c4, rfl, hR4, hc4, hC4, hB4⟩
          have HR4 := Lib.hid hR4
          have HB4 := Lib.hid hB4
          clear hR4 hB4 hC4 hc4
          go_wp2_with fail
          go_ret3
          have h1 : nextBody xs = (xs.drop 6).take n := by rw [nextBody, if_pos HE.out, bodyOf, HNN.out]
          have h2 : nextRest xs = xs.drop (6 + n) := by rw [nextRest, if_pos HE.out, HNN.out]
          refine ⟨A1, n, c1, A4, xs.length - (6 + n), c4, by rw [HE.out]; rfl, ?_, ?_, HBall.out.trans (HB4.out.mono HBall.out.size)⟩
          · rw [h1]
            exact Kd.R_below (Kd.R_below (Kd.R_below (Kd.R_lower HR1.out (Nat.le_refl _)) HB2.out) HB3.out) HB4.out
          · rw [h2]
            exact Kd.R_lower HR4.out HBall.out.size
end Go.Proofs.Ytafkcjegahnolaa
