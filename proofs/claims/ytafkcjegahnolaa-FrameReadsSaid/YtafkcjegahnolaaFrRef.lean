/- daisychainref02.Sum by its contract. -/
import Derived.Test.YtafkcjegahnolaaFrRefLaw
import Derived.Test.YtafkcjegahnolaaPFrameReadsx1
import Derived.Deep.DeepCutAuto
import Derived.StillTailTactics
import Derived.Deep.QuietTactic
import Derived.BigQuiet
import Derived.Deep.RegionHeld3
namespace Go.Proofs.Ytafkcjegahnolaa
open Go.RowKit Go.Proofs.YtafkcjegahnolaaW.PrintWords

def powsI : List Int := [26, 23, 22, 16, 12, 11, 10, 8, 7, 5, 4, 2, 1, 0]
theorem powers_any (w : World) : Calls Try.prog 21 #[] w fun e w' => ∃ A c, e = .returned (.slice A 14 c) ∧ (Kd.int .i64).R 3 w' 0 (fun k => w.heap.size ≤ k ∧ k < w'.heap.size) (.slice A 14 c) powsI ∧ Below w.heap.size w w' := by
  refine Calls.mono (PFrameReads.daisychainref02_powers.calls _ w rfl) ?_
  rintro e w' ⟨v, rfl, hR, hB⟩
  obtain ⟨A, c, rfl⟩ := Kd.R_slice hR
  exact ⟨A, c, rfl, R_fresh hR, hB⟩

theorem pows_at (q : Nat) (hq : q < 14) : ∃ p : Nat, pows.getD q 0 = p ∧ powsI[q]? = some (p : Int) ∧ p ≤ 26 := by
  have : q = 0 ∨ q = 1 ∨ q = 2 ∨ q = 3 ∨ q = 4 ∨ q = 5 ∨ q = 6 ∨ q = 7 ∨ q = 8 ∨ q = 9 ∨ q = 10 ∨ q = 11 ∨ q = 12 ∨ q = 13 := by omega
  rcases this with e | e | e | e | e | e | e | e | e | e | e | e | e | e <;> subst e <;> exact ⟨_, rfl, rfl, by decide⟩
theorem info_bool : (Try.prog.info? 4).map (fun i => (i.zero, i.size, i.bytes)) = some (some (.bool false), 1, 1) := by kernel_rfl

/-- A bit of a row of the call's own is turned. -/
theorem flip_put {e base g cap n : Nat} {ok : Nat → Prop} {L : List Bool} {w : World} (h : Kd.bool.R e w base ok (.slice (some ⟨g, 0, none⟩) n cap) L) (hn : L.length = n) (j : Nat) (hj : j < n) :
    w.cell? ⟨g, j, none⟩ = some (.bool (L.getD j false)) ∧ w.frozen? ⟨g, j, none⟩ = false ∧ Kd.bool.R e (w.setCell ⟨g, j, none⟩ (.bool (!(L.getD j false)))) base ok (.slice (some ⟨g, 0, none⟩) n cap) (flip1 L j) := by
  subst hn
  obtain ⟨h1, h2⟩ := Kd.R_cell false h (j : Int) (by omega) (by omega)
  have h3 : Kd.bool.R e (w.setCell ⟨g, (j : Int).toNat, none⟩ (.bool (!(L.getD j false)))) base ok (.slice (some ⟨g, 0, none⟩) L.length cap) (L.set (j : Int).toNat (!(L.getD j false))) := (Kd.R_put h (j : Int) (!(L.getD j false))).1
  rw [Int.toNat_natCast] at h3
  exact ⟨by simpa [rdOf] using h1, by simpa using h2, h3⟩

set_option maxHeartbeats 1600000 in
theorem refSum_any (A : Option Addr) (c : Nat) (xs : List Int) (w : World) (hC : (Kd.int .u8).C w A xs.length xs) (hx : BytesOk xs) (hlen : xs.length ≤ 100000) :
    Calls Try.prog 13 #[.slice A xs.length c] w fun e w' => e = .returned (.int .u32 (refSum xs : Nat)) ∧ Below w.heap.size w w' := by
  have HC := Lib.hid hC
  clear hC
  go_enter Try.func13, Try.ntmps13
  go_wp2_with fail
  go_loopw [3, 4, 5, 6] (fun l i _ _ wr => ∃ k : Nat, k ≤ xs.length ∧ i = .int .i64 k ∧ Kd.bool.R 4 wr w.heap.size (fun _ => True) l (bitsOf (xs.take k)) ∧ Below w.heap.size w wr) (fun _ i _ _ _ => xs.length - (intOf i).toNat)
  case atStart => exact ⟨0, by omega, rfl, Kd.R_nil _ _ _ _ _, Below.refl _ _⟩
  case round =>
    obtain ⟨k, hk, rfl, hR, hb⟩ := hrel
    have HR := Lib.hid hR
    have HB := Lib.hid hb
    clear hR hb
    by_cases hlt : k < xs.length
    · obtain ⟨ad, x, hA, hxk, hc⟩ := C_nth_scalar (Kd.C_below HC.out HB.out) k hlt
      subst hA
      obtain ⟨n, hn, rfl⟩ := BytesOk.at hx hxk
      have HX := Lib.hid hxk
      clear hxk
      have hc : wr.cell? (ad.add k) = some (.int .u8 (n : Int)) := hc
      go_wp2_with fail
      go_loopw [3, 5, 6] (fun l nn i wq => ∃ j : Nat, j ≤ 8 ∧ i = .int .i64 j ∧ nn = .int .i64 (n / 2 ^ j : Nat) ∧ Kd.bool.R 4 wq w.heap.size (fun _ => True) l (bitsOf (xs.take k) ++ bitsN n j) ∧ Below w.heap.size w wq) (fun _ _ i _ => 8 - (intOf i).toNat)
      case atStart => 
        refine ⟨0, by omega, rfl, by simp, ?_, HB.out⟩
        simpa [bitsN] using HR.out
      case round =>
        obtain ⟨j, hj, rfl, rfl, hR, hb⟩ := hrel
        have HR := Lib.hid hR
        have HB := Lib.hid hb
        clear hR hb
        obtain ⟨m, hm⟩ : ∃ m, m = n / 2 ^ j := ⟨_, rfl⟩
        rw [← hm]
        have HM := Lib.hid hm
        have hml : m < 256 := by rw [hm]; exact Nat.lt_of_le_of_lt (Nat.div_le_self _ _) hn
        clear hm
        by_cases hlj : j < 8
        · obtain ⟨bb, hbb⟩ : ∃ bb : Bool, ((m : Int) % 2 == 1) = bb := ⟨_, rfl⟩
          have HBB := Lib.hid hbb
          have hll : (bitsOf (xs.take k) ++ bitsN n j).length ≤ 1000000 := by
            rw [List.length_append, bitsOf_length, bitsN_length, List.length_take]
            omega
          go_wp2_with (first | (at_builtin; refine Kd.R_append Kd.bool (w0 := w) w.heap.size rfl (.tmp 29) (.tmp 33) 46 4 (.bool false) 1 rfl Try.underlying46 info_bool rfl (by decide) (by omega) u3 (bitsOf (xs.take k) ++ bitsN n j) bb [.bool bb] (fun _ => True) (fun _ => False) rfl rfl rfl (fun _ hk => hk.elim) (fun _ _ => trivial) HR.out HB.out HB.out.size (by omega) ?_; intro v1 w2 h1 h2 _ _))
          have H1 := Lib.hid h1
          have H2 := Lib.hid h2
          clear h1 h2
          go_wp2_with fail
          refine ⟨⟨j + 1, by omega, by simp, ?_, ?_, H2.out⟩, loop_dec hlj⟩
          · rw [Nat.pow_succ, ← Nat.div_div_eq_div_mul, ← HM.out]
            simp
          · have e : bitsN n (j + 1) = bitsN n j ++ [bb] := by
              rw [bitsN_succ, ← HM.out, ← HBB.out]
              congr 1
              have : ((m : Int) % 2 == 1) = (m % 2 == 1) := by
                rw [Bool.eq_iff_iff]
                simp
                omega
              rw [this]
            rw [e, ← List.append_assoc]
            exact H1.out
        · have : j = 8 := by omega
          subst this
          go_wp2_with fail
          refine ⟨⟨k + 1, by omega, by simp, ?_, HB.out⟩, loop_dec hlt⟩
          rw [bitsOf_take_succ HX.out]
          exact HR.out
    · have : k = xs.length := by omega
      subst this
      go_wp2_with fail
      go_loopw [3, 7] (fun l i wq => ∃ j : Nat, j ≤ 32 ∧ i = .int .i64 j ∧ Kd.bool.R 4 wq w.heap.size (fun _ => True) l (bitsOf xs ++ List.replicate j false) ∧ Below w.heap.size w wq) (fun _ i _ => 32 - (intOf i).toNat)
      case atStart =>
        refine ⟨0, by omega, rfl, ?_, HB.out⟩
        have := HR.out
        rw [List.take_length] at this
        simpa using this
      case round =>
        obtain ⟨j, hj, rfl, hR, hb⟩ := hrel
        have HR := Lib.hid hR
        have HB := Lib.hid hb
        clear hR hb
        by_cases hlj : j < 32
        · have hll : (bitsOf xs ++ List.replicate j false).length ≤ 1000000 := by
            rw [List.length_append, bitsOf_length, List.length_replicate]
            omega
          go_wp2_with (first | (at_builtin; refine Kd.R_append Kd.bool (w0 := w) w.heap.size rfl (.tmp 41) (.tmp 42) 46 4 (.bool false) 1 rfl Try.underlying46 info_bool rfl (by decide) (by omega) u3 (bitsOf xs ++ List.replicate j false) false [.bool false] (fun _ => True) (fun _ => False) rfl rfl rfl (fun _ hk => hk.elim) (fun _ _ => trivial) HR.out HB.out HB.out.size (by omega) ?_; intro v1 w2 h1 h2 _ _))
          have H1 := Lib.hid h1
          have H2 := Lib.hid h2
          clear h1 h2
          go_wp2_with fail
          refine ⟨⟨j + 1, by omega, by simp, ?_, H2.out⟩, loop_dec hlj⟩
          rw [List.replicate_succ', ← List.append_assoc]
          exact H1.out
        · have : j = 32 := by omega
          subst this
          go_wp2_with fail
          obtain ⟨g, cap, hv, _, hg1, hg2⟩ := R_at0 HR.out (by simp) (by decide)
          subst hv
          have hln : (bitsOf xs ++ List.replicate 32 false).length = 8 * xs.length + 32 := by simp [bitsOf_length]
          rw [hln]
          go_loopw [8] (fun i wq => ∃ j : Nat, j ≤ 32 ∧ i = .int .i64 j ∧ Kd.bool.R 4 wq w.heap.size (fun _ => True) (.slice (some ⟨g, 0, none⟩) (8 * xs.length + 32) cap) (flipN (bitsOf xs ++ List.replicate 32 false) j) ∧ Below w.heap.size w wq) (fun i _ => 32 - (intOf i).toNat)
          case atStart =>
            refine ⟨0, by omega, rfl, ?_, HB.out⟩
            have := HR.out
            rw [hln] at this
            exact this
          case round =>
            obtain ⟨j, hj, rfl, hR, hb⟩ := hrel
            have HR := Lib.hid hR
            have HB := Lib.hid hb
            clear hR hb
            by_cases hlj : j < 32
            · have hji : (j : Int) < 8 * xs.length + 32 := by omega
              have hjn : j < 8 * xs.length + 32 := by omega
              obtain ⟨hc1, hc2, hc3⟩ := flip_put HR.out (by rw [flipN_length, hln]) j hjn
              obtain ⟨bb, hbb⟩ : ∃ bb : Bool, (flipN (bitsOf xs ++ List.replicate 32 false) j).getD j false = bb := ⟨_, rfl⟩
              have H3 := Lib.hid hc3
              rw [hbb] at hc1
              have HBB := Lib.hid hbb
              clear hbb hc3
              go_wp2_with fail
              refine ⟨⟨j + 1, by omega, by simp, ?_, HB.out.setCell hg1 _⟩, loop_dec hlj⟩
              rw [← HBB.out]
              exact H3.out
            · have : j = 32 := by omega
              subst this
              go_wp2_with fail
              refine Calls.mono (powers_any wr) ?_
              rintro e w2 ⟨A2, c2, rfl, hP, hB2⟩
              have HP := Lib.hid hP
              have HB2 := Lib.hid (HB.out.trans (Below.mono hB2 HB.out.size))
              have HR2 := Lib.hid (Kd.R_below HR.out hB2)
              have HG := Lib.hid (Nat.lt_of_lt_of_le (Kd.R_lt HR.out g (by simp [Value.ownBlock])) (Nat.le_refl _))
              clear hP hB2
              go_wp2_with fail
              go_loopw [10, 11] (fun i _ wq => ∃ j : Nat, j ≤ 8 * xs.length ∧ i = .int .i64 j ∧ Kd.bool.R 4 wq w.heap.size (fun _ => True) (.slice (some ⟨g, 0, none⟩) (8 * xs.length + 32) cap) (divide (row0 xs) j) ∧ (Kd.int .i64).R 3 wq 0 (fun k => k ≠ g) (.slice A2 14 c2) powsI ∧ Below w.heap.size w wq) (fun i _ _ => 8 * xs.length - (intOf i).toNat)
              case atStart =>
                refine ⟨0, by omega, rfl, HR2.out, Kd.R_mono HP.out (fun k hk => by have := HG.out; omega), HB2.out⟩
              case round =>
                obtain ⟨j, hj, rfl, hR, hP, hb⟩ := hrel
                have HR := Lib.hid hR
                have HP := Lib.hid hP
                have HB := Lib.hid hb
                clear hR hP hb
                by_cases hlj : j < 8 * xs.length
                · have hji : (j : Int) < 8 * xs.length + 32 := by omega
                  have hjl : (j : Int) < 8 * (xs.length : Int) := by omega
                  have hjn : j < 8 * xs.length + 32 := by omega
                  obtain ⟨hc1, hc2, hc3⟩ := flip_put HR.out (by rw [divide_length, row0_length]) j hjn
                  obtain ⟨bb, hbb⟩ : ∃ bb : Bool, (divide (row0 xs) j).getD j false = bb := ⟨_, rfl⟩
                  rw [hbb] at hc1
                  have HBB := Lib.hid hbb
                  clear hbb hc3
                  cases bb with
                  | false =>
                    go_wp2_with fail
                    refine ⟨⟨j + 1, by omega, by simp, ?_, HP.out, HB.out⟩, loop_dec hlj⟩
                    rw [divide, if_neg (by rw [HBB.out]; decide)]
                    exact HR.out
                  | true =>
                    go_wp2_with fail
                    go_loopw [11] (fun i wq => ∃ q : Nat, q ≤ 14 ∧ i = .int .i64 q ∧ Kd.bool.R 4 wq w.heap.size (fun _ => True) (.slice (some ⟨g, 0, none⟩) (8 * xs.length + 32) cap) (flipP (divide (row0 xs) j) j q) ∧ (Kd.int .i64).R 3 wq 0 (fun k => k ≠ g) (.slice A2 14 c2) powsI ∧ Below w.heap.size w wq) (fun i _ => 14 - (intOf i).toNat)
                    case atStart => exact ⟨0, by omega, rfl, HR.out, HP.out, HB.out⟩
                    case round =>
                      obtain ⟨q, hq, rfl, hR, hP, hb⟩ := hrel
                      have HR := Lib.hid hR
                      have HP := Lib.hid hP
                      have HB := Lib.hid hb
                      clear hR hP hb
                      by_cases hlq : q < 14
                      · obtain ⟨pw, hpw, hpx, hpl⟩ := pows_at q hlq
                        obtain ⟨ad2, x2, hA2, hx2, hcp⟩ := C_nth_scalar (Kd.R_reads' HP.out).2.2 q (by simpa [powsI] using hlq)
                        obtain rfl := Option.some.inj (hx2.symm.trans hpx)
                        subst hA2
                        obtain ⟨t, ht⟩ : ∃ t, t = j + 32 - pw := ⟨_, rfl⟩
                        have hw1 : IntKind.i64.wrap ((j : Int) + 32) = (j : Int) + 32 := IntWalk.i64_in _ (by omega)
                        have hw2 : IntKind.i64.wrap ((j : Int) + 32 - (pw : Int)) = (t : Int) := by rw [IntWalk.i64_in _ (by omega)]; omega
                        have htn : t < 8 * xs.length + 32 := by omega
                        have hti : (t : Int) < 8 * xs.length + 32 := by omega
                        obtain ⟨hc1, hc2, hc3⟩ := flip_put HR.out (by rw [flipP_length, divide_length, row0_length]) t htn
                        obtain ⟨b2, hb2⟩ : ∃ b2 : Bool, (flipP (divide (row0 xs) j) j q).getD t false = b2 := ⟨_, rfl⟩
                        rw [hb2] at hc1
                        have HB2 := Lib.hid hb2
                        have HT := Lib.hid ht
                        have HPW := Lib.hid hpw
                        have hcp : wr.cell? (ad2.add q) = some (.int .i64 (pw : Int)) := hcp
                        clear hb2 hc3 ht hpw hpx hx2
                        go_wp2_with fail
                        go_outline
                        obtain ⟨hd1, hd2, hd3⟩ := flip_put (Kd.R_drew HR.out) (by rw [flipP_length, divide_length, row0_length]) t htn
                        rw [HB2.out] at hd1 hd3
                        have H3 := Lib.hid hd3
                        have HBd := Lib.hid HB.out.drew
                        have HPd := Lib.hid (Kd.R_drew HP.out)
                        clear hd3
                        go_still_tail 20, (by kernel_rfl)
                        change wpList _ _ _ _ _ wr.drew
                        generalize wr.drew = wd at *
                        clear hc1 hc2 hcp
                        go_wp2_with fail
                        go_roundw
                        case measure => exact loop_dec hlq
                        case rel =>
                        refine ⟨q + 1, by omega, by simp, ?_, ?_, HBd.out.setCell hg1 _⟩
                        · rw [flipP, HPW.out, ← HT.out]
                          exact H3.out
                        · exact Kd.R_step HPd.out (fun k hk _ => Below.heap_setCell _ _ _ _ (fun e => hk e))
                      · have : q = 14 := by omega
                        subst this
                        go_wp2_with fail
                        refine ⟨⟨j + 1, by omega, by simp, ?_, HP.out, HB.out⟩, loop_dec hlj⟩
                        rw [divide, if_pos (by rw [HBB.out])]
                        exact HR.out
                · have : j = 8 * xs.length := by omega
                  subst this
                  have hR0 := HR.out
                  rw [show divide (row0 xs) (8 * xs.length) = rest xs from rfl] at hR0
                  have HR0 := Lib.hid hR0
                  clear hR0
                  go_wp2_with fail
                  go_loopw [12, 13] (fun o i wq => ∃ s : Nat, s ≤ 32 ∧ i = .int .i64 (8 * (xs.length : Int) + 31 - s) ∧ o = .int .u32 (readN (rest xs) s : Nat) ∧ Kd.bool.R 4 wq w.heap.size (fun _ => True) (.slice (some ⟨g, 0, none⟩) (8 * xs.length + 32) cap) (rest xs) ∧ Below w.heap.size w wq) (fun _ i _ => (intOf i + 1 - 8 * (xs.length : Int)).toNat)
                  case atStart => exact ⟨0, by omega, by simp; omega, rfl, HR0.out, HB.out⟩
                  case round =>
                    obtain ⟨sn, hsn, rfl, rfl, hR, hb⟩ := hrel
                    have HR := Lib.hid hR
                    have HB := Lib.hid hb
                    clear hR hb
                    obtain ⟨o, ho⟩ : ∃ o, o = readN (rest xs) sn := ⟨_, rfl⟩
                    rw [← ho]
                    have HO := Lib.hid ho
                    clear ho
                    by_cases hls : sn < 32
                    · obtain ⟨t, ht⟩ : ∃ t : Nat, t = 8 * xs.length + 31 - sn := ⟨_, rfl⟩
                      have hti : (8 * (xs.length : Int) + 31 - sn) = (t : Int) := by omega
                      rw [hti]
                      have htn : t < 8 * xs.length + 32 := by omega
                      have ht1 : (t : Int) < 8 * (xs.length : Int) + 32 := by omega
                      have ht2 : 8 * (xs.length : Int) ≤ (t : Int) := by omega
                      obtain ⟨hc1, _, _⟩ := flip_put HR.out (rest_length xs) t htn
                      obtain ⟨bb, hbb⟩ : ∃ bb : Bool, (rest xs).getD t false = bb := ⟨_, rfl⟩
                      rw [hbb] at hc1
                      have HBB := Lib.hid hbb
                      clear hbb
                      have hol : o < 2147483648 := by
                        rw [HO.out]
                        exact Nat.lt_of_lt_of_le (readN_lt _ sn) (Nat.pow_le_pow_right (by omega) (by omega : sn ≤ 31))
                      have HT := Lib.hid ht
                      have HTI := Lib.hid hti
                      clear ht hti
                      have hrd : readN (rest xs) (sn + 1) = o * 2 + (if bb then 0 else 1) := by
                        rw [readN, ← HO.out, rest_length, show 8 * xs.length + 32 - 1 - sn = t by rw [HT.out]; omega, HBB.out]
                      have HRD := Lib.hid hrd
                      clear hrd
                      cases bb with
                      | true =>
                        go_wp2_with fail
                        refine ⟨⟨sn + 1, by omega, ?_, ?_, HR.out, HB.out⟩, ?_⟩
                        · have := HTI.out
                          simp
                          omega
                        · rw [HRD.out]
                          simp
                        · have := HTI.out
                          simp [intOf]
                          omega
                      | false =>
                        go_wp2_with fail
                        refine ⟨⟨sn + 1, by omega, ?_, ?_, HR.out, HB.out⟩, ?_⟩
                        · have := HTI.out
                          simp
                          omega
                        · rw [HRD.out]
                          simp
                        · have := HTI.out
                          simp [intOf]
                          omega
                    · have : sn = 32 := by omega
                      subst this
                      go_wp2_with fail
                      go_ret
                      exact ⟨by rw [HO.out]; rfl, HB.out⟩

theorem refSum_n (A : Option Addr) (n c : Nat) (xs : List Int) (w : World) (hn : xs.length = n) (hC : (Kd.int .u8).C w A n xs) (hx : BytesOk xs) (hl : n ≤ 100000) :
    Calls Try.prog 13 #[.slice A n c] w fun e w' => ∃ sm : Nat, e = .returned (.int .u32 sm) ∧ Hid (sm = sumOf xs) ∧ Below w.heap.size w w' := by
  subst hn
  refine Calls.mono (refSum_any A c xs w hC hx hl) ?_
  rintro e w' ⟨rfl, hB⟩
  exact ⟨_, rfl, Lib.hid (refSum_eq xs hx), hB⟩
end Go.Proofs.Ytafkcjegahnolaa
