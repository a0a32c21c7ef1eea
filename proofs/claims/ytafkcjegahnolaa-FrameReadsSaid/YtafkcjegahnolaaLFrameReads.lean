/- The statement FrameReads of layer 2: every call of it tells true and leaves what was there as it was. -/
import Derived.Test.YtafkcjegahnolaaLFrameUsed
import Derived.Test.YtafkcjegahnolaaFrRefNext
namespace Go.Proofs.Ytafkcjegahnolaa
open Go.RowKit Go.Proofs.YtafkcjegahnolaaW.PrintWords

/-- Where the reading stands behind k frames, j bytes. -/
def RdAt (b : List Int) (l : List (List Int)) (used : Nat) (err : Int) (k j : Nat) : Prop :=
  j ≤ b.length ∧ ∃ q, b.length - j < q ∧ l.drop k = (allOf q (b.drop j)).1 ∧ used = j + (allOf q (b.drop j)).2.1 ∧ err = (allOf q (b.drop j)).2.2
theorem RdAt.start {b : List Int} {l : List (List Int)} {used : Nat} {err : Int} (h : allOf (b.length + 1) b = (l, used, err)) : RdAt b l used err 0 0 :=
  ⟨Nat.zero_le _, b.length + 1, by omega, by rw [List.drop_zero, List.drop_zero, h], by rw [List.drop_zero, h]; simp, by rw [List.drop_zero, h]⟩
theorem RdAt.step {b : List Int} {l : List (List Int)} {used : Nat} {err : Int} {k j : Nat} (h : RdAt b l used err k j) {x : List Int} (hx : l[k]? = some x) :
    nextErr (b.drop j) = 0 ∧ x = nextBody (b.drop j) ∧ j + (6 + headN (b.drop j)) ≤ b.length ∧ RdAt b l used err (k + 1) (j + (6 + headN (b.drop j))) := by
  obtain ⟨hj, q, hq, h1, h2, h3⟩ := h
  have hk : k < l.length := (List.getElem?_eq_some_iff.1 hx).1
  have hxe : l[k] = x := (List.getElem?_eq_some_iff.1 hx).2
  rw [List.drop_eq_getElem_cons hk, hxe] at h1
  obtain ⟨q, rfl⟩ : ∃ p, q = p + 1 := ⟨q - 1, by omega⟩
  by_cases hb : b.drop j = []
  · rw [allOf, if_pos hb] at h1
    cases h1
  · by_cases hn : nextErr (b.drop j) = 0
    · obtain ⟨f1, f2, f3, f4, f5⟩ := next_facts hn
      rw [List.length_drop] at f1
      rw [allOf, if_neg hb, if_pos hn] at h1 h2 h3
      injection h1 with e1 e2
      have hd : nextRest (b.drop j) = b.drop (j + (6 + headN (b.drop j))) := by rw [f3, List.drop_drop]
      rw [hd] at e2 h2 h3
      rw [f2] at h2
      exact ⟨hn, e1, by omega, by omega, q, by omega, e2, by rw [h2]; simp only; omega, h3⟩
    · rw [allOf, if_neg hb, if_neg hn] at h1
      cases h1
theorem RdAt.stop {b : List Int} {l : List (List Int)} {used : Nat} {err : Int} {j : Nat} (h : RdAt b l used err l.length j) : j = used ∧ (j = b.length → err = 0) ∧ (j < b.length → err = nextErr (b.drop j) ∧ err ≠ 0) := by
  obtain ⟨hj, q, hq, h1, h2, h3⟩ := h
  obtain ⟨q, rfl⟩ : ∃ p, q = p + 1 := ⟨q - 1, by omega⟩
  rw [List.drop_length] at h1
  by_cases hb : b.drop j = []
  · rw [allOf, if_pos hb] at h2 h3
    have : b.length ≤ j := List.drop_eq_nil_iff.1 hb
    exact ⟨by simp at h2; omega, fun _ => h3, fun h => by omega⟩
  · by_cases hn : nextErr (b.drop j) = 0
    · rw [allOf, if_neg hb, if_pos hn] at h1
      cases h1
    · rw [allOf, if_neg hb, if_neg hn] at h2 h3
      refine ⟨by simp at h2; omega, fun h => ?_, fun _ => ⟨h3, by rw [h3]; exact hn⟩⟩
      exact absurd (List.drop_eq_nil_of_le (by omega)) hb
theorem refNext_n (A : Option Addr) (n c : Nat) (xs : List Int) (w : World) (hn : xs.length = n) (hC : (Kd.int .u8).C w A n xs) (hc : n ≤ c) (hx : BytesOk xs) (hl : n ≤ 100000) :
    Calls Try.prog 19 #[.slice A n c] w fun e w' => e = .returned (.tuple #[.int .i64 (refN xs : Nat), .int .i64 (nextErr xs)]) ∧ Below w.heap.size w w' := by
  subst hn
  exact refNext_any A c xs w hC hc hx hl

set_option maxHeartbeats 3200000 in
set_option maxRecDepth 100000 in
theorem reads_any (A : Option Addr) (n cap : Nat) (xs : List Int) (w : World) (hC : (Kd.int .u8).C w A n xs) (hc : n ≤ cap) (ho : ∀ s ∈ xs, (Lit.int .u8 s).wf = true) :
    Calls Try.prog 9 #[.slice A n cap] w fun e w' => e = .returned (.bool true) ∧ Below w.heap.size w w' := by
  have HN := Lib.hid (Kd.C_len hC)
  have HC := Lib.hid hC
  have hx := BytesOk.of_wf ho
  clear hC ho
  by_cases hbig : 600 < n
  · have hbi : (600 : Int) < n := by omega
    go_enter Try.func9, Try.ntmps9
    go_wp2_with (go_at_call 11; refine Calls.mono (awake_any _) ?_; rintro e w1 ⟨rfl, hB⟩)
    go_ret
    exact ⟨rfl, hB⟩
  · have hbi : ¬ (600 : Int) < n := by omega
    go_enter Try.func9, Try.ntmps9
    go_wp2_with fail
    refine Calls.mono (next_n A n cap xs w HN.out HC.out hc hx (by omega)) ?_
    rintro e w1 ⟨A5, n5, c5, A6, n6, c6, rfl, hR5, hR6, hB1⟩
    have HR5 := Lib.hid hR5
    have HR6 := Lib.hid hR6
    have HB1 := Lib.hid hB1
    clear hR5 hR6 hB1
    obtain ⟨ne, hne⟩ : ∃ ne, ne = nextErr xs := ⟨_, rfl⟩
    rw [← hne]
    have HNE := Lib.hid hne
    clear hne
    go_wp2_with fail
    refine Calls.mono (refNext_n A n cap xs w1 HN.out (Kd.C_below HC.out HB1.out) hc hx (by omega)) ?_
    rintro e w2 ⟨rfl, hB2⟩
    have HB2 := Lib.hid (HB1.out.trans (hB2.mono HB1.out.size))
    have HB12 := Lib.hid hB2
    clear hB2
    obtain ⟨N, hN⟩ : ∃ N, N = refN xs := ⟨_, rfl⟩
    rw [← hN, ← HNE.out]
    by_cases h0 : ne = 0
    case' pos =>
      subst h0
      obtain ⟨f1, f2, f3, f4, f5⟩ := next_facts HNE.out.symm
      have hNe : N = 6 + headN xs := by rw [hN, refN, if_pos HNE.out.symm]
      obtain ⟨e5, hc5, hC5⟩ := Kd.R_reads' HR5.out
      obtain ⟨e6, hc6, hC6⟩ := Kd.R_reads' HR6.out
      have hb5 : nextBody xs = (xs.drop 6).take (N - 6) := by rw [nextBody, if_pos HNE.out.symm, bodyOf, hNe, Nat.add_sub_cancel_left]
      have hr6 : nextRest xs = xs.drop N := by rw [f3, hNe]
      rw [HN.out] at f1
      obtain ⟨i0, hi, _, hz1, _⟩ := info_parts info_byte
      obtain ⟨Am, hrm, hCm⟩ := mid_row (P := Try.prog) 22 5 Try.underlying22 hi hz1 A cap 6 N xs (by omega) (by rw [HN.out]; omega) (by rw [HN.out]; exact hc) (by rw [HN.out]; exact HC.out)
      obtain ⟨Ar, hrr, hCr⟩ := drop_row (P := Try.prog) 22 5 Try.underlying22 hi hz1 A cap N xs (by rw [HN.out]; omega) (by rw [HN.out]; exact hc) (by rw [HN.out]; exact HC.out)
      rw [HN.out] at hrm hrr hCr
      simp only [Int.cast_ofNat_Int] at hrm
      have hbl : ((xs.drop 6).take (N - 6)).length = N - 6 := by rw [List.length_take, List.length_drop, HN.out]; omega
      have hrl : (xs.drop N).length = n - N := by rw [List.length_drop, HN.out]
      have hx5 : BytesOk ((xs.drop 6).take (N - 6)) := fun z hz => hx z (List.mem_of_mem_drop (List.mem_of_mem_take hz))
      have hx6 : BytesOk (xs.drop N) := fun z hz => hx z (List.mem_of_mem_drop hz)
      have hn5 : n5 = N - 6 := by rw [e5, hb5, hbl]
      have hn6 : n6 = n - N := by rw [e6, hr6, hrl]
      rw [hb5, hbl] at hC5
      rw [hr6, hrl] at hC6
      subst hn5 hn6
      have hN6 : 6 ≤ N := by omega
      have hNn : N ≤ n := by omega
      have HBL := Lib.hid hbl
      have HRL := Lib.hid hrl
      have HC5 := Lib.hid (Kd.C_below hC5 HB12.out)
      have HC6 := Lib.hid (Kd.C_below hC6 HB12.out)
      have HCm := Lib.hid (Kd.C_below hCm HB2.out)
      have HCr := Lib.hid (Kd.C_below hCr HB2.out)
      clear f1 f2 f3 f4 f5 hNe e5 e6 hb5 hr6 hi hz1 hCm hCr hbl hrl hC5 hC6 hN
      go_wp2_with fail
      refine Calls.mono (bytesEqual_n A5 (N - 6) c5 _ Am (N - 6) (cap - 6) _ w2 HBL.out HBL.out HC5.out hc5 HCm.out (by omega) hx5 hx5) ?_
      rintro e w3 ⟨bq, rfl, hbq, hB3⟩
      obtain rfl : bq = true := by rw [hbq.out]; simp
      clear hbq
      have HB3 := Lib.hid (HB2.out.trans (hB3.mono HB2.out.size))
      have HC6 := Lib.hid (Kd.C_below HC6.out hB3)
      have HCr := Lib.hid (Kd.C_below HCr.out hB3)
      clear hB3
      go_wp2_with fail
      refine Calls.mono (bytesEqual_n A6 (n - N) c6 _ Ar (n - N) (cap - N) _ w3 HRL.out HRL.out HC6.out hc6 HCr.out (by omega) hx6 hx6) ?_
      rintro e wk ⟨bq, rfl, hbq, hB4⟩
      obtain rfl : bq = true := by rw [hbq.out]; simp
      clear hbq
      have HBK := Lib.hid (HB3.out.trans (hB4.mono HB3.out.size))
      clear hB4
      clear HCr hx5 hx6 HBL HRL HC5 HC6 HCm hrm hrr hN6 hNn hc5 hc6
      go_wp2_with fail
    case' neg =>
      have heb : (ne == 0) = false := by simpa using h0
      have heb2 : (ne != 0) = true := by simpa using h0
      have hN0 : N = 0 := by rw [hN, refN, if_neg (by rw [← HNE.out]; exact h0)]
      obtain ⟨e5, _, _⟩ := Kd.R_reads' HR5.out
      obtain ⟨e6, _, _⟩ := Kd.R_reads' HR6.out
      have hn5 : n5 = 0 := by rw [e5, nextBody, if_neg (by rw [← HNE.out]; exact h0)]; rfl
      have hn6 : n6 = 0 := by rw [e6, nextRest, if_neg (by rw [← HNE.out]; exact h0)]; rfl
      subst hn5 hn6 hN0
      clear e5 e6 hN h0
      have HBK := HB2
      obtain ⟨wk, hwk⟩ : ∃ wk, wk = w2 := ⟨_, rfl⟩
      rw [← hwk] at HBK ⊢
      clear hwk
      go_wp2_with fail
    all_goals
      refine Calls.mono (all_any A n cap xs wk HN.out (Kd.C_below HC.out HBK.out) hc hx (by omega)) ?_
      rintro e w5 ⟨v1, l, used, err, rfl, hall, hR1, hB5⟩
      obtain ⟨A1, c1, rfl⟩ := Kd.R_slice hR1
      obtain ⟨_, hc1, hC1⟩ := Kd.R_reads' hR1
      have hst : RdAt xs l used err 0 0 := RdAt.start (by rw [HN.out]; exact hall)
      have hlm := Kd.C_max hC1
      have HST := Lib.hid hst
      have HC1 := Lib.hid hC1
      have HB5 := Lib.hid (HBK.out.trans (hB5.mono HBK.out.size))
      obtain ⟨i0, hi, _, hz1, _⟩ := info_parts info_byte
      have HI := Lib.hid hi
      have HZ := Lib.hid hz1
      clear hst hall hR1 hB5 hC1 hi hz1
      go_wp2_with fail
      go_loopw [11, 78] (fun t i wr => ∃ k j : Nat, i = .int .i64 k ∧ t = .int .i64 j ∧ k ≤ l.length ∧ j ≤ n ∧ Hid (RdAt xs l used err k j) ∧ Below w5.heap.size w5 wr) (fun _ i _ => l.length - (intOf i).toNat)
      case atStart => exact ⟨0, 0, rfl, rfl, Nat.zero_le _, Nat.zero_le _, HST, Below.refl _ _⟩
      case round =>
        obtain ⟨k, j, rfl, rfl, hk, hj, HR, hb⟩ := hrel
        have HBR := Lib.hid (HB5.out.trans (hb.mono HB5.out.size))
        have HB := Lib.hid hb
        clear hb
        obtain ⟨Ad, hrd, hCd⟩ := drop_row (P := Try.prog) 22 5 Try.underlying22 HI.out HZ.out A cap j xs (by rw [HN.out]; exact hj) (by rw [HN.out]; exact hc) (by rw [HN.out]; exact HC.out)
        rw [HN.out] at hrd hCd
        have hdl : (xs.drop j).length = n - j := by rw [List.length_drop, HN.out]
        have HDL := Lib.hid hdl
        have HCD := Lib.hid (Kd.C_below hCd HBR.out)
        have hxd : BytesOk (xs.drop j) := fun z hz => hx z (List.mem_of_mem_drop hz)
        clear hdl hCd
        by_cases hlt : k < l.length
        · obtain ⟨ad, x, Ax, cx, rfl, hxk, hcell, hlx, hCx⟩ := C_nth_slice (Kd.C_below HC1.out HB.out) k hlt
          obtain ⟨s1, s2, s3, s4⟩ := HR.out.step hxk
          obtain ⟨f1, f2, f3, f4, f5⟩ := next_facts s1
          obtain ⟨N2, hN2⟩ : ∃ N2, N2 = 6 + headN (xs.drop j) := ⟨_, rfl⟩
          rw [← hN2] at s3 s4
          rw [HN.out] at s3
          have hrn : refN (xs.drop j) = N2 := by rw [refN, if_pos s1, hN2]
          have hxe : x = (xs.drop (j + 6)).take (N2 - 6) := by rw [s2, nextBody, if_pos s1, bodyOf, List.drop_drop, hN2, Nat.add_sub_cancel_left]
          obtain ⟨Am, hrm, hCm⟩ := mid_row (P := Try.prog) 22 5 Try.underlying22 HI.out HZ.out A cap (j + 6) (j + N2) xs (by omega) (by rw [HN.out]; omega) (by rw [HN.out]; exact hc) (by rw [HN.out]; exact HC.out)
          have ej : j + N2 - (j + 6) = N2 - 6 := by omega
          rw [HN.out, ej] at hrm
          rw [ej, ← hxe] at hCm
          simp only [Int.natCast_add, Int.cast_ofNat_Int] at hrm
          have hN26 : 6 ≤ N2 := by omega
          have hxl : x.length = N2 - 6 := by rw [hxe, List.length_take, List.length_drop, HN.out]; omega
          have hxx : BytesOk x := fun z hz => hx z (by rw [hxe] at hz; exact List.mem_of_mem_drop (List.mem_of_mem_take hz))
          rw [hxl] at hcell hlx hCx
          have HXL := Lib.hid hxl
          have HCX := Lib.hid hCx
          have HCM := Lib.hid (Kd.C_below hCm HBR.out)
          have HS4 := Lib.hid s4
          have HRN := Lib.hid (And.intro hrn s1)
          have i0' : (0 : Int) ≤ (k : Int) := by omega
          have i1' : (k : Int) < (l.length : Int) := by omega
          have hmr : ∀ W : World, Below wr.heap.size wr W → (Kd.int .u8).C W Ax (N2 - 6) x ∧ (Kd.int .u8).C W Am (N2 - 6) x := fun W h => ⟨Kd.C_below HCX.out h, Kd.C_below HCM.out h⟩
          have HMR := Lib.hid hmr
          clear s1 s2 s4 f1 f2 f3 f4 f5 hN2 hrn hxe hxl hCx hCm hxk hmr ej
          go_wp2_with fail
          refine Calls.mono (refNext_n Ad (n - j) (cap - j) (xs.drop j) wr HDL.out HCD.out (by omega) hxd (by omega)) ?_
          rintro e w6 ⟨rfl, hB6⟩
          rw [HRN.out.1, HRN.out.2]
          have HB6 := Lib.hid (HB.out.trans (hB6.mono HB.out.size))
          have HC6 := Lib.hid (HMR.out w6 hB6)
          clear hB6
          go_wp2_with fail
          refine Calls.mono (bytesEqual_n Ax (N2 - 6) cx x Am (N2 - 6) (cap - (j + 6)) x w6 HXL.out HXL.out HC6.out.1 hlx HC6.out.2 (by omega) hxx hxx) ?_
          rintro e w7 ⟨bq, rfl, hbq, hB7⟩
          obtain rfl : bq = true := by rw [hbq.out]; simp
          clear hbq
          have HB7 := Lib.hid (HB6.out.trans (hB7.mono HB6.out.size))
          clear hB7
          go_wp2_with fail
          refine ⟨⟨k + 1, j + N2, by simp, by simp, by omega, by omega, HS4, HB7.out⟩, ?_⟩
          simp [intOf]
          omega
        · have hkl : k = l.length := by omega
          subst hkl
          obtain ⟨e1, e2, e3⟩ := HR.out.stop
          subst e1
          rw [HN.out] at e2 e3
          by_cases hjn : j = n
          · obtain rfl := e2 hjn
            subst hjn
            go_wp2_with (go_at_call 11; refine Calls.mono (awake_any _) ?_; rintro e w4 ⟨rfl, hB4⟩)
            go_ret
            exact ⟨rfl, HBR.out.trans (hB4.mono HBR.out.size)⟩
          · obtain ⟨e4, e5⟩ := e3 (by omega)
            have hjb : ((j : Int) == (n : Int)) = false := by simpa using (by omega : ¬ (j : Int) = (n : Int))
            have heb' : (err != 0) = true := by simpa using e5
            have HE4 := Lib.hid e4
            clear e2 e3 e4
            go_wp2_with fail
            refine Calls.mono (refNext_n Ad (n - j) (cap - j) (xs.drop j) wr HDL.out HCD.out (by omega) hxd (by omega)) ?_
            rintro e w6 ⟨rfl, hB6⟩
            rw [← HE4.out]
            have HB6 := Lib.hid (HBR.out.trans (hB6.mono HBR.out.size))
            clear hB6
            go_wp2_with (go_at_call 11; refine Calls.mono (awake_any _) ?_; rintro e w4 ⟨rfl, hB4⟩)
            go_ret
            exact ⟨rfl, HB6.out.trans (hB4.mono HB6.out.size)⟩
end Go.Proofs.Ytafkcjegahnolaa
