/- frame.low, frame.sealed, frame.Seal by their contracts. -/
import Derived.Test.YtafkcjegahnolaaFrSum
namespace Go.Proofs.Ytafkcjegahnolaa
open Go.RowKit Go.Proofs.YtafkcjegahnolaaW.PrintWords

theorem sumOf_lt (l : List Int) : sumOf l < 4294967296 := Nat.lt_of_le_of_lt (Nat.sub_le _ _) (by decide)
/-- So many bytes of a number, the lowest first. -/
def lowN (n : Nat) (m : Nat) : List Int := (List.range m).map (fun k => ((n / 2 ^ (8 * k) % 256 : Nat) : Int))
theorem lowN_succ (n m : Nat) : lowN n (m + 1) = lowN n m ++ [((n / 2 ^ (8 * m) % 256 : Nat) : Int)] := by simp [lowN, List.range_succ]
theorem lowN_length (n m : Nat) : (lowN n m).length = m := by simp [lowN]
theorem lowN_ok (n m : Nat) : BytesOk (lowN n m) := by
  intro x hx
  simp only [lowN, List.mem_map] at hx
  obtain ⟨k, _, rfl⟩ := hx
  omega
/-- The head of a frame. -/
def headOf (l : List Int) : List Int := lowN l.length 2 ++ lowN (sumOf (lowN l.length 2 ++ l)) 4
def sealOf (l : List Int) : List Int := headOf l ++ l
theorem headOf_length (l : List Int) : (headOf l).length = 6 := by simp [headOf, lowN_length]
theorem sealOf_length (l : List Int) : (sealOf l).length = l.length + 6 := by simp [sealOf, headOf_length]; omega
theorem BytesOk.app {l m : List Int} (h : BytesOk l) (h2 : BytesOk m) : BytesOk (l ++ m) := by
  intro x hx
  rcases List.mem_append.1 hx with hx | hx
  · exact h x hx
  · exact h2 x hx
theorem headOf_ok (l : List Int) : BytesOk (headOf l) := (lowN_ok _ _).app (lowN_ok _ _)
theorem sealOf_ok {l : List Int} (h : BytesOk l) : BytesOk (sealOf l) := (headOf_ok l).app h

set_option maxHeartbeats 400000 in
theorem low_any (w0 w : World) (v : Value) (l : List Int) (n m : Nat) (HO : (Kd.int .u8).R 5 w w0.heap.size (fun _ => True) v l) (HB : Below w0.heap.size w0 w) (hn : n < 4294967296) (hm : m ≤ 4) (hl : l.length ≤ 1000) :
    Calls Try.prog 25 #[v, .int .u32 n, .int .i64 m] w fun e w' => ∃ v', e = .returned v' ∧ (Kd.int .u8).R 5 w' w0.heap.size (fun _ => True) v' (l ++ lowN n m) ∧ Below w0.heap.size w0 w' := by
  have HO := Lib.hid HO
  have HB := Lib.hid HB
  go_enter Try.func25, Try.ntmps25
  go_wp2_with fail
  go_loopw [0, 7, 9] (fun v _ i wr => ∃ k : Nat, k ≤ m ∧ i = .int .i64 k ∧ (Kd.int .u8).R 5 wr w0.heap.size (fun _ => True) v (l ++ lowN n k) ∧ Below w0.heap.size w0 wr) (fun _ _ i _ => m - (intOf i).toNat)
  case atStart => exact ⟨0, by omega, rfl, by simpa [lowN] using HO.out, HB.out⟩
  case round =>
    obtain ⟨k, hk, rfl, hR, hb⟩ := hrel
    have HR := Lib.hid hR
    have HB := Lib.hid hb
    clear hR hb
    by_cases hlt : k < m
    · have hlen : (l ++ lowN n k).length ≤ 1010 := by rw [List.length_append, lowN_length]; omega
      go_wp2_with (first | (at_builtin; refine Kd.R_append (Kd.int .u8) (w0 := w0) w0.heap.size rfl (.tmp 12) (.tmp 18) 22 5 (.int .u8 0) 1 rfl Try.underlying22 info_byte rfl (by decide) (by omega) u0 (l ++ lowN n k) ((n : Int) / 2 ^ (8 * k) % 256) [.int .u8 ((n : Int) / 2 ^ (8 * k) % 256)] (fun _ => True) (fun _ => False) rfl rfl rfl (fun _ hk => hk.elim) (fun _ _ => trivial) HR.out HB.out HB.out.size (by omega) ?_; intro v1 w2 h1 h2 _ _))
      have H1 := Lib.hid h1
      have H2 := Lib.hid h2
      clear h1 h2
      go_wp2_with fail
      refine ⟨⟨k + 1, by omega, by simp, ?_, H2.out⟩, loop_dec hlt⟩
      rw [lowN_succ, ← List.append_assoc]
      have := H1.out
      simpa using this
    · have : k = m := by omega
      subst this
      go_wp2_with fail
      go_ret
      exact ⟨_, rfl, HR.out, HB.out⟩

theorem sum_hid (A : Option Addr) (n c : Nat) (xs : List Int) (w : World) (hn : n = xs.length) (hC : (Kd.int .u8).C w A xs.length xs) (hx : BytesOk xs) :
    Calls Try.prog 12 #[.slice A n c] w fun e w' => ∃ sm : Nat, e = .returned (.int .u32 sm) ∧ sm < 4294967296 ∧ Hid (sm = sumOf xs) ∧ Below w.heap.size w w' := by
  subst hn
  refine Calls.mono (sum_any A c xs w hC hx) ?_
  rintro e w' ⟨rfl, hB⟩
  exact ⟨_, rfl, sumOf_lt _, Lib.hid rfl, hB⟩

set_option maxHeartbeats 400000 in
theorem sealed_any (A : Option Addr) (c : Nat) (xs : List Int) (w : World) (hC : (Kd.int .u8).C w A xs.length xs) (hc : xs.length ≤ c) (hx : BytesOk xs) (hl : xs.length ≤ 5000) :
    Calls Try.prog 22 #[.slice A xs.length c] w fun e w' => ∃ v, e = .returned v ∧ (Kd.int .u8).R 5 w' w.heap.size (fun _ => True) v (headOf xs) ∧ Below w.heap.size w w' := by
  have HC := Lib.hid hC
  clear hC
  go_enter Try.func22, Try.ntmps22
  have hmod : (xs.length : Int) % 4294967296 = (xs.length : Nat) := by omega
  go_wp2_with fail
  refine Calls.mono (low_any w w (.slice none 0 0) [] xs.length 2 (Kd.R_nil _ _ _ _ _) (Below.refl _ _) (by omega) (by omega) (by simp)) ?_
  rintro e w1 ⟨v1, rfl, h1, h2⟩
  rw [List.nil_append] at h1
  obtain ⟨A1, c1, rfl, hc1, hC1⟩ := Kd.R_reads h1
  rw [lowN_length] at h1 hc1 hC1 ⊢
  have H1 := Lib.hid h1
  have H2 := Lib.hid h2
  have HC1 := Lib.hid hC1
  clear h1 h2 hC1
  go_wp2_with fail
  refine Calls.mono (concat2_byte w1.heap.size 22 A1 A 2 xs.length c1 c (lowN xs.length 2) xs _ (heap_alloc_new w1 _) (Kd.C_alloc HC1.out _) (by omega) (Kd.C_alloc (Kd.C_below HC.out H2.out) _) hc (by omega)) ?_
  rintro e w2 ⟨A2, n2, c2, rfl, hn2, hR2, hB2⟩
  obtain ⟨hdrop, hc2, hC2⟩ := Kd.R_reads' hR2
  clear hdrop
  have HR1 := Lib.hid (Kd.R_below (Kd.R_alloc H1.out _) hB2)
  have HB2 := Lib.hid ((H2.out.alloc H2.out.size _).trans (hB2.mono (Nat.le_trans H2.out.size (by simp))))
  have HC2 := Lib.hid hC2
  have HN2 := Lib.hid hn2
  clear hR2 hB2 hC2 hn2
  go_wp2_with fail
  refine Calls.mono (sum_hid A2 n2 c2 (lowN xs.length 2 ++ xs) w2 HN2.out HC2.out ((lowN_ok _ _).app hx)) ?_
  rintro e w3 ⟨sm, rfl, hs3, HSM, hB3⟩
  have HR3 := Lib.hid (Kd.R_below HR1.out hB3)
  have HB3 := Lib.hid (HB2.out.trans (hB3.mono HB2.out.size))
  clear hB3
  go_wp2_with fail
  refine Calls.mono (low_any w w3 _ (lowN xs.length 2) sm 4 HR3.out HB3.out hs3 (by omega) (by simp [lowN_length])) ?_
  rintro e w4 ⟨v4, rfl, hR4, hB4⟩
  go_wp2_with fail
  go_ret
  refine ⟨_, rfl, ?_, hB4⟩
  rw [HSM.out] at hR4
  exact hR4

def sealErr (xs : List Int) : Int := if xs.length > 4096 then 5 else 0
def sealBytes (xs : List Int) : List Int := if xs.length > 4096 then [] else sealOf xs

set_option maxHeartbeats 400000 in
theorem seal_any (A : Option Addr) (c : Nat) (xs : List Int) (w : World) (hC : (Kd.int .u8).C w A xs.length xs) (hc : xs.length ≤ c) (hx : BytesOk xs) :
    Calls Try.prog 14 #[.slice A xs.length c] w fun e w' => ∃ A' n' c', e = .returned (.tuple #[.slice A' n' c', .int .i64 (sealErr xs)]) ∧ (Kd.int .u8).R 5 w' w.heap.size (fun _ => True) (.slice A' n' c') (sealBytes xs) ∧ Below w.heap.size w w' := by
  have HC := Lib.hid hC
  clear hC
  by_cases hbig : xs.length > 4096
  · have h1 : sealErr xs = 5 := if_pos hbig
    have h2 : sealBytes xs = [] := if_pos hbig
    rw [h1, h2]
    have hbi : (4096 : Int) < xs.length := by omega
    go_enter Try.func14, Try.ntmps14
    go_wp2_with fail
    go_ret2
    exact ⟨_, _, _, rfl, Kd.R_nil _ _ _ _ _, Below.refl _ _⟩
  · have h1 : sealErr xs = 0 := if_neg hbig
    have h2 : sealBytes xs = sealOf xs := if_neg hbig
    rw [h1, h2]
    have hbi : ¬ (4096 : Int) < xs.length := by omega
    go_enter Try.func14, Try.ntmps14
    go_wp2_with fail
    refine Calls.mono (sealed_any A c xs w HC.out hc hx (by omega)) ?_
    rintro e w1 ⟨v1, rfl, hR1, hB1⟩
    have HR1 := Lib.hid hR1
    have HB1 := Lib.hid hB1
    have HCx := Lib.hid (Kd.C_below HC.out hB1)
    clear hR1 hB1
    go_wp2_with (first | (at_builtin; refine Kd.R_append_rows (Kd.int .u8) (w0 := w) w.heap.size rfl (.tmp 8) (.tmp 9) 22 5 (.int .u8 0) 1 rfl Try.underlying22 info_byte rfl (by decide) (by omega) v1 (headOf xs) xs A xs.length c (fun _ => True) (fun _ => False) rfl rfl HR1.out HCx.out (fun _ _ h => h) (fun _ h => h.elim) (fun _ _ => trivial) HB1.out HB1.out.size (by rw [headOf_length]; omega) ?_; intro v3 w3 hR hB _ _))
    obtain ⟨A3, c3, hv3⟩ := Kd.R_slice hR
    have HV := Lib.hid hv3
    have HR := Lib.hid hR
    clear hv3 hR
    go_wp2_with fail
    go_ret2
    refine ⟨A3, (headOf xs ++ xs).length, c3, by rw [HV.out]; rfl, ?_, hB⟩
    have := HR.out
    rw [HV.out] at this
    exact this
end Go.Proofs.Ytafkcjegahnolaa
