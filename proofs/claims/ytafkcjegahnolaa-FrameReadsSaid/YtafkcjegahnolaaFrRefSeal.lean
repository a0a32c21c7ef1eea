/- daisychainref02.Seal by its contract. -/
import Derived.Test.YtafkcjegahnolaaFrRef
import Derived.Test.YtafkcjegahnolaaFrTorn
namespace Go.Proofs.Ytafkcjegahnolaa
open Go.RowKit Go.Proofs.YtafkcjegahnolaaW.PrintWords

/-- A literal's row. -/
theorem R_lit_new {α : Type} {enc : α → Value} {h1 : ∀ x, (enc x).oneCell' = true} (w : World) (base e : Nat) (hb : base ≤ w.heap.size) (ok : Nat → Prop) (ho : ok w.heap.size) (cs : Array Value) (xs : List α) (n : Nat) (hn : xs.length = n) (hcs : cs.toList = xs.map enc) (hm : n ≤ maxLen) :
    (Kd.scalar enc h1).R e (w.alloc (.cells cs e)) base ok (.slice (some ⟨w.heap.size, 0, none⟩) n n) xs := by
  subst hn
  have hsz : cs.size = xs.length := by rw [← Array.length_toList, hcs, List.length_map]
  refine Kd.R_of_own ⟨by simp [encs], Or.inr ⟨w.heap.size, xs.length, cs, rfl, hb, heap_alloc_new w _, Nat.le_refl _, hm, by rw [hsz, Nat.mul_one], ?_⟩⟩ (fun k hk => ?_)
  · rw [hcs, Nat.mul_one, List.take_of_length_le (by simp)]
    rfl
  · have : w.heap.size = k := by simpa [Value.ownBlock] using hk
    exact this ▸ ho
theorem low2 (n : Nat) : lowN n 2 = [((n % 256 : Nat) : Int), ((n / 256 % 256 : Nat) : Int)] := by simp [lowN, List.range_succ]

set_option maxHeartbeats 800000 in
theorem refSeal_n (A : Option Addr) (n c : Nat) (xs : List Int) (w : World) (hn : xs.length = n) (hC : (Kd.int .u8).C w A n xs) (hc : n ≤ c) (hx : BytesOk xs) (hl : n ≤ 4096) :
    Calls Try.prog 17 #[.slice A n c] w fun e w' => ∃ A' c', e = .returned (.slice A' (n + 6) c') ∧ (Kd.int .u8).R 5 w' w.heap.size (fun _ => True) (.slice A' (n + 6) c') (sealOf xs) ∧ n + 6 ≤ c' ∧ (Kd.int .u8).C w' A' (n + 6) (sealOf xs) ∧ Below w.heap.size w w' := by
  have HC := Lib.hid hC
  have HN := Lib.hid hn
  clear hC hn
  go_enter Try.func17, Try.ntmps17
  go_upto_region 2 with (fail)
  have e1 : ((n : Int) % 256) = ((n % 256 : Nat) : Int) := by omega
  have e2 : ((n : Int) / 256) = ((n / 256 % 256 : Nat) : Int) := by omega
  have hR0 : (Kd.int .u8).R 5 (w.alloc (.cells #[.int .u8 ((n : Int) % 256), .int .u8 ((n : Int) / 256)] 5)) w.heap.size (fun _ => True) (.slice (some ⟨w.heap.size, 0, none⟩) 2 2) (lowN n 2) :=
    R_lit_new w w.heap.size 5 (Nat.le_refl _) _ trivial _ (lowN n 2) 2 (lowN_length _ _) (by rw [low2, e1, e2]; rfl) (by decide)
  have hB0 : Below w.heap.size w (w.alloc (.cells #[.int .u8 ((n : Int) % 256), .int .u8 ((n : Int) / 256)] 5)) := (Below.refl _ w).alloc (Nat.le_refl _) _
  generalize w.alloc (.cells #[.int .u8 ((n : Int) % 256), .int .u8 ((n : Int) / 256)] 5) = w1 at *
  have HR0 := Lib.hid hR0
  have HC0 := Lib.hid (Kd.R_reads' hR0).2.2
  have HB0 := Lib.hid hB0
  have hlow := lowN_length n 2
  clear hR0 hB0 e1 e2
  go_wp2_with (first
    | (at_builtin; refine Kd.R_append_rows (Kd.int .u8) (w0 := w1) w1.heap.size rfl (.tmp 15) (.tmp 16) 22 5 (.int .u8 0) 1 rfl Try.underlying22 info_byte rfl (by decide) (by omega) (.slice (some ⟨w1.heap.size, 0, none⟩) 0 0) [] (lowN n 2) (some ⟨w.heap.size, 0, none⟩) 2 2 (fun _ => True) (fun _ => False) rfl rfl (R_empty _ _ _ _ _ (Nat.le_refl _) trivial) (Kd.C_alloc HC0.out _) (fun _ _ h => h) (fun _ h => h.elim) (fun _ _ => trivial) ((Below.refl _ _).alloc (Nat.le_refl _) _) (by simp) (by simp) ?_; intro v3 w3 hR3 hB3 hgr hat2; clear hgr hat2
       rw [List.nil_append] at hR3
       have HR3 := Lib.hid hR3
       have HB3 := Lib.hid hB3
       clear hR3 hB3)
    | (at_builtin; refine Kd.R_append_rows (Kd.int .u8) (w0 := w1) w1.heap.size rfl (.tmp 17) (.tmp 18) 22 5 (.int .u8 0) 1 rfl Try.underlying22 info_byte rfl (by decide) (by omega) v3 (lowN n 2) xs A n c (fun _ => True) (fun _ => False) rfl rfl HR3.out (Kd.C_below (Kd.C_below HC.out HB0.out) HB3.out) (fun _ _ h => h) (fun _ h => h.elim) (fun _ _ => trivial) HB3.out HB3.out.size (by rw [lowN_length]; omega) ?_; intro v4 w4 hR4 hB4 hgr hat2; clear hgr hat2
       obtain ⟨A4, c4, hv4, hc4, hC4⟩ := Kd.R_reads hR4
       have HV4 := Lib.hid hv4
       have HC4 := Lib.hid hC4
       have HB4 := Lib.hid hB4
       clear hR4 hB4 hv4 hC4))
  have hlen4 : (lowN n 2 ++ xs).length = 2 + n := by rw [List.length_append, lowN_length, HN.out]
  refine Calls.mono (by have := refSum_n A4 (lowN n 2 ++ xs).length c4 (lowN n 2 ++ xs) w4 rfl HC4.out ((lowN_ok _ _).app hx) (by rw [hlen4]; omega); rw [← HV4.out] at this; exact this) ?_
  rintro e w5 ⟨sm, rfl, HSM, hB5⟩
  have hsl : sm < 4294967296 := by rw [HSM.out]; exact sumOf_lt _
  have HR5 := Lib.hid (Kd.R_below (Kd.R_below HR0.out HB4.out) hB5)
  have HB5 := Lib.hid (HB0.out.trans ((HB4.out.trans (hB5.mono HB4.out.size)).mono HB0.out.size))
  clear hB5 hlen4
  go_wp2_with fail
  go_loopw [3, 4, 5] (fun v m i wq => ∃ k : Nat, k ≤ 4 ∧ i = .int .i64 k ∧ m = .int .u32 (sm / 2 ^ (8 * k) : Nat) ∧ (Kd.int .u8).R 5 wq w.heap.size (fun _ => True) v (lowN n 2 ++ lowN sm k) ∧ Below w.heap.size w wq) (fun _ _ i _ => 4 - (intOf i).toNat)
  case atStart => exact ⟨0, by omega, rfl, by simp, by simpa [lowN] using HR5.out, HB5.out⟩
  case round =>
    obtain ⟨k, hk, rfl, rfl, hR, hb⟩ := hrel
    have HR := Lib.hid hR
    have HB := Lib.hid hb
    clear hR hb
    obtain ⟨m, hm⟩ : ∃ m, m = sm / 2 ^ (8 * k) := ⟨_, rfl⟩
    rw [← hm]
    have hml : m < 4294967296 := by rw [hm]; exact Nat.lt_of_le_of_lt (Nat.div_le_self _ _) hsl
    have HM := Lib.hid hm
    clear hm
    by_cases hlk : k < 4
    · have hll : (lowN n 2 ++ lowN sm k).length ≤ 100 := by rw [List.length_append, lowN_length, lowN_length]; omega
      go_wp2_with (first | (at_builtin; refine Kd.R_append (Kd.int .u8) (w0 := w) w.heap.size rfl (.tmp 25) (.tmp 29) 22 5 (.int .u8 0) 1 rfl Try.underlying22 info_byte rfl (by decide) (by omega) u3 (lowN n 2 ++ lowN sm k) ((m : Int) % 256) [.int .u8 ((m : Int) % 256)] (fun _ => True) (fun _ => False) rfl rfl rfl (fun _ hk => hk.elim) (fun _ _ => trivial) HR.out HB.out HB.out.size (by omega) ?_; intro v1 w6 h1 h2 hgr hat2; clear hgr hat2
                            have H1 := Lib.hid h1
                            have H2 := Lib.hid h2
                            clear h1 h2))
      refine ⟨⟨k + 1, by omega, by simp, ?_, ?_, H2.out⟩, loop_dec hlk⟩
      · rw [show 8 * (k + 1) = 8 * k + 8 by omega, Nat.pow_add, ← Nat.div_div_eq_div_mul, ← HM.out]
        simp
      · rw [lowN_succ sm k, ← List.append_assoc, ← HM.out]
        have := H1.out
        simpa using this
    · have : k = 4 := by omega
      subst this
      go_wp2_with (first | (at_builtin; refine Kd.R_append_rows (Kd.int .u8) (w0 := w) w.heap.size rfl (.tmp 33) (.tmp 34) 22 5 (.int .u8 0) 1 rfl Try.underlying22 info_byte rfl (by decide) (by omega) u3 (lowN n 2 ++ lowN sm 4) xs A n c (fun _ => True) (fun _ => False) rfl rfl HR.out (Kd.C_below HC.out HB.out) (fun _ _ h => h) (fun _ h => h.elim) (fun _ _ => trivial) HB.out HB.out.size (by rw [List.length_append, lowN_length, lowN_length]; omega) ?_; intro v4 w7 hR4 hB4 hgr hat2; clear hgr hat2
                            have e : lowN n 2 ++ lowN sm 4 ++ xs = sealOf xs := by rw [sealOf, headOf, HN.out, HSM.out]
                            rw [e] at hR4
                            obtain ⟨A7, c7, hv7, hc7, hC7⟩ := Kd.R_reads hR4
                            rw [sealOf_length, HN.out] at hv7 hc7 hC7
                            have HV7 := Lib.hid hv7
                            have HR7 := Lib.hid hR4
                            have HC7 := Lib.hid hC7
                            have HB7 := Lib.hid hB4
                            clear hR4 hB4 hv7 hC7 e))
      go_ret
      refine ⟨A7, c7, by rw [HV7.out]; rfl, ?_, hc7, HC7.out, HB7.out⟩
      rw [← HV7.out]
      exact HR7.out
end Go.Proofs.Ytafkcjegahnolaa
