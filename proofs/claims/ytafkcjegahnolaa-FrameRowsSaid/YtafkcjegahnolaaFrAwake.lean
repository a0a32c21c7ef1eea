/- daisychainlaw02.awake by its contract: it is true. -/
import Derived.Test.YtafkcjegahnolaaFrNext
import Derived.Lib.SlBytesConst
import Derived.OpenShut
namespace Go.Proofs.Ytafkcjegahnolaa
open Go.RowKit Go.Proofs.YtafkcjegahnolaaW.PrintWords

theorem BytesOk.of_wf {xs : List Int} (h : ∀ x ∈ xs, (Lit.int .u8 x).wf = true) : BytesOk xs := by
  intro x hx
  have := bounds_u8 (h x hx)
  omega
def abSeal : List Int := [2, 0, 5, 77, 23, 84, 97, 98]
theorem ab_err : sealErr [97, 98] = 0 := rfl
theorem ab_bytes : sealBytes [97, 98] = abSeal := by decide +kernel
theorem ab_next : nextErr (abSeal ++ [7]) = 0 ∧ nextBody (abSeal ++ [7]) = [97, 98] ∧ nextRest (abSeal ++ [7]) = [7] := by decide +kernel
theorem nine_sum : sumOf [49, 50, 51, 52, 53, 54, 55, 56, 57] = 3421780262 := by decide +kernel
theorem ok_const {l : List Int} (h : l.all (fun x => decide (0 ≤ x ∧ x < 256)) = true) : BytesOk l := by
  intro x hx
  simpa using List.all_eq_true.1 h x hx

/-- A row of scalars that is a new block's cells, marked or not. -/
theorem C_mark {α : Type} {enc : α → Value} {h1 : ∀ x, (enc x).oneCell' = true} (w : World) (cs : Array Value) (t : TypeId) (fr : Nat × Nat) (xs : List α) (hcs : cs.toList = xs.map enc) (hm : xs.length ≤ 9223372036854775807) :
    (Kd.scalar enc h1).C (w.alloc (.cells cs t fr)) (some ⟨w.heap.size, 0, none⟩) xs.length xs := by
  refine ⟨rfl, hm, fun _ => ⟨_, rfl, fun j x hj => ⟨[enc x], rfl, rfl, fun i u hu => ?_⟩⟩⟩
  match i, hu with
  | 0, hu =>
    obtain rfl := Option.some.inj hu
    rw [add_plain, World.cell?_alloc_mark, ← Array.getElem?_toList, hcs, List.getElem?_map, Nat.add_zero]
    simp [Kd.scalar, hj]
  | i + 1, hu => simp at hu

set_option maxHeartbeats 800000 in
theorem awake_any (w : World) : Calls Try.prog 11 #[] w fun e w' => e = .returned (.bool true) ∧ Below w.heap.size w w' := by
  have kc := fun (w : World) (C : Array Value) (n c : Nat) => Lib.run_convert_bytes_const (P := Try.prog) w 22 5 C n c Try.underlying22 Try.underlying5
  go_enter Try.func11, Try.ntmps11
  go_wp2_with fail
  refine Calls.mono (seal_any (some ⟨w.heap.size, 0, none⟩) 2 [97, 98] _ (C_mark w _ _ _ [97, 98] rfl (by decide)) (by decide) (ok_const (by decide))) ?_
  rintro e w1 ⟨A1, n1, c1, rfl, hR1, hB1⟩
  rw [ab_err]
  rw [ab_bytes] at hR1
  obtain ⟨hn1, hc1, hC1⟩ := Kd.R_reads' hR1
  subst hn1
  have HR1 := Lib.hid hR1
  have HC1 := Lib.hid hC1
  have HB1 := Lib.hid (((Below.refl w.heap.size w).alloc (Nat.le_refl _) _).trans (hB1.mono (by simp)))
  clear hR1 hC1 hB1
  go_wp2_with (first
    | (at_builtin; refine Kd.R_append_rows (Kd.int .u8) (w0 := w) w.heap.size rfl (.tmp 13) (.tmp 14) 22 5 (.int .u8 0) 1 rfl Try.underlying22 info_byte rfl (by decide) (by omega) (.slice (some ⟨w1.heap.size, 0, none⟩) 0 0) [] abSeal A1 abSeal.length c1 (fun _ => True) (fun _ => False) rfl rfl (R_empty _ _ _ _ _ HB1.out.size trivial) (Kd.C_alloc HC1.out _) (fun _ _ h => h) (fun _ h => h.elim) (fun _ _ => trivial) (HB1.out.alloc HB1.out.size _) (Nat.le_trans HB1.out.size (by simp)) (by decide) ?_; intro v2 w2 hR2 hB2 _ _)
    | (at_builtin; refine Kd.R_append (Kd.int .u8) (w0 := w) w.heap.size rfl (.tmp 15) (.tmp 16) 22 5 (.int .u8 0) 1 rfl Try.underlying22 info_byte rfl (by decide) (by omega) v2 abSeal 7 [.int .u8 7] (fun _ => True) (fun _ => False) rfl rfl rfl (fun _ hk => hk.elim) (fun _ _ => trivial) hR2 hB2 hB2.size (by decide) ?_; intro v3 w3 hR3 hB3 _ _))
  obtain ⟨A3, c3, hv3, hc3, hC3⟩ := Kd.R_reads hR3
  have HV3 := Lib.hid hv3
  have HC3 := Lib.hid hC3
  have HB3 := Lib.hid hB3
  clear hv3 hC3 hB3 hR3 hB2 hR2
  go_wp2_with fail
  refine Calls.mono (by have := next_any A3 c3 (abSeal ++ [7]) w3 HC3.out hc3 (ok_const (by decide)) (by decide); rw [← HV3.out] at this; exact this) ?_
  rintro e w4 ⟨A4, n4, c4, A5, n5, c5, rfl, hR4, hR5, hB4⟩
  rw [ab_next.1]
  rw [ab_next.2.1] at hR4
  rw [ab_next.2.2] at hR5
  obtain ⟨hn5, hc5, hC5⟩ := Kd.R_reads' hR5
  subst hn5
  have HR4 := Lib.hid hR4
  have HC5 := Lib.hid hC5
  have HB4 := Lib.hid (HB3.out.trans (hB4.mono HB3.out.size))
  clear hR4 hR5 hC5 hB4
  go_wp2_with fail
  refine Calls.mono (sum_hid (some ⟨w4.heap.size, 0, none⟩) 9 9 [49, 50, 51, 52, 53, 54, 55, 56, 57] _ rfl (C_mark w4 _ _ _ _ rfl (by decide)) (ok_const (by decide))) ?_
  rintro e w5 ⟨sm, rfl, _, hsm, hB5⟩
  obtain rfl : sm = 3421780262 := hsm.out.trans nine_sum
  have hB5 : Below w4.heap.size w4 w5 := ((Below.refl w4.heap.size w4).alloc (Nat.le_refl _) _).trans (hB5.mono (by simp))
  have hs5 := own_string (P := Try.prog) (src := 22) (dst := 9) Try.underlying22 Try.underlying5 Try.underlying9 (Kd.own_of_R (Kd.R_below HR4.out hB5))
  have hst : strOfNums [97, 98] = ⟨#[97, 98]⟩ := rfl
  rw [hst] at hs5
  obtain ⟨ad5, x5, hA5, hx5, hc5⟩ := C_nth_scalar (Kd.C_below HC5.out hB5) 0 (by decide)
  obtain rfl : (7 : Int) = x5 := Option.some.inj hx5
  subst hA5
  have hc5 : w5.cell? ad5 = some (.int .u8 7) := by simpa [Addr.add] using hc5
  have HB5 := Lib.hid (HB4.out.trans (hB5.mono HB4.out.size))
  clear hB5 hsm
  go_wp2_with fail
  go_ret
  exact ⟨rfl, HB5.out⟩
end Go.Proofs.Ytafkcjegahnolaa
