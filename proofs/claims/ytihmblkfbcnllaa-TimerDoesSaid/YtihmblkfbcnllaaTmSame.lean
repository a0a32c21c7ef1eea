/- The document's Due, and 'same', of a timer's rows. -/
import Derived.Test.YtihmblkfbcnllaaTmT2
import Derived.Deep.QuietTactic
import Derived.BigQuiet
namespace Go.Proofs.Ytihmblkfbcnllaa
open Go.RowKit Go.Proofs.YtihmblkfbcnllaaW.PrintWords

theorem tDue_at {s : List It} {now : Int} {j : Nat} {x : It} (hj : j ≤ tDue s now) (hx : s[j]? = some x) : (x.2 ≤ now → j + 1 ≤ tDue s now) ∧ (¬ x.2 ≤ now → tDue s now = j) := by
  induction s generalizing j with
  | nil => simp at hx
  | cons p s ih =>
    rw [tDue_cons] at hj ⊢
    by_cases hp : p.2 ≤ now
    · rw [if_pos hp] at hj ⊢
      cases j with
      | zero =>
        obtain rfl : p = x := by simpa using hx
        exact ⟨fun _ => by omega, fun h => absurd hp h⟩
      | succ j =>
        have := ih (j := j) (by omega) (by simpa using hx)
        exact ⟨fun h => by have := this.1 h; omega, fun h => by have := this.2 h; omega⟩
    · rw [if_neg hp] at hj ⊢
      obtain rfl : j = 0 := by omega
      obtain rfl : p = x := by simpa using hx
      exact ⟨fun h => absurd h hp, fun _ => rfl⟩

set_option maxHeartbeats 400000 in
theorem refDue_any (A : Option Addr) (n cap : Nat) (xs : List It) (now : Int) (w : World) (hC : KIt.C w A n xs) :
    Calls Try.prog 21 #[.slice A n cap, .int .i64 now] w fun e w' => e = .returned (.int .i64 (tDue xs now : Nat)) ∧ Below w.heap.size w w' := by
  have HN := Lib.hid (Kd.C_len hC)
  have HC := Lib.hid hC
  have hm := Kd.C_max hC
  clear hC
  go_enter Try.func21, Try.ntmps21
  go_wp2_with fail
  go_loopw [5] (fun i wr => ∃ j : Nat, i = .int .i64 j ∧ j ≤ n ∧ Hid (j ≤ tDue xs now) ∧ Below w.heap.size w wr) (fun i _ => n - (intOf i).toNat)
  case atStart => exact ⟨0, rfl, Nat.zero_le _, Lib.hid (Nat.zero_le _), Below.refl _ _⟩
  case round =>
    obtain ⟨j, rfl, hj, hd, hB⟩ := hrel
    have HB := Lib.hid hB
    clear hB
    by_cases hjn : j < n
    · obtain ⟨ad, x, rfl, hx, d0, d1⟩ := C_nth_it (Kd.C_below HC.out HB.out) j hjn
      have i0 : (0 : Int) ≤ (j : Int) := by omega
      have i1 : (j : Int) < (n : Int) := by omega
      have hds := Lib.hid (tDue_at hd.out hx)
      clear hx
      by_cases hx : x.2 ≤ now
      · go_wp2_with fail
        refine ⟨⟨j + 1, by simp, by omega, Lib.hid (hds.out.1 hx), HB.out⟩, ?_⟩
        simp [intOf]
        omega
      · go_wp2_with fail
        go_ret
        exact ⟨by rw [hds.out.2 hx]; rfl, HB.out⟩
    · have hjn' : j = n := by omega
      subst hjn'
      have he : tDue xs now = j := by
        have := hd.out
        have h2 := tDue_le xs now
        have h3 := HN.out
        omega
      go_wp2_with fail
      go_ret
      exact ⟨by rw [he]; rfl, HB.out⟩

set_option maxHeartbeats 400000 in
theorem same_yes (A : Option Addr) (n c : Nat) (xs : List It) (A2 : Option Addr) (c2 : Nat) (w : World) (hC : KIt.C w A n xs) (hC2 : KIt.C w A2 n xs) :
    Calls Try.prog 22 #[.slice A n c, .slice A2 n c2] w fun e w' => e = .returned (.bool true) ∧ Below w.heap.size w w' := by
  have HC := Lib.hid hC
  have HC2 := Lib.hid hC2
  have hm := Kd.C_max hC
  have hnn : ((n : Int) != (n : Int)) = false := by simp
  clear hC hC2
  go_enter Try.func22, Try.ntmps22
  go_wp2_with fail
  go_loopw [13] (fun i wr => ∃ j : Nat, i = .int .i64 j ∧ j ≤ n ∧ Below w.heap.size w wr) (fun i _ => n - (intOf i).toNat)
  case atStart => exact ⟨0, rfl, Nat.zero_le _, Below.refl _ _⟩
  case round =>
    obtain ⟨j, rfl, hj, hB⟩ := hrel
    have HB := Lib.hid hB
    clear hB
    by_cases hjn : j < n
    · obtain ⟨ad, x, rfl, hx, d0, d1⟩ := C_nth_it (Kd.C_below HC.out HB.out) j hjn
      obtain ⟨ad2, y, rfl, hy, f0, f1⟩ := C_nth_it (Kd.C_below HC2.out HB.out) j hjn
      obtain rfl : y = x := Option.some.inj (hy.symm.trans hx)
      have i0 : (0 : Int) ≤ (j : Int) := by omega
      have i1 : (j : Int) < (n : Int) := by omega
      have hxa : (y.1 != y.1) = false := by simp
      have hxb : (y.2 != y.2) = false := by simp
      clear hx hy
      go_wp2_with fail
      go_quiet (fail)
      go_wp2_with fail
      refine ⟨⟨j + 1, by simp, by omega, HB.out.trans ((pw_below_drewN (Below.refl _ _) _).mono HB.out.size)⟩, ?_⟩
      simp [intOf]
      omega
    · have hjn' : j = n := by omega
      subst hjn'
      go_wp2_with fail
      go_ret
      exact ⟨rfl, HB.out⟩
end Go.Proofs.Ytihmblkfbcnllaa
