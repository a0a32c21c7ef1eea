/- cmp.Compare at int. -/
import Derived.Test.YtehkhopkedbngaaBase
namespace Go.Proofs.Ytehkhopkedbngaa
open Go.RowKit Go.Proofs.YtehkhopkedbngaaW.PrintWords

def cmpI (a b : Int) : Int := if a < b then -1 else if a > b then 1 else 0
set_option maxHeartbeats 400000 in
theorem cmpInt_any (a b : Int) (w : World) : Calls Try.prog 33 #[.int .i64 a, .int .i64 b] w fun e w' => e = .returned (.int .i64 (cmpI a b)) ∧ w = w' := by
  have h1 : (a != a) = false := by simp
  have h2 : (b != b) = false := by simp
  by_cases h : a < b
  · rw [show cmpI a b = -1 from if_pos h]
    go_enter Try.func33, Try.ntmps33
    go_wp2
    go_ret
    exact ⟨rfl, rfl⟩
  · by_cases h' : b < a
    · rw [show cmpI a b = 1 from (if_neg h).trans (if_pos h')]
      go_enter Try.func33, Try.ntmps33
      go_wp2
      go_ret
      exact ⟨rfl, rfl⟩
    · rw [show cmpI a b = 0 from (if_neg h).trans (if_neg h')]
      go_enter Try.func33, Try.ntmps33
      go_wp2
      go_ret
      exact ⟨rfl, rfl⟩
theorem cmpI_lt (a b : Int) : cmpI a b < 0 ↔ a < b := by
  unfold cmpI
  by_cases h : a < b
  · simp [h]
  · by_cases h' : b < a <;> simp [h, h']
end Go.Proofs.Ytehkhopkedbngaa
