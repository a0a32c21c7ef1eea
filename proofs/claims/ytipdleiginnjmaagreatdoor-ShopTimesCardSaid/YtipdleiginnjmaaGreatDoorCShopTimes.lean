/- ShopTimes: what the program forces of its row, fact by fact. -/
import Derived.Test.YtipdleiginnjmaaGreatDoorCards
import Derived.JoinedCond
import Derived.WalkKit
namespace Go.Proofs.YtipdleiginnjmaaGreatDoor.shopTimes
open Go
set_option maxHeartbeats 400000000 in
set_option maxRecDepth 100000 in
theorem closed : joinedFacts Tryz.pinned.checked.prog 7 Tryz.f7 (OpenSpec.ofChange Rows.shopTimesSpec).bare Rows.shopTimesRow = true := by
  unfold joinedFacts
  repeat' (with_reducible refine (Bool.and_eq_true_iff.2 ⟨?_, ?_⟩))
  all_goals (as_aux_lemma => kernel_rfl)
end Go.Proofs.YtipdleiginnjmaaGreatDoor.shopTimes
