/-
  No cell of these rows narrows 'for every input' (looked for: loops, veiled, ifaces, maps, wideKeys, modest, calm, conditions, laid).
  DERIVED. THE GIVEN ROWS OF THIS SEAT. 6 by the template 'for every input the law returns true; each argument reads behind the call as it read before'; 0 by the template 'total and deterministic' (their statements: YtihmblkfbcnllaaTotals.lean).
  GIVEN WITH THE SEED: the statements are not yours to turn. If you find one false, say at which input.
  Laid BY PROGRAM, IN A SANDBOX (cutbox-rows.mjs): the forced cells as the released guide's own fill.sh prints them over the translation ac40cfe394feaecf… (all of the seat's roots in one cut). By AI agents, Wed Nov 11 2026. No macro, syntax, notation, axiom, sorry.
-/
import Derived.Test.YtihmblkfbcnllaaChecked
import GoSem.Claim
import GoSem.ClaimJoined
import GoSem.ClaimMapViews
import Derived.JoinedTies
import Derived.KernelRfl
namespace Go.Proofs.Ytihmblkfbcnllaa
/- THE CELL 'sum', in the pinned program and in every row, IS THE sha256 OF THE DUMP (.gsa) THAT YtihmblkfbcnllaaProg.lean LOADS. Nothing in Lean hashes anything: it is a label: what it is worth is what the hold of that sum in a sandbox is worth. -/
noncomputable def Try.pinned : Pinned := { name := "ytihmblkfbcnllaa", sum := "ac40cfe394feaecfc41280328d5dd6aa206973ebc568d6d839e3741f1ac565ac", checked := Try.checked }
namespace Rows
def none {H : Type} : Left H := { results := [], args := [] }

/-- 'daisychainlaw05.TimerNext': WHATEVER THE INPUT: true; the input reads as it did. -/
def timerNextSpec : ChangeSpec := { name := "timerNext", fn := fun _ => fun
  | [d1, d2] => { results := [.lit (.bool true)], args := [d1, d2] }
  | _ => none }
def timerNextRow : OpenClaim := { program := "ytihmblkfbcnllaa", sum := "ac40cfe394feaecfc41280328d5dd6aa206973ebc568d6d839e3741f1ac565ac", func := "daisychain/daisychainlaw05.TimerNext", spec := "timerNext", apart := false }
def TimerNextSaid : Prop := timerNextRow.holds Try.pinned (OpenSpec.ofChange timerNextSpec)

/-- ITS FALSE NEIGHBOUR: 'it returns false'. Refute it at one input. -/
def timerNextWrong : ChangeSpec := { name := "timerNext", fn := fun _ => fun
  | [d1, d2] => { results := [.lit (.bool false)], args := [d1, d2] }
  | _ => none }
def TimerNextWrongFalsely : Prop := timerNextRow.holds Try.pinned (OpenSpec.ofChange timerNextWrong)

/-- 'daisychainlaw05.TimerDue': WHATEVER THE INPUT: true; the input reads as it did. -/
def timerDueSpec : ChangeSpec := { name := "timerDue", fn := fun _ => fun
  | [d1, d2, d3] => { results := [.lit (.bool true)], args := [d1, d2, d3] }
  | _ => none }
def timerDueRow : OpenClaim := { program := "ytihmblkfbcnllaa", sum := "ac40cfe394feaecfc41280328d5dd6aa206973ebc568d6d839e3741f1ac565ac", func := "daisychain/daisychainlaw05.TimerDue", spec := "timerDue", inPlace := ["maps.clone"], apart := false }
def TimerDueSaid : Prop := timerDueRow.holds Try.pinned (OpenSpec.ofChange timerDueSpec)

/-- ITS FALSE NEIGHBOUR: 'it returns false'. Refute it at one input. -/
def timerDueWrong : ChangeSpec := { name := "timerDue", fn := fun _ => fun
  | [d1, d2, d3] => { results := [.lit (.bool false)], args := [d1, d2, d3] }
  | _ => none }
def TimerDueWrongFalsely : Prop := timerDueRow.holds Try.pinned (OpenSpec.ofChange timerDueWrong)

/-- 'daisychainlaw05.TimerLate': WHATEVER THE INPUT: true; the input reads as it did. -/
def timerLateSpec : ChangeSpec := { name := "timerLate", fn := fun _ => fun
  | [d1, d2, d3, d4] => { results := [.lit (.bool true)], args := [d1, d2, d3, d4] }
  | _ => none }
def timerLateRow : OpenClaim := { program := "ytihmblkfbcnllaa", sum := "ac40cfe394feaecfc41280328d5dd6aa206973ebc568d6d839e3741f1ac565ac", func := "daisychain/daisychainlaw05.TimerLate", spec := "timerLate", inPlace := ["maps.clone"], apart := false }
def TimerLateSaid : Prop := timerLateRow.holds Try.pinned (OpenSpec.ofChange timerLateSpec)

/-- ITS FALSE NEIGHBOUR: 'it returns false'. Refute it at one input. -/
def timerLateWrong : ChangeSpec := { name := "timerLate", fn := fun _ => fun
  | [d1, d2, d3, d4] => { results := [.lit (.bool false)], args := [d1, d2, d3, d4] }
  | _ => none }
def TimerLateWrongFalsely : Prop := timerLateRow.holds Try.pinned (OpenSpec.ofChange timerLateWrong)

/-- 'daisychainlaw05.TimerOrders': WHATEVER THE INPUT: true; the input reads as it did. -/
def timerOrdersSpec : ChangeSpec := { name := "timerOrders", fn := fun _ => fun
  | [d] => { results := [.lit (.bool true)], args := [d] }
  | _ => none }
def timerOrdersRow : OpenClaim := { program := "ytihmblkfbcnllaa", sum := "ac40cfe394feaecfc41280328d5dd6aa206973ebc568d6d839e3741f1ac565ac", func := "daisychain/daisychainlaw05.TimerOrders", spec := "timerOrders", unfollowed := true, recurses := true, apart := false }
def TimerOrdersSaid : Prop := timerOrdersRow.holds Try.pinned (OpenSpec.ofChange timerOrdersSpec)

/-- ITS FALSE NEIGHBOUR: 'it returns false'. Refute it at one input. -/
def timerOrdersWrong : ChangeSpec := { name := "timerOrders", fn := fun _ => fun
  | [d] => { results := [.lit (.bool false)], args := [d] }
  | _ => none }
def TimerOrdersWrongFalsely : Prop := timerOrdersRow.holds Try.pinned (OpenSpec.ofChange timerOrdersWrong)

/-- 'daisychainlaw05.TimerDoes': WHATEVER THE INPUT: true; the input reads as it did. -/
def timerDoesSpec : ChangeSpec := { name := "timerDoes", fn := fun _ => fun
  | [d] => { results := [.lit (.bool true)], args := [d] }
  | _ => none }
def timerDoesRow : OpenClaim := { program := "ytihmblkfbcnllaa", sum := "ac40cfe394feaecfc41280328d5dd6aa206973ebc568d6d839e3741f1ac565ac", func := "daisychain/daisychainlaw05.TimerDoes", spec := "timerDoes", inPlace := ["maps.clone"], unfollowed := true, recurses := true, apart := false }
def TimerDoesSaid : Prop := timerDoesRow.holds Try.pinned (OpenSpec.ofChange timerDoesSpec)

/-- ITS FALSE NEIGHBOUR: 'it returns false'. Refute it at one input. -/
def timerDoesWrong : ChangeSpec := { name := "timerDoes", fn := fun _ => fun
  | [d] => { results := [.lit (.bool false)], args := [d] }
  | _ => none }
def TimerDoesWrongFalsely : Prop := timerDoesRow.holds Try.pinned (OpenSpec.ofChange timerDoesWrong)

/-- 'daisychainlaw05.TimerCopies': WHATEVER THE INPUT: true; the input reads as it did. -/
def timerCopiesSpec : ChangeSpec := { name := "timerCopies", fn := fun _ => fun
  | [d1, d2, d3] => { results := [.lit (.bool true)], args := [d1, d2, d3] }
  | _ => none }
def timerCopiesRow : OpenClaim := { program := "ytihmblkfbcnllaa", sum := "ac40cfe394feaecfc41280328d5dd6aa206973ebc568d6d839e3741f1ac565ac", func := "daisychain/daisychainlaw05.TimerCopies", spec := "timerCopies", inPlace := ["maps.clone"], unfollowed := true, recurses := true, apart := false }
def TimerCopiesSaid : Prop := timerCopiesRow.holds Try.pinned (OpenSpec.ofChange timerCopiesSpec)

/-- ITS FALSE NEIGHBOUR: 'it returns false'. Refute it at one input. -/
def timerCopiesWrong : ChangeSpec := { name := "timerCopies", fn := fun _ => fun
  | [d1, d2, d3] => { results := [.lit (.bool false)], args := [d1, d2, d3] }
  | _ => none }
def TimerCopiesWrongFalsely : Prop := timerCopiesRow.holds Try.pinned (OpenSpec.ofChange timerCopiesWrong)

/- THE SECOND FORM. 'bulk': how many values and letters a reading holds, each counted each time it is reached (what is shared counts as often as it is met; a slice's spare places count too). A statement '..UptoSaid' is the law's where the arguments, and the package variables that the reading takes, are together of bulk at most 1048576: NARROWER than '..Said'. Prove '..Said' where nothing that the law and all that it calls make is longer than what came in: it says more and counts as full. Else prove '..UptoSaid'. A law counts once. -/
mutual
def uptoBulk {H : Type} : DataW H → Nat
  | .lit (.string bytes) => bytes.length + 1
  | .lit _ => 1
  | .nil => 1
  | .ptr d => uptoBulk d + 1
  | .slice elems spare => uptoBulkAll elems + uptoBulkAll spare + 1
  | .agg parts => uptoBulkAll parts + 1
  | .iface _ d => uptoBulk d + 1
  | .map entries => uptoBulkEntries entries + 1
  | .held _ => 1
def uptoBulkAll {H : Type} : List (DataW H) → Nat
  | [] => 0
  | d :: r => uptoBulk d + uptoBulkAll r
def uptoBulkEntries {H : Type} : List (Lit × DataW H) → Nat
  | [] => 0
  | x :: r => uptoBulkEntry x + uptoBulkEntries r
def uptoBulkEntry {H : Type} : Lit × DataW H → Nat
  | (.string bytes, d) => bytes.length + uptoBulk d + 1
  | (_, d) => uptoBulk d + 1
 end
def uptoSmall : (H : Type) → List (DataW H) → Bool := fun _ ds => decide (uptoBulkAll ds ≤ 1048576)
def OpenSpec.upto (s : _root_.Go.ChangeSpec) : _root_.Go.OpenSpec := { _root_.Go.OpenSpec.ofChange s with cond := some uptoSmall }

/-- 'daisychainlaw05.TimerNext', WHERE WHAT IT READS IS OF BULK AT MOST 1048576: true; the input reads as it did. -/
def timerNextUptoRow : OpenClaim := { program := "ytihmblkfbcnllaa", sum := "ac40cfe394feaecfc41280328d5dd6aa206973ebc568d6d839e3741f1ac565ac", func := "daisychain/daisychainlaw05.TimerNext", spec := "timerNext", apart := false, narrowed := true }
def TimerNextUptoSaid : Prop := timerNextUptoRow.holds Try.pinned (OpenSpec.upto timerNextSpec)

/-- 'daisychainlaw05.TimerDue', WHERE WHAT IT READS IS OF BULK AT MOST 1048576: true; the input reads as it did. -/
def timerDueUptoRow : OpenClaim := { program := "ytihmblkfbcnllaa", sum := "ac40cfe394feaecfc41280328d5dd6aa206973ebc568d6d839e3741f1ac565ac", func := "daisychain/daisychainlaw05.TimerDue", spec := "timerDue", inPlace := ["maps.clone"], apart := false, narrowed := true }
def TimerDueUptoSaid : Prop := timerDueUptoRow.holds Try.pinned (OpenSpec.upto timerDueSpec)

/-- 'daisychainlaw05.TimerLate', WHERE WHAT IT READS IS OF BULK AT MOST 1048576: true; the input reads as it did. -/
def timerLateUptoRow : OpenClaim := { program := "ytihmblkfbcnllaa", sum := "ac40cfe394feaecfc41280328d5dd6aa206973ebc568d6d839e3741f1ac565ac", func := "daisychain/daisychainlaw05.TimerLate", spec := "timerLate", inPlace := ["maps.clone"], apart := false, narrowed := true }
def TimerLateUptoSaid : Prop := timerLateUptoRow.holds Try.pinned (OpenSpec.upto timerLateSpec)

/-- 'daisychainlaw05.TimerOrders', WHERE WHAT IT READS IS OF BULK AT MOST 1048576: true; the input reads as it did. -/
def timerOrdersUptoRow : OpenClaim := { program := "ytihmblkfbcnllaa", sum := "ac40cfe394feaecfc41280328d5dd6aa206973ebc568d6d839e3741f1ac565ac", func := "daisychain/daisychainlaw05.TimerOrders", spec := "timerOrders", unfollowed := true, recurses := true, apart := false, narrowed := true }
def TimerOrdersUptoSaid : Prop := timerOrdersUptoRow.holds Try.pinned (OpenSpec.upto timerOrdersSpec)

/-- 'daisychainlaw05.TimerDoes', WHERE WHAT IT READS IS OF BULK AT MOST 1048576: true; the input reads as it did. -/
def timerDoesUptoRow : OpenClaim := { program := "ytihmblkfbcnllaa", sum := "ac40cfe394feaecfc41280328d5dd6aa206973ebc568d6d839e3741f1ac565ac", func := "daisychain/daisychainlaw05.TimerDoes", spec := "timerDoes", inPlace := ["maps.clone"], unfollowed := true, recurses := true, apart := false, narrowed := true }
def TimerDoesUptoSaid : Prop := timerDoesUptoRow.holds Try.pinned (OpenSpec.upto timerDoesSpec)

/-- 'daisychainlaw05.TimerCopies', WHERE WHAT IT READS IS OF BULK AT MOST 1048576: true; the input reads as it did. -/
def timerCopiesUptoRow : OpenClaim := { program := "ytihmblkfbcnllaa", sum := "ac40cfe394feaecfc41280328d5dd6aa206973ebc568d6d839e3741f1ac565ac", func := "daisychain/daisychainlaw05.TimerCopies", spec := "timerCopies", inPlace := ["maps.clone"], unfollowed := true, recurses := true, apart := false, narrowed := true }
def TimerCopiesUptoSaid : Prop := timerCopiesUptoRow.holds Try.pinned (OpenSpec.upto timerCopiesSpec)

end Rows
end Go.Proofs.Ytihmblkfbcnllaa
