/-
  No cell of these rows narrows 'for every input' (looked for: loops, veiled, ifaces, maps, wideKeys, modest, calm, conditions, laid).
  DERIVED. THE GIVEN ROWS OF THIS SEAT. 5 by the template 'for every input the law returns true; each argument reads behind the call as it read before'; 0 by the template 'total and deterministic' (their statements: YteeiobjjipcihaaTotals.lean).
  GIVEN WITH THE SEED: the statements are not yours to turn. If you find one false, say at which input.
  Laid BY PROGRAM, IN A SANDBOX (cutbox-rows.mjs): the forced cells as the released guide's own fill.sh prints them over the translation 98b434b5de4ab304… (all of the seat's roots in one cut). By AI agents, Wed Nov 11 2026. No macro, syntax, notation, axiom, sorry.
-/
import Derived.Test.YteeiobjjipcihaaChecked
import GoSem.Claim
import GoSem.ClaimJoined
import GoSem.ClaimMapViews
import Derived.JoinedTies
import Derived.KernelRfl
namespace Go.Proofs.Yteeiobjjipcihaa
/- THE CELL 'sum', in the pinned program and in every row, IS THE sha256 OF THE DUMP (.gsa) THAT YteeiobjjipcihaaProg.lean LOADS. Nothing in Lean hashes anything: it is a label: what it is worth is what the hold of that sum in a sandbox is worth. -/
noncomputable def Try.pinned : Pinned := { name := "yteeiobjjipcihaa", sum := "98b434b5de4ab3042bd2370477de93cbf789ee692bad174f27108cbf60a0abdf", checked := Try.checked }
namespace Rows
def none {H : Type} : Left H := { results := [], args := [] }

/-- 'daisychainlaw17.PostLooks': WHATEVER THE INPUT: true; the input reads as it did. -/
def postLooksSpec : ChangeSpec := { name := "postLooks", fn := fun _ => fun
  | [d1, d2] => { results := [.lit (.bool true)], args := [d1, d2] }
  | _ => none }
def postLooksRow : OpenClaim := { program := "yteeiobjjipcihaa", sum := "98b434b5de4ab3042bd2370477de93cbf789ee692bad174f27108cbf60a0abdf", func := "daisychain/daisychainlaw17.PostLooks", spec := "postLooks", apart := false }
def PostLooksSaid : Prop := postLooksRow.holds Try.pinned (OpenSpec.ofChange postLooksSpec)

/-- ITS FALSE NEIGHBOUR: 'it returns false'. Refute it at one input. -/
def postLooksWrong : ChangeSpec := { name := "postLooks", fn := fun _ => fun
  | [d1, d2] => { results := [.lit (.bool false)], args := [d1, d2] }
  | _ => none }
def PostLooksWrongFalsely : Prop := postLooksRow.holds Try.pinned (OpenSpec.ofChange postLooksWrong)

/-- 'daisychainlaw17.PostCopies': WHATEVER THE INPUT: true; the input reads as it did. -/
def postCopiesSpec : ChangeSpec := { name := "postCopies", fn := fun _ => fun
  | [d1, d2, d3] => { results := [.lit (.bool true)], args := [d1, d2, d3] }
  | _ => none }
def postCopiesRow : OpenClaim := { program := "yteeiobjjipcihaa", sum := "98b434b5de4ab3042bd2370477de93cbf789ee692bad174f27108cbf60a0abdf", func := "daisychain/daisychainlaw17.PostCopies", spec := "postCopies", apart := false }
def PostCopiesSaid : Prop := postCopiesRow.holds Try.pinned (OpenSpec.ofChange postCopiesSpec)

/-- ITS FALSE NEIGHBOUR: 'it returns false'. Refute it at one input. -/
def postCopiesWrong : ChangeSpec := { name := "postCopies", fn := fun _ => fun
  | [d1, d2, d3] => { results := [.lit (.bool false)], args := [d1, d2, d3] }
  | _ => none }
def PostCopiesWrongFalsely : Prop := postCopiesRow.holds Try.pinned (OpenSpec.ofChange postCopiesWrong)

/-- 'daisychainlaw17.PostLast': WHATEVER THE INPUT: true; the input reads as it did. -/
def postLastSpec : ChangeSpec := { name := "postLast", fn := fun _ => fun
  | [d1, d2] => { results := [.lit (.bool true)], args := [d1, d2] }
  | _ => none }
def postLastRow : OpenClaim := { program := "yteeiobjjipcihaa", sum := "98b434b5de4ab3042bd2370477de93cbf789ee692bad174f27108cbf60a0abdf", func := "daisychain/daisychainlaw17.PostLast", spec := "postLast", apart := false }
def PostLastSaid : Prop := postLastRow.holds Try.pinned (OpenSpec.ofChange postLastSpec)

/-- ITS FALSE NEIGHBOUR: 'it returns false'. Refute it at one input. -/
def postLastWrong : ChangeSpec := { name := "postLast", fn := fun _ => fun
  | [d1, d2] => { results := [.lit (.bool false)], args := [d1, d2] }
  | _ => none }
def PostLastWrongFalsely : Prop := postLastRow.holds Try.pinned (OpenSpec.ofChange postLastWrong)

/-- 'daisychainlaw17.PostTwice': WHATEVER THE INPUT: true; the input reads as it did. -/
def postTwiceSpec : ChangeSpec := { name := "postTwice", fn := fun _ => fun
  | [d1, d2, d3] => { results := [.lit (.bool true)], args := [d1, d2, d3] }
  | _ => none }
def postTwiceRow : OpenClaim := { program := "yteeiobjjipcihaa", sum := "98b434b5de4ab3042bd2370477de93cbf789ee692bad174f27108cbf60a0abdf", func := "daisychain/daisychainlaw17.PostTwice", spec := "postTwice", apart := false }
def PostTwiceSaid : Prop := postTwiceRow.holds Try.pinned (OpenSpec.ofChange postTwiceSpec)

/-- ITS FALSE NEIGHBOUR: 'it returns false'. Refute it at one input. -/
def postTwiceWrong : ChangeSpec := { name := "postTwice", fn := fun _ => fun
  | [d1, d2, d3] => { results := [.lit (.bool false)], args := [d1, d2, d3] }
  | _ => none }
def PostTwiceWrongFalsely : Prop := postTwiceRow.holds Try.pinned (OpenSpec.ofChange postTwiceWrong)

/-- 'daisychainlaw17.PostDoes': WHATEVER THE INPUT: true; the input reads as it did. -/
def postDoesSpec : ChangeSpec := { name := "postDoes", fn := fun _ => fun
  | [d1, d2] => { results := [.lit (.bool true)], args := [d1, d2] }
  | _ => none }
def postDoesRow : OpenClaim := { program := "yteeiobjjipcihaa", sum := "98b434b5de4ab3042bd2370477de93cbf789ee692bad174f27108cbf60a0abdf", func := "daisychain/daisychainlaw17.PostDoes", spec := "postDoes", apart := false }
def PostDoesSaid : Prop := postDoesRow.holds Try.pinned (OpenSpec.ofChange postDoesSpec)

/-- ITS FALSE NEIGHBOUR: 'it returns false'. Refute it at one input. -/
def postDoesWrong : ChangeSpec := { name := "postDoes", fn := fun _ => fun
  | [d1, d2] => { results := [.lit (.bool false)], args := [d1, d2] }
  | _ => none }
def PostDoesWrongFalsely : Prop := postDoesRow.holds Try.pinned (OpenSpec.ofChange postDoesWrong)

/- THE SECOND FORM. 'bulk': how many values and letters a reading holds, each counted each time it is reached (what is shared counts as often as it is met; a slice's spare places count too). A statement '..UptoSaid' is the law's where the arguments, and the package variables that the reading takes, are together of bulk at most 1048576: NARROWER than '..Said'. Prove '..Said' where nothing that the law and all that it calls make is longer than what came in: it says more and counts as full. Else prove '..UptoSaid'. A law counts once. -/
mutual
def uptoBulk {H : Type} : DataW H → Nat
  | .lit (.string bytes) => bytes.length + 1
  | .lit _ => 1
  | .nil => 1
  | .ptr d => uptoBulk d + 1
  | .slice elems spare => uptoBulkAll elems + uptoBulkAll spare + 1
  | .agg parts => uptoBulkAll parts + 1
  | .iface _ d => uptoBulk d + 1
  | .map entries => uptoBulkEntries entries + 1
  | .held _ => 1
def uptoBulkAll {H : Type} : List (DataW H) → Nat
  | [] => 0
  | d :: r => uptoBulk d + uptoBulkAll r
def uptoBulkEntries {H : Type} : List (Lit × DataW H) → Nat
  | [] => 0
  | x :: r => uptoBulkEntry x + uptoBulkEntries r
def uptoBulkEntry {H : Type} : Lit × DataW H → Nat
  | (.string bytes, d) => bytes.length + uptoBulk d + 1
  | (_, d) => uptoBulk d + 1
 end
def uptoSmall : (H : Type) → List (DataW H) → Bool := fun _ ds => decide (uptoBulkAll ds ≤ 1048576)
def OpenSpec.upto (s : _root_.Go.ChangeSpec) : _root_.Go.OpenSpec := { _root_.Go.OpenSpec.ofChange s with cond := some uptoSmall }

/-- 'daisychainlaw17.PostLooks', WHERE WHAT IT READS IS OF BULK AT MOST 1048576: true; the input reads as it did. -/
def postLooksUptoRow : OpenClaim := { program := "yteeiobjjipcihaa", sum := "98b434b5de4ab3042bd2370477de93cbf789ee692bad174f27108cbf60a0abdf", func := "daisychain/daisychainlaw17.PostLooks", spec := "postLooks", apart := false, narrowed := true }
def PostLooksUptoSaid : Prop := postLooksUptoRow.holds Try.pinned (OpenSpec.upto postLooksSpec)

/-- 'daisychainlaw17.PostCopies', WHERE WHAT IT READS IS OF BULK AT MOST 1048576: true; the input reads as it did. -/
def postCopiesUptoRow : OpenClaim := { program := "yteeiobjjipcihaa", sum := "98b434b5de4ab3042bd2370477de93cbf789ee692bad174f27108cbf60a0abdf", func := "daisychain/daisychainlaw17.PostCopies", spec := "postCopies", apart := false, narrowed := true }
def PostCopiesUptoSaid : Prop := postCopiesUptoRow.holds Try.pinned (OpenSpec.upto postCopiesSpec)

/-- 'daisychainlaw17.PostLast', WHERE WHAT IT READS IS OF BULK AT MOST 1048576: true; the input reads as it did. -/
def postLastUptoRow : OpenClaim := { program := "yteeiobjjipcihaa", sum := "98b434b5de4ab3042bd2370477de93cbf789ee692bad174f27108cbf60a0abdf", func := "daisychain/daisychainlaw17.PostLast", spec := "postLast", apart := false, narrowed := true }
def PostLastUptoSaid : Prop := postLastUptoRow.holds Try.pinned (OpenSpec.upto postLastSpec)

/-- 'daisychainlaw17.PostTwice', WHERE WHAT IT READS IS OF BULK AT MOST 1048576: true; the input reads as it did. -/
def postTwiceUptoRow : OpenClaim := { program := "yteeiobjjipcihaa", sum := "98b434b5de4ab3042bd2370477de93cbf789ee692bad174f27108cbf60a0abdf", func := "daisychain/daisychainlaw17.PostTwice", spec := "postTwice", apart := false, narrowed := true }
def PostTwiceUptoSaid : Prop := postTwiceUptoRow.holds Try.pinned (OpenSpec.upto postTwiceSpec)

/-- 'daisychainlaw17.PostDoes', WHERE WHAT IT READS IS OF BULK AT MOST 1048576: true; the input reads as it did. -/
def postDoesUptoRow : OpenClaim := { program := "yteeiobjjipcihaa", sum := "98b434b5de4ab3042bd2370477de93cbf789ee692bad174f27108cbf60a0abdf", func := "daisychain/daisychainlaw17.PostDoes", spec := "postDoes", apart := false, narrowed := true }
def PostDoesUptoSaid : Prop := postDoesUptoRow.holds Try.pinned (OpenSpec.upto postDoesSpec)

end Rows
end Go.Proofs.Yteeiobjjipcihaa
