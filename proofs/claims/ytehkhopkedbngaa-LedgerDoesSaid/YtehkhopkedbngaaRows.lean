/-
  No cell of these rows narrows 'for every input' (looked for: loops, veiled, ifaces, maps, wideKeys, modest, calm, conditions, laid).
  DERIVED. THE GIVEN ROWS OF THIS SEAT. 5 by the template 'for every input the law returns true; each argument reads behind the call as it read before'; 0 by the template 'total and deterministic' (their statements: YtehkhopkedbngaaTotals.lean).
  GIVEN WITH THE SEED: the statements are not yours to turn. If you find one false, say at which input.
  Laid BY PROGRAM, IN A SANDBOX (cutbox-rows.mjs): the forced cells as the released guide's own fill.sh prints them over the translation 9180d77d68a12883… (all of the seat's roots in one cut). By AI agents, Wed Nov 11 2026. No macro, syntax, notation, axiom, sorry.
-/
import Derived.Test.YtehkhopkedbngaaChecked
import GoSem.Claim
import GoSem.ClaimJoined
import GoSem.ClaimMapViews
import Derived.JoinedTies
import Derived.KernelRfl
namespace Go.Proofs.Ytehkhopkedbngaa
/- THE CELL 'sum', in the pinned program and in every row, IS THE sha256 OF THE DUMP (.gsa) THAT YtehkhopkedbngaaProg.lean LOADS. Nothing in Lean hashes anything: it is a label: what it is worth is what the hold of that sum in a sandbox is worth. -/
noncomputable def Try.pinned : Pinned := { name := "ytehkhopkedbngaa", sum := "9180d77d68a12883310e82f661aeb0bbb2c798f6f87268768b60f19c4fbe762d", checked := Try.checked }
namespace Rows
def none {H : Type} : Left H := { results := [], args := [] }

/-- 'daisychainlaw07.LedgerRoom': WHATEVER THE INPUT: true; the input reads as it did. -/
def ledgerRoomSpec : ChangeSpec := { name := "ledgerRoom", fn := fun _ => fun
  | [d1, d2] => { results := [.lit (.bool true)], args := [d1, d2] }
  | _ => none }
def ledgerRoomRow : OpenClaim := { program := "ytehkhopkedbngaa", sum := "9180d77d68a12883310e82f661aeb0bbb2c798f6f87268768b60f19c4fbe762d", func := "daisychain/daisychainlaw07.LedgerRoom", spec := "ledgerRoom", inPlace := ["internal/bytealg.abigen_runtime_cmpstring"], unfollowed := true, recurses := true, apart := false }
def LedgerRoomSaid : Prop := ledgerRoomRow.holds Try.pinned (OpenSpec.ofChange ledgerRoomSpec)

/-- ITS FALSE NEIGHBOUR: 'it returns false'. Refute it at one input. -/
def ledgerRoomWrong : ChangeSpec := { name := "ledgerRoom", fn := fun _ => fun
  | [d1, d2] => { results := [.lit (.bool false)], args := [d1, d2] }
  | _ => none }
def LedgerRoomWrongFalsely : Prop := ledgerRoomRow.holds Try.pinned (OpenSpec.ofChange ledgerRoomWrong)

/-- 'daisychainlaw07.LedgerMisses': WHATEVER THE INPUT: true; the input reads as it did. -/
def ledgerMissesSpec : ChangeSpec := { name := "ledgerMisses", fn := fun _ => fun
  | [d1, d2] => { results := [.lit (.bool true)], args := [d1, d2] }
  | _ => none }
def ledgerMissesRow : OpenClaim := { program := "ytehkhopkedbngaa", sum := "9180d77d68a12883310e82f661aeb0bbb2c798f6f87268768b60f19c4fbe762d", func := "daisychain/daisychainlaw07.LedgerMisses", spec := "ledgerMisses", inPlace := ["internal/bytealg.abigen_runtime_cmpstring"], unfollowed := true, recurses := true, apart := false }
def LedgerMissesSaid : Prop := ledgerMissesRow.holds Try.pinned (OpenSpec.ofChange ledgerMissesSpec)

/-- ITS FALSE NEIGHBOUR: 'it returns false'. Refute it at one input. -/
def ledgerMissesWrong : ChangeSpec := { name := "ledgerMisses", fn := fun _ => fun
  | [d1, d2] => { results := [.lit (.bool false)], args := [d1, d2] }
  | _ => none }
def LedgerMissesWrongFalsely : Prop := ledgerMissesRow.holds Try.pinned (OpenSpec.ofChange ledgerMissesWrong)

/-- 'daisychainlaw07.LedgerLast': WHATEVER THE INPUT: true; the input reads as it did. -/
def ledgerLastSpec : ChangeSpec := { name := "ledgerLast", fn := fun _ => fun
  | [d1, d2, d3, d4] => { results := [.lit (.bool true)], args := [d1, d2, d3, d4] }
  | _ => none }
def ledgerLastRow : OpenClaim := { program := "ytehkhopkedbngaa", sum := "9180d77d68a12883310e82f661aeb0bbb2c798f6f87268768b60f19c4fbe762d", func := "daisychain/daisychainlaw07.LedgerLast", spec := "ledgerLast", inPlace := ["internal/bytealg.abigen_runtime_cmpstring"], unfollowed := true, recurses := true, apart := false }
def LedgerLastSaid : Prop := ledgerLastRow.holds Try.pinned (OpenSpec.ofChange ledgerLastSpec)

/-- ITS FALSE NEIGHBOUR: 'it returns false'. Refute it at one input. -/
def ledgerLastWrong : ChangeSpec := { name := "ledgerLast", fn := fun _ => fun
  | [d1, d2, d3, d4] => { results := [.lit (.bool false)], args := [d1, d2, d3, d4] }
  | _ => none }
def LedgerLastWrongFalsely : Prop := ledgerLastRow.holds Try.pinned (OpenSpec.ofChange ledgerLastWrong)

/-- 'daisychainlaw07.LedgerSweeps': WHATEVER THE INPUT: true; the input reads as it did. -/
def ledgerSweepsSpec : ChangeSpec := { name := "ledgerSweeps", fn := fun _ => fun
  | [d1, d2] => { results := [.lit (.bool true)], args := [d1, d2] }
  | _ => none }
def ledgerSweepsRow : OpenClaim := { program := "ytehkhopkedbngaa", sum := "9180d77d68a12883310e82f661aeb0bbb2c798f6f87268768b60f19c4fbe762d", func := "daisychain/daisychainlaw07.LedgerSweeps", spec := "ledgerSweeps", inPlace := ["internal/bytealg.abigen_runtime_cmpstring", "maps.clone"], unfollowed := true, recurses := true, apart := false }
def LedgerSweepsSaid : Prop := ledgerSweepsRow.holds Try.pinned (OpenSpec.ofChange ledgerSweepsSpec)

/-- ITS FALSE NEIGHBOUR: 'it returns false'. Refute it at one input. -/
def ledgerSweepsWrong : ChangeSpec := { name := "ledgerSweeps", fn := fun _ => fun
  | [d1, d2] => { results := [.lit (.bool false)], args := [d1, d2] }
  | _ => none }
def LedgerSweepsWrongFalsely : Prop := ledgerSweepsRow.holds Try.pinned (OpenSpec.ofChange ledgerSweepsWrong)

/-- 'daisychainlaw07.LedgerDoes': WHATEVER THE INPUT: true; the input reads as it did. -/
def ledgerDoesSpec : ChangeSpec := { name := "ledgerDoes", fn := fun _ => fun
  | [d1, d2] => { results := [.lit (.bool true)], args := [d1, d2] }
  | _ => none }
def ledgerDoesRow : OpenClaim := { program := "ytehkhopkedbngaa", sum := "9180d77d68a12883310e82f661aeb0bbb2c798f6f87268768b60f19c4fbe762d", func := "daisychain/daisychainlaw07.LedgerDoes", spec := "ledgerDoes", inPlace := ["internal/bytealg.abigen_runtime_cmpstring", "maps.clone"], unfollowed := true, recurses := true, apart := false }
def LedgerDoesSaid : Prop := ledgerDoesRow.holds Try.pinned (OpenSpec.ofChange ledgerDoesSpec)

/-- ITS FALSE NEIGHBOUR: 'it returns false'. Refute it at one input. -/
def ledgerDoesWrong : ChangeSpec := { name := "ledgerDoes", fn := fun _ => fun
  | [d1, d2] => { results := [.lit (.bool false)], args := [d1, d2] }
  | _ => none }
def LedgerDoesWrongFalsely : Prop := ledgerDoesRow.holds Try.pinned (OpenSpec.ofChange ledgerDoesWrong)

/- THE SECOND FORM. 'bulk': how many values and letters a reading holds, each counted each time it is reached (what is shared counts as often as it is met; a slice's spare places count too). A statement '..UptoSaid' is the law's where the arguments, and the package variables that the reading takes, are together of bulk at most 1048576: NARROWER than '..Said'. Prove '..Said' where nothing that the law and all that it calls make is longer than what came in: it says more and counts as full. Else prove '..UptoSaid'. A law counts once. -/
mutual
def uptoBulk {H : Type} : DataW H → Nat
  | .lit (.string bytes) => bytes.length + 1
  | .lit _ => 1
  | .nil => 1
  | .ptr d => uptoBulk d + 1
  | .slice elems spare => uptoBulkAll elems + uptoBulkAll spare + 1
  | .agg parts => uptoBulkAll parts + 1
  | .iface _ d => uptoBulk d + 1
  | .map entries => uptoBulkEntries entries + 1
  | .held _ => 1
def uptoBulkAll {H : Type} : List (DataW H) → Nat
  | [] => 0
  | d :: r => uptoBulk d + uptoBulkAll r
def uptoBulkEntries {H : Type} : List (Lit × DataW H) → Nat
  | [] => 0
  | x :: r => uptoBulkEntry x + uptoBulkEntries r
def uptoBulkEntry {H : Type} : Lit × DataW H → Nat
  | (.string bytes, d) => bytes.length + uptoBulk d + 1
  | (_, d) => uptoBulk d + 1
 end
def uptoSmall : (H : Type) → List (DataW H) → Bool := fun _ ds => decide (uptoBulkAll ds ≤ 1048576)
def OpenSpec.upto (s : _root_.Go.ChangeSpec) : _root_.Go.OpenSpec := { _root_.Go.OpenSpec.ofChange s with cond := some uptoSmall }

/-- 'daisychainlaw07.LedgerRoom', WHERE WHAT IT READS IS OF BULK AT MOST 1048576: true; the input reads as it did. -/
def ledgerRoomUptoRow : OpenClaim := { program := "ytehkhopkedbngaa", sum := "9180d77d68a12883310e82f661aeb0bbb2c798f6f87268768b60f19c4fbe762d", func := "daisychain/daisychainlaw07.LedgerRoom", spec := "ledgerRoom", inPlace := ["internal/bytealg.abigen_runtime_cmpstring"], unfollowed := true, recurses := true, apart := false, narrowed := true }
def LedgerRoomUptoSaid : Prop := ledgerRoomUptoRow.holds Try.pinned (OpenSpec.upto ledgerRoomSpec)

/-- 'daisychainlaw07.LedgerMisses', WHERE WHAT IT READS IS OF BULK AT MOST 1048576: true; the input reads as it did. -/
def ledgerMissesUptoRow : OpenClaim := { program := "ytehkhopkedbngaa", sum := "9180d77d68a12883310e82f661aeb0bbb2c798f6f87268768b60f19c4fbe762d", func := "daisychain/daisychainlaw07.LedgerMisses", spec := "ledgerMisses", inPlace := ["internal/bytealg.abigen_runtime_cmpstring"], unfollowed := true, recurses := true, apart := false, narrowed := true }
def LedgerMissesUptoSaid : Prop := ledgerMissesUptoRow.holds Try.pinned (OpenSpec.upto ledgerMissesSpec)

/-- 'daisychainlaw07.LedgerLast', WHERE WHAT IT READS IS OF BULK AT MOST 1048576: true; the input reads as it did. -/
def ledgerLastUptoRow : OpenClaim := { program := "ytehkhopkedbngaa", sum := "9180d77d68a12883310e82f661aeb0bbb2c798f6f87268768b60f19c4fbe762d", func := "daisychain/daisychainlaw07.LedgerLast", spec := "ledgerLast", inPlace := ["internal/bytealg.abigen_runtime_cmpstring"], unfollowed := true, recurses := true, apart := false, narrowed := true }
def LedgerLastUptoSaid : Prop := ledgerLastUptoRow.holds Try.pinned (OpenSpec.upto ledgerLastSpec)

/-- 'daisychainlaw07.LedgerSweeps', WHERE WHAT IT READS IS OF BULK AT MOST 1048576: true; the input reads as it did. -/
def ledgerSweepsUptoRow : OpenClaim := { program := "ytehkhopkedbngaa", sum := "9180d77d68a12883310e82f661aeb0bbb2c798f6f87268768b60f19c4fbe762d", func := "daisychain/daisychainlaw07.LedgerSweeps", spec := "ledgerSweeps", inPlace := ["internal/bytealg.abigen_runtime_cmpstring", "maps.clone"], unfollowed := true, recurses := true, apart := false, narrowed := true }
def LedgerSweepsUptoSaid : Prop := ledgerSweepsUptoRow.holds Try.pinned (OpenSpec.upto ledgerSweepsSpec)

/-- 'daisychainlaw07.LedgerDoes', WHERE WHAT IT READS IS OF BULK AT MOST 1048576: true; the input reads as it did. -/
def ledgerDoesUptoRow : OpenClaim := { program := "ytehkhopkedbngaa", sum := "9180d77d68a12883310e82f661aeb0bbb2c798f6f87268768b60f19c4fbe762d", func := "daisychain/daisychainlaw07.LedgerDoes", spec := "ledgerDoes", inPlace := ["internal/bytealg.abigen_runtime_cmpstring", "maps.clone"], unfollowed := true, recurses := true, apart := false, narrowed := true }
def LedgerDoesUptoSaid : Prop := ledgerDoesUptoRow.holds Try.pinned (OpenSpec.upto ledgerDoesSpec)

end Rows
end Go.Proofs.Ytehkhopkedbngaa
