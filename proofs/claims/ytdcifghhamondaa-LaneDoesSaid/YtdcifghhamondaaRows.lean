/-
  No cell of these rows narrows 'for every input' (looked for: loops, veiled, ifaces, maps, wideKeys, modest, calm, conditions, laid).
  DERIVED. THE GIVEN ROWS OF THIS SEAT. 5 by the template 'for every input the law returns true; each argument reads behind the call as it read before'; 0 by the template 'total and deterministic' (their statements: YtdcifghhamondaaTotals.lean).
  GIVEN WITH THE SEED: the statements are not yours to turn. If you find one false, say at which input.
  Laid BY PROGRAM, IN A SANDBOX (cutbox-rows.mjs): the forced cells as the released guide's own fill.sh prints them over the translation 5e3aa1149f141a2b… (all of the seat's roots in one cut). By AI agents, Wed Nov 11 2026. No macro, syntax, notation, axiom, sorry.
-/
import Derived.Test.YtdcifghhamondaaChecked
import GoSem.Claim
import GoSem.ClaimJoined
import GoSem.ClaimMapViews
import Derived.JoinedTies
import Derived.KernelRfl
namespace Go.Proofs.Ytdcifghhamondaa
/- THE CELL 'sum', in the pinned program and in every row, IS THE sha256 OF THE DUMP (.gsa) THAT YtdcifghhamondaaProg.lean LOADS. Nothing in Lean hashes anything: it is a label: what it is worth is what the hold of that sum in a sandbox is worth. -/
noncomputable def Try.pinned : Pinned := { name := "ytdcifghhamondaa", sum := "5e3aa1149f141a2badc8f53d88a826c147d5d94f80659e841460543b7bfc9936", checked := Try.checked }
namespace Rows
def none {H : Type} : Left H := { results := [], args := [] }

/-- 'daisychainlaw06.LaneGroups': WHATEVER THE INPUT: true; the input reads as it did. -/
def laneGroupsSpec : ChangeSpec := { name := "laneGroups", fn := fun _ => fun
  | [d1, d2, d3] => { results := [.lit (.bool true)], args := [d1, d2, d3] }
  | _ => none }
def laneGroupsRow : OpenClaim := { program := "ytdcifghhamondaa", sum := "5e3aa1149f141a2badc8f53d88a826c147d5d94f80659e841460543b7bfc9936", func := "daisychain/daisychainlaw06.LaneGroups", spec := "laneGroups", unfollowed := true, recurses := true, apart := false }
def LaneGroupsSaid : Prop := laneGroupsRow.holds Try.pinned (OpenSpec.ofChange laneGroupsSpec)

/-- ITS FALSE NEIGHBOUR: 'it returns false'. Refute it at one input. -/
def laneGroupsWrong : ChangeSpec := { name := "laneGroups", fn := fun _ => fun
  | [d1, d2, d3] => { results := [.lit (.bool false)], args := [d1, d2, d3] }
  | _ => none }
def LaneGroupsWrongFalsely : Prop := laneGroupsRow.holds Try.pinned (OpenSpec.ofChange laneGroupsWrong)

/-- 'daisychainlaw06.LaneLast': WHATEVER THE INPUT: true; the input reads as it did. -/
def laneLastSpec : ChangeSpec := { name := "laneLast", fn := fun _ => fun
  | [d1, d2, d3] => { results := [.lit (.bool true)], args := [d1, d2, d3] }
  | _ => none }
def laneLastRow : OpenClaim := { program := "ytdcifghhamondaa", sum := "5e3aa1149f141a2badc8f53d88a826c147d5d94f80659e841460543b7bfc9936", func := "daisychain/daisychainlaw06.LaneLast", spec := "laneLast", unfollowed := true, recurses := true, apart := false }
def LaneLastSaid : Prop := laneLastRow.holds Try.pinned (OpenSpec.ofChange laneLastSpec)

/-- ITS FALSE NEIGHBOUR: 'it returns false'. Refute it at one input. -/
def laneLastWrong : ChangeSpec := { name := "laneLast", fn := fun _ => fun
  | [d1, d2, d3] => { results := [.lit (.bool false)], args := [d1, d2, d3] }
  | _ => none }
def LaneLastWrongFalsely : Prop := laneLastRow.holds Try.pinned (OpenSpec.ofChange laneLastWrong)

/-- 'daisychainlaw06.LaneParts': WHATEVER THE INPUT: true; the input reads as it did. -/
def lanePartsSpec : ChangeSpec := { name := "laneParts", fn := fun _ => fun
  | [d] => { results := [.lit (.bool true)], args := [d] }
  | _ => none }
def lanePartsRow : OpenClaim := { program := "ytdcifghhamondaa", sum := "5e3aa1149f141a2badc8f53d88a826c147d5d94f80659e841460543b7bfc9936", func := "daisychain/daisychainlaw06.LaneParts", spec := "laneParts", unfollowed := true, recurses := true, apart := false }
def LanePartsSaid : Prop := lanePartsRow.holds Try.pinned (OpenSpec.ofChange lanePartsSpec)

/-- ITS FALSE NEIGHBOUR: 'it returns false'. Refute it at one input. -/
def lanePartsWrong : ChangeSpec := { name := "laneParts", fn := fun _ => fun
  | [d] => { results := [.lit (.bool false)], args := [d] }
  | _ => none }
def LanePartsWrongFalsely : Prop := lanePartsRow.holds Try.pinned (OpenSpec.ofChange lanePartsWrong)

/-- 'daisychainlaw06.LaneDoes': WHATEVER THE INPUT: true; the input reads as it did. -/
def laneDoesSpec : ChangeSpec := { name := "laneDoes", fn := fun _ => fun
  | [d] => { results := [.lit (.bool true)], args := [d] }
  | _ => none }
def laneDoesRow : OpenClaim := { program := "ytdcifghhamondaa", sum := "5e3aa1149f141a2badc8f53d88a826c147d5d94f80659e841460543b7bfc9936", func := "daisychain/daisychainlaw06.LaneDoes", spec := "laneDoes", inPlace := ["maps.clone"], unfollowed := true, recurses := true, apart := false }
def LaneDoesSaid : Prop := laneDoesRow.holds Try.pinned (OpenSpec.ofChange laneDoesSpec)

/-- ITS FALSE NEIGHBOUR: 'it returns false'. Refute it at one input. -/
def laneDoesWrong : ChangeSpec := { name := "laneDoes", fn := fun _ => fun
  | [d] => { results := [.lit (.bool false)], args := [d] }
  | _ => none }
def LaneDoesWrongFalsely : Prop := laneDoesRow.holds Try.pinned (OpenSpec.ofChange laneDoesWrong)

/-- 'daisychainlaw06.LaneCopies': WHATEVER THE INPUT: true; the input reads as it did. -/
def laneCopiesSpec : ChangeSpec := { name := "laneCopies", fn := fun _ => fun
  | [d1, d2] => { results := [.lit (.bool true)], args := [d1, d2] }
  | _ => none }
def laneCopiesRow : OpenClaim := { program := "ytdcifghhamondaa", sum := "5e3aa1149f141a2badc8f53d88a826c147d5d94f80659e841460543b7bfc9936", func := "daisychain/daisychainlaw06.LaneCopies", spec := "laneCopies", inPlace := ["maps.clone"], unfollowed := true, recurses := true, apart := false }
def LaneCopiesSaid : Prop := laneCopiesRow.holds Try.pinned (OpenSpec.ofChange laneCopiesSpec)

/-- ITS FALSE NEIGHBOUR: 'it returns false'. Refute it at one input. -/
def laneCopiesWrong : ChangeSpec := { name := "laneCopies", fn := fun _ => fun
  | [d1, d2] => { results := [.lit (.bool false)], args := [d1, d2] }
  | _ => none }
def LaneCopiesWrongFalsely : Prop := laneCopiesRow.holds Try.pinned (OpenSpec.ofChange laneCopiesWrong)

/- THE SECOND FORM. 'bulk': how many values and letters a reading holds, each counted each time it is reached (what is shared counts as often as it is met; a slice's spare places count too). A statement '..UptoSaid' is the law's where the arguments, and the package variables that the reading takes, are together of bulk at most 1048576: NARROWER than '..Said'. Prove '..Said' where nothing that the law and all that it calls make is longer than what came in: it says more and counts as full. Else prove '..UptoSaid'. A law counts once. -/
mutual
def uptoBulk {H : Type} : DataW H → Nat
  | .lit (.string bytes) => bytes.length + 1
  | .lit _ => 1
  | .nil => 1
  | .ptr d => uptoBulk d + 1
  | .slice elems spare => uptoBulkAll elems + uptoBulkAll spare + 1
  | .agg parts => uptoBulkAll parts + 1
  | .iface _ d => uptoBulk d + 1
  | .map entries => uptoBulkEntries entries + 1
  | .held _ => 1
def uptoBulkAll {H : Type} : List (DataW H) → Nat
  | [] => 0
  | d :: r => uptoBulk d + uptoBulkAll r
def uptoBulkEntries {H : Type} : List (Lit × DataW H) → Nat
  | [] => 0
  | x :: r => uptoBulkEntry x + uptoBulkEntries r
def uptoBulkEntry {H : Type} : Lit × DataW H → Nat
  | (.string bytes, d) => bytes.length + uptoBulk d + 1
  | (_, d) => uptoBulk d + 1
 end
def uptoSmall : (H : Type) → List (DataW H) → Bool := fun _ ds => decide (uptoBulkAll ds ≤ 1048576)
def OpenSpec.upto (s : _root_.Go.ChangeSpec) : _root_.Go.OpenSpec := { _root_.Go.OpenSpec.ofChange s with cond := some uptoSmall }

/-- 'daisychainlaw06.LaneGroups', WHERE WHAT IT READS IS OF BULK AT MOST 1048576: true; the input reads as it did. -/
def laneGroupsUptoRow : OpenClaim := { program := "ytdcifghhamondaa", sum := "5e3aa1149f141a2badc8f53d88a826c147d5d94f80659e841460543b7bfc9936", func := "daisychain/daisychainlaw06.LaneGroups", spec := "laneGroups", unfollowed := true, recurses := true, apart := false, narrowed := true }
def LaneGroupsUptoSaid : Prop := laneGroupsUptoRow.holds Try.pinned (OpenSpec.upto laneGroupsSpec)

/-- 'daisychainlaw06.LaneLast', WHERE WHAT IT READS IS OF BULK AT MOST 1048576: true; the input reads as it did. -/
def laneLastUptoRow : OpenClaim := { program := "ytdcifghhamondaa", sum := "5e3aa1149f141a2badc8f53d88a826c147d5d94f80659e841460543b7bfc9936", func := "daisychain/daisychainlaw06.LaneLast", spec := "laneLast", unfollowed := true, recurses := true, apart := false, narrowed := true }
def LaneLastUptoSaid : Prop := laneLastUptoRow.holds Try.pinned (OpenSpec.upto laneLastSpec)

/-- 'daisychainlaw06.LaneParts', WHERE WHAT IT READS IS OF BULK AT MOST 1048576: true; the input reads as it did. -/
def lanePartsUptoRow : OpenClaim := { program := "ytdcifghhamondaa", sum := "5e3aa1149f141a2badc8f53d88a826c147d5d94f80659e841460543b7bfc9936", func := "daisychain/daisychainlaw06.LaneParts", spec := "laneParts", unfollowed := true, recurses := true, apart := false, narrowed := true }
def LanePartsUptoSaid : Prop := lanePartsUptoRow.holds Try.pinned (OpenSpec.upto lanePartsSpec)

/-- 'daisychainlaw06.LaneDoes', WHERE WHAT IT READS IS OF BULK AT MOST 1048576: true; the input reads as it did. -/
def laneDoesUptoRow : OpenClaim := { program := "ytdcifghhamondaa", sum := "5e3aa1149f141a2badc8f53d88a826c147d5d94f80659e841460543b7bfc9936", func := "daisychain/daisychainlaw06.LaneDoes", spec := "laneDoes", inPlace := ["maps.clone"], unfollowed := true, recurses := true, apart := false, narrowed := true }
def LaneDoesUptoSaid : Prop := laneDoesUptoRow.holds Try.pinned (OpenSpec.upto laneDoesSpec)

/-- 'daisychainlaw06.LaneCopies', WHERE WHAT IT READS IS OF BULK AT MOST 1048576: true; the input reads as it did. -/
def laneCopiesUptoRow : OpenClaim := { program := "ytdcifghhamondaa", sum := "5e3aa1149f141a2badc8f53d88a826c147d5d94f80659e841460543b7bfc9936", func := "daisychain/daisychainlaw06.LaneCopies", spec := "laneCopies", inPlace := ["maps.clone"], unfollowed := true, recurses := true, apart := false, narrowed := true }
def LaneCopiesUptoSaid : Prop := laneCopiesUptoRow.holds Try.pinned (OpenSpec.upto laneCopiesSpec)

end Rows
end Go.Proofs.Ytdcifghhamondaa
