/-
  NARROWER THAN 'FOR EVERY INPUT', by the rows' own cells (each row's printed sentence says how): CmdWrites: laid · CmdReads: laid · CmdEnds: laid · CmdTells: laid · CmdAnswers: laid.
  DERIVED. THE GIVEN ROWS OF THIS SEAT. 5 by the template 'for every input the law returns true; each argument reads behind the call as it read before'; 0 by the template 'total and deterministic' (their statements: YtidjapjidihbpaaDoorTotals.lean).
  GIVEN WITH THE SEED: the statements are not yours to turn. If you find one false, say at which input.
  Laid BY PROGRAM, IN A SANDBOX (cutbox-rows.mjs): the forced cells as the released guide's own fill.sh prints them over the translation cdfb0d36730ee18d… (all of the seat's roots in one cut). By AI agents, Wed Nov 11 2026. No macro, syntax, notation, axiom, sorry.
-/
import Derived.Test.YtidjapjidihbpaaDoorChecked
import GoSem.Claim
import GoSem.ClaimJoined
import GoSem.ClaimMapViews
import Derived.JoinedTies
import Derived.KernelRfl
namespace Go.Proofs.YtidjapjidihbpaaDoor
/- THE CELL 'sum', in the pinned program and in every row, IS THE sha256 OF THE DUMP (.gsa) THAT YtidjapjidihbpaaDoorProg.lean LOADS. Nothing in Lean hashes anything: it is a label: what it is worth is what the hold of that sum in a sandbox is worth. -/
noncomputable def Tryd.pinned : Pinned := { name := "ytidjapjidihbpaadoor", sum := "cdfb0d36730ee18d1baa913180cb9e78e589d14e43417775a6d5970fe64f3897", checked := Tryd.checked }
namespace Rows
def none {H : Type} : Left H := { results := [], args := [] }

/- WHAT THE LISTED PACKAGE-LEVEL VARIABLES READ AS WHEN THE CALL BEGINS. Each datum BY PROGRAM (the guide's laid-datum.mjs) off the statement by which the dump's own 'gosem.cut.vars' lays the variable. In a bare row this is a premise. The card (YtidjapjidihbpaaDoorCards.lean) ties it to the program's text. -/
def laid_errors_errorType {H : Type} : DataW H := .iface "internal/reflectlite.rtype" (.agg [.ptr (.lit (.string [101, 114, 114, 111, 114]))])

/-- 'daisychainlaw10.CmdWrites': WHATEVER THE INPUT: true; the input reads as it did. -/
def cmdWritesSpec : ChangeSpec := { name := "cmdWrites", fn := fun _ => fun
  | [d] => { results := [.lit (.bool true)], args := [d] }
  | _ => none }
def cmdWritesRow : OpenClaim := { program := "ytidjapjidihbpaadoor", sum := "cdfb0d36730ee18d1baa913180cb9e78e589d14e43417775a6d5970fe64f3897", func := "daisychain/daisychainlaw10.CmdWrites", spec := "cmdWrites", inPlace := ["internal/reflectlite.ValueOf", "(internal/reflectlite.Value).Type", "(internal/reflectlite.Value).IsNil", "internal/reflectlite.TypeOf", "(internal/reflectlite.Value).Elem", "(internal/reflectlite.Value).Set"], unfollowed := true, recurses := true, named := ["errors.errorType"], apart := false, laid := [("errors.errorType", laid_errors_errorType)] }
def CmdWritesSaid : Prop := cmdWritesRow.holds Tryd.pinned (OpenSpec.ofChange cmdWritesSpec)

/-- ITS FALSE NEIGHBOUR: 'it returns false'. Refute it at one input. -/
def cmdWritesWrong : ChangeSpec := { name := "cmdWrites", fn := fun _ => fun
  | [d] => { results := [.lit (.bool false)], args := [d] }
  | _ => none }
def CmdWritesWrongFalsely : Prop := cmdWritesRow.holds Tryd.pinned (OpenSpec.ofChange cmdWritesWrong)

/-- 'daisychainlaw10.CmdReads': WHATEVER THE INPUT: true; the input reads as it did. -/
def cmdReadsSpec : ChangeSpec := { name := "cmdReads", fn := fun _ => fun
  | [d] => { results := [.lit (.bool true)], args := [d] }
  | _ => none }
def cmdReadsRow : OpenClaim := { program := "ytidjapjidihbpaadoor", sum := "cdfb0d36730ee18d1baa913180cb9e78e589d14e43417775a6d5970fe64f3897", func := "daisychain/daisychainlaw10.CmdReads", spec := "cmdReads", inPlace := ["internal/reflectlite.ValueOf", "(internal/reflectlite.Value).Type", "(internal/reflectlite.Value).IsNil", "internal/reflectlite.TypeOf", "(internal/reflectlite.Value).Elem", "(internal/reflectlite.Value).Set"], unfollowed := true, recurses := true, named := ["errors.errorType"], apart := false, laid := [("errors.errorType", laid_errors_errorType)] }
def CmdReadsSaid : Prop := cmdReadsRow.holds Tryd.pinned (OpenSpec.ofChange cmdReadsSpec)

/-- ITS FALSE NEIGHBOUR: 'it returns false'. Refute it at one input. -/
def cmdReadsWrong : ChangeSpec := { name := "cmdReads", fn := fun _ => fun
  | [d] => { results := [.lit (.bool false)], args := [d] }
  | _ => none }
def CmdReadsWrongFalsely : Prop := cmdReadsRow.holds Tryd.pinned (OpenSpec.ofChange cmdReadsWrong)

/-- 'daisychainlaw10.CmdEnds': WHATEVER THE INPUT: true; the input reads as it did. -/
def cmdEndsSpec : ChangeSpec := { name := "cmdEnds", fn := fun _ => fun
  | [d1, d2, d3] => { results := [.lit (.bool true)], args := [d1, d2, d3] }
  | _ => none }
def cmdEndsRow : OpenClaim := { program := "ytidjapjidihbpaadoor", sum := "cdfb0d36730ee18d1baa913180cb9e78e589d14e43417775a6d5970fe64f3897", func := "daisychain/daisychainlaw10.CmdEnds", spec := "cmdEnds", inPlace := ["internal/reflectlite.ValueOf", "(internal/reflectlite.Value).Type", "(internal/reflectlite.Value).IsNil", "internal/reflectlite.TypeOf", "(internal/reflectlite.Value).Elem", "(internal/reflectlite.Value).Set"], unfollowed := true, recurses := true, named := ["errors.errorType"], apart := false, laid := [("errors.errorType", laid_errors_errorType)] }
def CmdEndsSaid : Prop := cmdEndsRow.holds Tryd.pinned (OpenSpec.ofChange cmdEndsSpec)

/-- ITS FALSE NEIGHBOUR: 'it returns false'. Refute it at one input. -/
def cmdEndsWrong : ChangeSpec := { name := "cmdEnds", fn := fun _ => fun
  | [d1, d2, d3] => { results := [.lit (.bool false)], args := [d1, d2, d3] }
  | _ => none }
def CmdEndsWrongFalsely : Prop := cmdEndsRow.holds Tryd.pinned (OpenSpec.ofChange cmdEndsWrong)

/-- 'daisychainlaw10.CmdTells': WHATEVER THE INPUT: true; the input reads as it did. -/
def cmdTellsSpec : ChangeSpec := { name := "cmdTells", fn := fun _ => fun
  | [d] => { results := [.lit (.bool true)], args := [d] }
  | _ => none }
def cmdTellsRow : OpenClaim := { program := "ytidjapjidihbpaadoor", sum := "cdfb0d36730ee18d1baa913180cb9e78e589d14e43417775a6d5970fe64f3897", func := "daisychain/daisychainlaw10.CmdTells", spec := "cmdTells", inPlace := ["internal/reflectlite.ValueOf", "(internal/reflectlite.Value).Type", "(internal/reflectlite.Value).IsNil", "internal/reflectlite.TypeOf", "(internal/reflectlite.Value).Elem", "(internal/reflectlite.Value).Set"], unfollowed := true, recurses := true, named := ["errors.errorType"], apart := false, laid := [("errors.errorType", laid_errors_errorType)] }
def CmdTellsSaid : Prop := cmdTellsRow.holds Tryd.pinned (OpenSpec.ofChange cmdTellsSpec)

/-- ITS FALSE NEIGHBOUR: 'it returns false'. Refute it at one input. -/
def cmdTellsWrong : ChangeSpec := { name := "cmdTells", fn := fun _ => fun
  | [d] => { results := [.lit (.bool false)], args := [d] }
  | _ => none }
def CmdTellsWrongFalsely : Prop := cmdTellsRow.holds Tryd.pinned (OpenSpec.ofChange cmdTellsWrong)

/-- 'daisychainlaw10.CmdAnswers': WHATEVER THE INPUT: true; the input reads as it did. -/
def cmdAnswersSpec : ChangeSpec := { name := "cmdAnswers", fn := fun _ => fun
  | [d] => { results := [.lit (.bool true)], args := [d] }
  | _ => none }
def cmdAnswersRow : OpenClaim := { program := "ytidjapjidihbpaadoor", sum := "cdfb0d36730ee18d1baa913180cb9e78e589d14e43417775a6d5970fe64f3897", func := "daisychain/daisychainlaw10.CmdAnswers", spec := "cmdAnswers", inPlace := ["internal/reflectlite.ValueOf", "(internal/reflectlite.Value).Type", "(internal/reflectlite.Value).IsNil", "internal/reflectlite.TypeOf", "(internal/reflectlite.Value).Elem", "(internal/reflectlite.Value).Set"], unfollowed := true, recurses := true, named := ["errors.errorType"], apart := false, laid := [("errors.errorType", laid_errors_errorType)] }
def CmdAnswersSaid : Prop := cmdAnswersRow.holds Tryd.pinned (OpenSpec.ofChange cmdAnswersSpec)

/-- ITS FALSE NEIGHBOUR: 'it returns false'. Refute it at one input. -/
def cmdAnswersWrong : ChangeSpec := { name := "cmdAnswers", fn := fun _ => fun
  | [d] => { results := [.lit (.bool false)], args := [d] }
  | _ => none }
def CmdAnswersWrongFalsely : Prop := cmdAnswersRow.holds Tryd.pinned (OpenSpec.ofChange cmdAnswersWrong)

/- THE SECOND FORM. 'bulk': how many values and letters a reading holds, each counted each time it is reached (what is shared counts as often as it is met; a slice's spare places count too). A statement '..UptoSaid' is the law's where the arguments, and the package variables that the reading takes, are together of bulk at most 1048576: NARROWER than '..Said'. Prove '..Said' where nothing that the law and all that it calls make is longer than what came in: it says more and counts as full. Else prove '..UptoSaid'. A law counts once. -/
mutual
def uptoBulk {H : Type} : DataW H → Nat
  | .lit (.string bytes) => bytes.length + 1
  | .lit _ => 1
  | .nil => 1
  | .ptr d => uptoBulk d + 1
  | .slice elems spare => uptoBulkAll elems + uptoBulkAll spare + 1
  | .agg parts => uptoBulkAll parts + 1
  | .iface _ d => uptoBulk d + 1
  | .map entries => uptoBulkEntries entries + 1
  | .held _ => 1
def uptoBulkAll {H : Type} : List (DataW H) → Nat
  | [] => 0
  | d :: r => uptoBulk d + uptoBulkAll r
def uptoBulkEntries {H : Type} : List (Lit × DataW H) → Nat
  | [] => 0
  | x :: r => uptoBulkEntry x + uptoBulkEntries r
def uptoBulkEntry {H : Type} : Lit × DataW H → Nat
  | (.string bytes, d) => bytes.length + uptoBulk d + 1
  | (_, d) => uptoBulk d + 1
 end
def uptoSmall : (H : Type) → List (DataW H) → Bool := fun _ ds => decide (uptoBulkAll ds ≤ 1048576)
def OpenSpec.upto (s : _root_.Go.ChangeSpec) : _root_.Go.OpenSpec := { _root_.Go.OpenSpec.ofChange s with cond := some uptoSmall }

/-- 'daisychainlaw10.CmdWrites', WHERE WHAT IT READS IS OF BULK AT MOST 1048576: true; the input reads as it did. -/
def cmdWritesUptoRow : OpenClaim := { program := "ytidjapjidihbpaadoor", sum := "cdfb0d36730ee18d1baa913180cb9e78e589d14e43417775a6d5970fe64f3897", func := "daisychain/daisychainlaw10.CmdWrites", spec := "cmdWrites", inPlace := ["internal/reflectlite.ValueOf", "(internal/reflectlite.Value).Type", "(internal/reflectlite.Value).IsNil", "internal/reflectlite.TypeOf", "(internal/reflectlite.Value).Elem", "(internal/reflectlite.Value).Set"], unfollowed := true, recurses := true, named := ["errors.errorType"], apart := false, laid := [("errors.errorType", laid_errors_errorType)], narrowed := true }
def CmdWritesUptoSaid : Prop := cmdWritesUptoRow.holds Tryd.pinned (OpenSpec.upto cmdWritesSpec)

/-- 'daisychainlaw10.CmdReads', WHERE WHAT IT READS IS OF BULK AT MOST 1048576: true; the input reads as it did. -/
def cmdReadsUptoRow : OpenClaim := { program := "ytidjapjidihbpaadoor", sum := "cdfb0d36730ee18d1baa913180cb9e78e589d14e43417775a6d5970fe64f3897", func := "daisychain/daisychainlaw10.CmdReads", spec := "cmdReads", inPlace := ["internal/reflectlite.ValueOf", "(internal/reflectlite.Value).Type", "(internal/reflectlite.Value).IsNil", "internal/reflectlite.TypeOf", "(internal/reflectlite.Value).Elem", "(internal/reflectlite.Value).Set"], unfollowed := true, recurses := true, named := ["errors.errorType"], apart := false, laid := [("errors.errorType", laid_errors_errorType)], narrowed := true }
def CmdReadsUptoSaid : Prop := cmdReadsUptoRow.holds Tryd.pinned (OpenSpec.upto cmdReadsSpec)

/-- 'daisychainlaw10.CmdEnds', WHERE WHAT IT READS IS OF BULK AT MOST 1048576: true; the input reads as it did. -/
def cmdEndsUptoRow : OpenClaim := { program := "ytidjapjidihbpaadoor", sum := "cdfb0d36730ee18d1baa913180cb9e78e589d14e43417775a6d5970fe64f3897", func := "daisychain/daisychainlaw10.CmdEnds", spec := "cmdEnds", inPlace := ["internal/reflectlite.ValueOf", "(internal/reflectlite.Value).Type", "(internal/reflectlite.Value).IsNil", "internal/reflectlite.TypeOf", "(internal/reflectlite.Value).Elem", "(internal/reflectlite.Value).Set"], unfollowed := true, recurses := true, named := ["errors.errorType"], apart := false, laid := [("errors.errorType", laid_errors_errorType)], narrowed := true }
def CmdEndsUptoSaid : Prop := cmdEndsUptoRow.holds Tryd.pinned (OpenSpec.upto cmdEndsSpec)

/-- 'daisychainlaw10.CmdTells', WHERE WHAT IT READS IS OF BULK AT MOST 1048576: true; the input reads as it did. -/
def cmdTellsUptoRow : OpenClaim := { program := "ytidjapjidihbpaadoor", sum := "cdfb0d36730ee18d1baa913180cb9e78e589d14e43417775a6d5970fe64f3897", func := "daisychain/daisychainlaw10.CmdTells", spec := "cmdTells", inPlace := ["internal/reflectlite.ValueOf", "(internal/reflectlite.Value).Type", "(internal/reflectlite.Value).IsNil", "internal/reflectlite.TypeOf", "(internal/reflectlite.Value).Elem", "(internal/reflectlite.Value).Set"], unfollowed := true, recurses := true, named := ["errors.errorType"], apart := false, laid := [("errors.errorType", laid_errors_errorType)], narrowed := true }
def CmdTellsUptoSaid : Prop := cmdTellsUptoRow.holds Tryd.pinned (OpenSpec.upto cmdTellsSpec)

/-- 'daisychainlaw10.CmdAnswers', WHERE WHAT IT READS IS OF BULK AT MOST 1048576: true; the input reads as it did. -/
def cmdAnswersUptoRow : OpenClaim := { program := "ytidjapjidihbpaadoor", sum := "cdfb0d36730ee18d1baa913180cb9e78e589d14e43417775a6d5970fe64f3897", func := "daisychain/daisychainlaw10.CmdAnswers", spec := "cmdAnswers", inPlace := ["internal/reflectlite.ValueOf", "(internal/reflectlite.Value).Type", "(internal/reflectlite.Value).IsNil", "internal/reflectlite.TypeOf", "(internal/reflectlite.Value).Elem", "(internal/reflectlite.Value).Set"], unfollowed := true, recurses := true, named := ["errors.errorType"], apart := false, laid := [("errors.errorType", laid_errors_errorType)], narrowed := true }
def CmdAnswersUptoSaid : Prop := cmdAnswersUptoRow.holds Tryd.pinned (OpenSpec.upto cmdAnswersSpec)

end Rows
end Go.Proofs.YtidjapjidihbpaaDoor
