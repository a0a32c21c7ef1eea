/-
  NARROWER THAN 'FOR EVERY INPUT', by the rows' own cells (each row's printed sentence says how): ShopSame: laid · ShopDead: laid · ShopAcked: laid · ShopFull: laid · ShopTimes: laid · ShopApart: laid · ShopDoes: laid · ShopTwice: laid · ShopBatches: laid · ShopCopies: laid · CmdRuns: laid.
  DERIVED. THE GIVEN ROWS OF THIS SEAT. 11 by the template 'for every input the law returns true; each argument reads behind the call as it read before'; 0 by the template 'total and deterministic' (their statements: YtipdleiginnjmaaGreatDoorTotals.lean).
  GIVEN WITH THE SEED: the statements are not yours to turn. If you find one false, say at which input.
  Laid BY PROGRAM, IN A SANDBOX (cutbox-rows.mjs): the forced cells as the released guide's own fill.sh prints them over the translation 1fd9949dbfb17b40… (all of the seat's roots in one cut). By AI agents, Wed Nov 11 2026. No macro, syntax, notation, axiom, sorry.
-/
import Derived.Test.YtipdleiginnjmaaGreatDoorChecked
import GoSem.Claim
import GoSem.ClaimJoined
import GoSem.ClaimMapViews
import Derived.JoinedTies
import Derived.KernelRfl
namespace Go.Proofs.YtipdleiginnjmaaGreatDoor
/- THE CELL 'sum', in the pinned program and in every row, IS THE sha256 OF THE DUMP (.gsa) THAT YtipdleiginnjmaaGreatDoorProg.lean LOADS. Nothing in Lean hashes anything: it is a label: what it is worth is what the hold of that sum in a sandbox is worth. -/
noncomputable def Tryz.pinned : Pinned := { name := "ytipdleiginnjmaagreatdoor", sum := "1fd9949dbfb17b4019fef30bfee732b29801eae008a2e68ec18d334c8f25135a", checked := Tryz.checked }
namespace Rows
def none {H : Type} : Left H := { results := [], args := [] }

/- WHAT THE LISTED PACKAGE-LEVEL VARIABLES READ AS WHEN THE CALL BEGINS. Each datum BY PROGRAM (the guide's laid-datum.mjs) off the statement by which the dump's own 'gosem.cut.vars' lays the variable. In a bare row this is a premise. The card (YtipdleiginnjmaaGreatDoorCards.lean) ties it to the program's text. -/
def laid_math_bits_deBruijn32tab {H : Type} : DataW H := .agg [.lit (.int .u8 0), .lit (.int .u8 1), .lit (.int .u8 28), .lit (.int .u8 2), .lit (.int .u8 29), .lit (.int .u8 14), .lit (.int .u8 24), .lit (.int .u8 3), .lit (.int .u8 30), .lit (.int .u8 22), .lit (.int .u8 20), .lit (.int .u8 15), .lit (.int .u8 25), .lit (.int .u8 17), .lit (.int .u8 4), .lit (.int .u8 8), .lit (.int .u8 31), .lit (.int .u8 27), .lit (.int .u8 13), .lit (.int .u8 23), .lit (.int .u8 21), .lit (.int .u8 19), .lit (.int .u8 16), .lit (.int .u8 7), .lit (.int .u8 26), .lit (.int .u8 12), .lit (.int .u8 18), .lit (.int .u8 6), .lit (.int .u8 11), .lit (.int .u8 5), .lit (.int .u8 10), .lit (.int .u8 9)]
def laid_math_bits_deBruijn64tab {H : Type} : DataW H := .agg [.lit (.int .u8 0), .lit (.int .u8 1), .lit (.int .u8 56), .lit (.int .u8 2), .lit (.int .u8 57), .lit (.int .u8 49), .lit (.int .u8 28), .lit (.int .u8 3), .lit (.int .u8 61), .lit (.int .u8 58), .lit (.int .u8 42), .lit (.int .u8 50), .lit (.int .u8 38), .lit (.int .u8 29), .lit (.int .u8 17), .lit (.int .u8 4), .lit (.int .u8 62), .lit (.int .u8 47), .lit (.int .u8 59), .lit (.int .u8 36), .lit (.int .u8 45), .lit (.int .u8 43), .lit (.int .u8 51), .lit (.int .u8 22), .lit (.int .u8 53), .lit (.int .u8 39), .lit (.int .u8 33), .lit (.int .u8 30), .lit (.int .u8 24), .lit (.int .u8 18), .lit (.int .u8 12), .lit (.int .u8 5), .lit (.int .u8 63), .lit (.int .u8 55), .lit (.int .u8 48), .lit (.int .u8 27), .lit (.int .u8 60), .lit (.int .u8 41), .lit (.int .u8 37), .lit (.int .u8 16), .lit (.int .u8 46), .lit (.int .u8 35), .lit (.int .u8 44), .lit (.int .u8 21), .lit (.int .u8 52), .lit (.int .u8 32), .lit (.int .u8 23), .lit (.int .u8 11), .lit (.int .u8 54), .lit (.int .u8 26), .lit (.int .u8 40), .lit (.int .u8 15), .lit (.int .u8 34), .lit (.int .u8 20), .lit (.int .u8 31), .lit (.int .u8 10), .lit (.int .u8 25), .lit (.int .u8 14), .lit (.int .u8 19), .lit (.int .u8 9), .lit (.int .u8 13), .lit (.int .u8 8), .lit (.int .u8 7), .lit (.int .u8 6)]
def laid_internal_strconv_uint64pow10 {H : Type} : DataW H := .agg [.lit (.int .u64 1), .lit (.int .u64 10), .lit (.int .u64 100), .lit (.int .u64 1000), .lit (.int .u64 10000), .lit (.int .u64 100000), .lit (.int .u64 1000000), .lit (.int .u64 10000000), .lit (.int .u64 100000000), .lit (.int .u64 1000000000), .lit (.int .u64 10000000000), .lit (.int .u64 100000000000), .lit (.int .u64 1000000000000), .lit (.int .u64 10000000000000), .lit (.int .u64 100000000000000), .lit (.int .u64 1000000000000000), .lit (.int .u64 10000000000000000), .lit (.int .u64 100000000000000000), .lit (.int .u64 1000000000000000000), .lit (.int .u64 10000000000000000000)]
def laid_errors_errorType {H : Type} : DataW H := .iface "internal/reflectlite.rtype" (.agg [.ptr (.lit (.string [101, 114, 114, 111, 114]))])

/-- 'daisychainlaw09.ShopSame': WHATEVER THE INPUT: true; the input reads as it did. -/
def shopSameSpec : ChangeSpec := { name := "shopSame", fn := fun _ => fun
  | [d] => { results := [.lit (.bool true)], args := [d] }
  | _ => none }
def shopSameRow : OpenClaim := { program := "ytipdleiginnjmaagreatdoor", sum := "1fd9949dbfb17b4019fef30bfee732b29801eae008a2e68ec18d334c8f25135a", func := "daisychain/daisychainlaw09.ShopSame", spec := "shopSame", inPlace := ["internal/reflectlite.ValueOf", "(internal/reflectlite.Value).Type", "(internal/reflectlite.Value).IsNil", "internal/reflectlite.TypeOf", "(internal/reflectlite.Value).Elem", "(internal/reflectlite.Value).Set", "internal/bytealg.abigen_runtime_cmpstring"], unfollowed := true, recurses := true, named := ["errors.errorType", "internal/strconv.uint64pow10", "math/bits.deBruijn32tab", "math/bits.deBruijn64tab"], apart := false, laid := [("math/bits.deBruijn32tab", laid_math_bits_deBruijn32tab), ("math/bits.deBruijn64tab", laid_math_bits_deBruijn64tab), ("internal/strconv.uint64pow10", laid_internal_strconv_uint64pow10), ("errors.errorType", laid_errors_errorType)] }
def ShopSameSaid : Prop := shopSameRow.holds Tryz.pinned (OpenSpec.ofChange shopSameSpec)

/-- ITS FALSE NEIGHBOUR: 'it returns false'. Refute it at one input. -/
def shopSameWrong : ChangeSpec := { name := "shopSame", fn := fun _ => fun
  | [d] => { results := [.lit (.bool false)], args := [d] }
  | _ => none }
def ShopSameWrongFalsely : Prop := shopSameRow.holds Tryz.pinned (OpenSpec.ofChange shopSameWrong)

/-- 'daisychainlaw09.ShopDead': WHATEVER THE INPUT: true; the input reads as it did. -/
def shopDeadSpec : ChangeSpec := { name := "shopDead", fn := fun _ => fun
  | [d1, d2, d3, d4] => { results := [.lit (.bool true)], args := [d1, d2, d3, d4] }
  | _ => none }
def shopDeadRow : OpenClaim := { program := "ytipdleiginnjmaagreatdoor", sum := "1fd9949dbfb17b4019fef30bfee732b29801eae008a2e68ec18d334c8f25135a", func := "daisychain/daisychainlaw09.ShopDead", spec := "shopDead", inPlace := ["internal/reflectlite.ValueOf", "(internal/reflectlite.Value).Type", "(internal/reflectlite.Value).IsNil", "internal/reflectlite.TypeOf", "(internal/reflectlite.Value).Elem", "(internal/reflectlite.Value).Set", "internal/bytealg.abigen_runtime_cmpstring"], unfollowed := true, recurses := true, named := ["errors.errorType", "internal/strconv.uint64pow10", "math/bits.deBruijn32tab", "math/bits.deBruijn64tab"], apart := false, laid := [("math/bits.deBruijn32tab", laid_math_bits_deBruijn32tab), ("math/bits.deBruijn64tab", laid_math_bits_deBruijn64tab), ("internal/strconv.uint64pow10", laid_internal_strconv_uint64pow10), ("errors.errorType", laid_errors_errorType)] }
def ShopDeadSaid : Prop := shopDeadRow.holds Tryz.pinned (OpenSpec.ofChange shopDeadSpec)

/-- ITS FALSE NEIGHBOUR: 'it returns false'. Refute it at one input. -/
def shopDeadWrong : ChangeSpec := { name := "shopDead", fn := fun _ => fun
  | [d1, d2, d3, d4] => { results := [.lit (.bool false)], args := [d1, d2, d3, d4] }
  | _ => none }
def ShopDeadWrongFalsely : Prop := shopDeadRow.holds Tryz.pinned (OpenSpec.ofChange shopDeadWrong)

/-- 'daisychainlaw09.ShopAcked': WHATEVER THE INPUT: true; the input reads as it did. -/
def shopAckedSpec : ChangeSpec := { name := "shopAcked", fn := fun _ => fun
  | [d] => { results := [.lit (.bool true)], args := [d] }
  | _ => none }
def shopAckedRow : OpenClaim := { program := "ytipdleiginnjmaagreatdoor", sum := "1fd9949dbfb17b4019fef30bfee732b29801eae008a2e68ec18d334c8f25135a", func := "daisychain/daisychainlaw09.ShopAcked", spec := "shopAcked", inPlace := ["internal/reflectlite.ValueOf", "(internal/reflectlite.Value).Type", "(internal/reflectlite.Value).IsNil", "internal/reflectlite.TypeOf", "(internal/reflectlite.Value).Elem", "(internal/reflectlite.Value).Set", "internal/bytealg.abigen_runtime_cmpstring"], unfollowed := true, recurses := true, named := ["errors.errorType", "internal/strconv.uint64pow10", "math/bits.deBruijn32tab", "math/bits.deBruijn64tab"], apart := false, laid := [("math/bits.deBruijn32tab", laid_math_bits_deBruijn32tab), ("math/bits.deBruijn64tab", laid_math_bits_deBruijn64tab), ("internal/strconv.uint64pow10", laid_internal_strconv_uint64pow10), ("errors.errorType", laid_errors_errorType)] }
def ShopAckedSaid : Prop := shopAckedRow.holds Tryz.pinned (OpenSpec.ofChange shopAckedSpec)

/-- ITS FALSE NEIGHBOUR: 'it returns false'. Refute it at one input. -/
def shopAckedWrong : ChangeSpec := { name := "shopAcked", fn := fun _ => fun
  | [d] => { results := [.lit (.bool false)], args := [d] }
  | _ => none }
def ShopAckedWrongFalsely : Prop := shopAckedRow.holds Tryz.pinned (OpenSpec.ofChange shopAckedWrong)

/-- 'daisychainlaw09.ShopFull': WHATEVER THE INPUT: true; the input reads as it did. -/
def shopFullSpec : ChangeSpec := { name := "shopFull", fn := fun _ => fun
  | [d1, d2] => { results := [.lit (.bool true)], args := [d1, d2] }
  | _ => none }
def shopFullRow : OpenClaim := { program := "ytipdleiginnjmaagreatdoor", sum := "1fd9949dbfb17b4019fef30bfee732b29801eae008a2e68ec18d334c8f25135a", func := "daisychain/daisychainlaw09.ShopFull", spec := "shopFull", inPlace := ["internal/reflectlite.ValueOf", "(internal/reflectlite.Value).Type", "(internal/reflectlite.Value).IsNil", "internal/reflectlite.TypeOf", "(internal/reflectlite.Value).Elem", "(internal/reflectlite.Value).Set", "internal/bytealg.abigen_runtime_cmpstring"], unfollowed := true, recurses := true, named := ["errors.errorType", "internal/strconv.uint64pow10", "math/bits.deBruijn32tab", "math/bits.deBruijn64tab"], apart := false, laid := [("math/bits.deBruijn32tab", laid_math_bits_deBruijn32tab), ("math/bits.deBruijn64tab", laid_math_bits_deBruijn64tab), ("internal/strconv.uint64pow10", laid_internal_strconv_uint64pow10), ("errors.errorType", laid_errors_errorType)] }
def ShopFullSaid : Prop := shopFullRow.holds Tryz.pinned (OpenSpec.ofChange shopFullSpec)

/-- ITS FALSE NEIGHBOUR: 'it returns false'. Refute it at one input. -/
def shopFullWrong : ChangeSpec := { name := "shopFull", fn := fun _ => fun
  | [d1, d2] => { results := [.lit (.bool false)], args := [d1, d2] }
  | _ => none }
def ShopFullWrongFalsely : Prop := shopFullRow.holds Tryz.pinned (OpenSpec.ofChange shopFullWrong)

/-- 'daisychainlaw09.ShopTimes': WHATEVER THE INPUT: true; the input reads as it did. -/
def shopTimesSpec : ChangeSpec := { name := "shopTimes", fn := fun _ => fun
  | [d] => { results := [.lit (.bool true)], args := [d] }
  | _ => none }
def shopTimesRow : OpenClaim := { program := "ytipdleiginnjmaagreatdoor", sum := "1fd9949dbfb17b4019fef30bfee732b29801eae008a2e68ec18d334c8f25135a", func := "daisychain/daisychainlaw09.ShopTimes", spec := "shopTimes", inPlace := ["internal/reflectlite.ValueOf", "(internal/reflectlite.Value).Type", "(internal/reflectlite.Value).IsNil", "internal/reflectlite.TypeOf", "(internal/reflectlite.Value).Elem", "(internal/reflectlite.Value).Set", "internal/bytealg.abigen_runtime_cmpstring"], unfollowed := true, recurses := true, named := ["errors.errorType", "internal/strconv.uint64pow10", "math/bits.deBruijn32tab", "math/bits.deBruijn64tab"], apart := false, laid := [("math/bits.deBruijn32tab", laid_math_bits_deBruijn32tab), ("math/bits.deBruijn64tab", laid_math_bits_deBruijn64tab), ("internal/strconv.uint64pow10", laid_internal_strconv_uint64pow10), ("errors.errorType", laid_errors_errorType)] }
def ShopTimesSaid : Prop := shopTimesRow.holds Tryz.pinned (OpenSpec.ofChange shopTimesSpec)

/-- ITS FALSE NEIGHBOUR: 'it returns false'. Refute it at one input. -/
def shopTimesWrong : ChangeSpec := { name := "shopTimes", fn := fun _ => fun
  | [d] => { results := [.lit (.bool false)], args := [d] }
  | _ => none }
def ShopTimesWrongFalsely : Prop := shopTimesRow.holds Tryz.pinned (OpenSpec.ofChange shopTimesWrong)

/-- 'daisychainlaw09.ShopApart': WHATEVER THE INPUT: true; the input reads as it did. -/
def shopApartSpec : ChangeSpec := { name := "shopApart", fn := fun _ => fun
  | [d1, d2] => { results := [.lit (.bool true)], args := [d1, d2] }
  | _ => none }
def shopApartRow : OpenClaim := { program := "ytipdleiginnjmaagreatdoor", sum := "1fd9949dbfb17b4019fef30bfee732b29801eae008a2e68ec18d334c8f25135a", func := "daisychain/daisychainlaw09.ShopApart", spec := "shopApart", inPlace := ["internal/reflectlite.ValueOf", "(internal/reflectlite.Value).Type", "(internal/reflectlite.Value).IsNil", "internal/reflectlite.TypeOf", "(internal/reflectlite.Value).Elem", "(internal/reflectlite.Value).Set", "internal/bytealg.abigen_runtime_cmpstring"], unfollowed := true, recurses := true, named := ["errors.errorType", "internal/strconv.uint64pow10", "math/bits.deBruijn32tab", "math/bits.deBruijn64tab"], apart := false, laid := [("math/bits.deBruijn32tab", laid_math_bits_deBruijn32tab), ("math/bits.deBruijn64tab", laid_math_bits_deBruijn64tab), ("internal/strconv.uint64pow10", laid_internal_strconv_uint64pow10), ("errors.errorType", laid_errors_errorType)] }
def ShopApartSaid : Prop := shopApartRow.holds Tryz.pinned (OpenSpec.ofChange shopApartSpec)

/-- ITS FALSE NEIGHBOUR: 'it returns false'. Refute it at one input. -/
def shopApartWrong : ChangeSpec := { name := "shopApart", fn := fun _ => fun
  | [d1, d2] => { results := [.lit (.bool false)], args := [d1, d2] }
  | _ => none }
def ShopApartWrongFalsely : Prop := shopApartRow.holds Tryz.pinned (OpenSpec.ofChange shopApartWrong)

/-- 'daisychainlaw09.ShopDoes': WHATEVER THE INPUT: true; the input reads as it did. -/
def shopDoesSpec : ChangeSpec := { name := "shopDoes", fn := fun _ => fun
  | [d] => { results := [.lit (.bool true)], args := [d] }
  | _ => none }
def shopDoesRow : OpenClaim := { program := "ytipdleiginnjmaagreatdoor", sum := "1fd9949dbfb17b4019fef30bfee732b29801eae008a2e68ec18d334c8f25135a", func := "daisychain/daisychainlaw09.ShopDoes", spec := "shopDoes", inPlace := ["internal/reflectlite.ValueOf", "(internal/reflectlite.Value).Type", "(internal/reflectlite.Value).IsNil", "internal/reflectlite.TypeOf", "(internal/reflectlite.Value).Elem", "(internal/reflectlite.Value).Set", "internal/bytealg.abigen_runtime_cmpstring"], unfollowed := true, recurses := true, named := ["errors.errorType", "internal/strconv.uint64pow10", "math/bits.deBruijn32tab", "math/bits.deBruijn64tab"], apart := false, laid := [("math/bits.deBruijn32tab", laid_math_bits_deBruijn32tab), ("math/bits.deBruijn64tab", laid_math_bits_deBruijn64tab), ("internal/strconv.uint64pow10", laid_internal_strconv_uint64pow10), ("errors.errorType", laid_errors_errorType)] }
def ShopDoesSaid : Prop := shopDoesRow.holds Tryz.pinned (OpenSpec.ofChange shopDoesSpec)

/-- ITS FALSE NEIGHBOUR: 'it returns false'. Refute it at one input. -/
def shopDoesWrong : ChangeSpec := { name := "shopDoes", fn := fun _ => fun
  | [d] => { results := [.lit (.bool false)], args := [d] }
  | _ => none }
def ShopDoesWrongFalsely : Prop := shopDoesRow.holds Tryz.pinned (OpenSpec.ofChange shopDoesWrong)

/-- 'daisychainlaw09.ShopTwice': WHATEVER THE INPUT: true; the input reads as it did. -/
def shopTwiceSpec : ChangeSpec := { name := "shopTwice", fn := fun _ => fun
  | [d1, d2] => { results := [.lit (.bool true)], args := [d1, d2] }
  | _ => none }
def shopTwiceRow : OpenClaim := { program := "ytipdleiginnjmaagreatdoor", sum := "1fd9949dbfb17b4019fef30bfee732b29801eae008a2e68ec18d334c8f25135a", func := "daisychain/daisychainlaw09.ShopTwice", spec := "shopTwice", inPlace := ["internal/reflectlite.ValueOf", "(internal/reflectlite.Value).Type", "(internal/reflectlite.Value).IsNil", "internal/reflectlite.TypeOf", "(internal/reflectlite.Value).Elem", "(internal/reflectlite.Value).Set", "internal/bytealg.abigen_runtime_cmpstring"], unfollowed := true, recurses := true, named := ["errors.errorType", "internal/strconv.uint64pow10", "math/bits.deBruijn32tab", "math/bits.deBruijn64tab"], apart := false, laid := [("math/bits.deBruijn32tab", laid_math_bits_deBruijn32tab), ("math/bits.deBruijn64tab", laid_math_bits_deBruijn64tab), ("internal/strconv.uint64pow10", laid_internal_strconv_uint64pow10), ("errors.errorType", laid_errors_errorType)] }
def ShopTwiceSaid : Prop := shopTwiceRow.holds Tryz.pinned (OpenSpec.ofChange shopTwiceSpec)

/-- ITS FALSE NEIGHBOUR: 'it returns false'. Refute it at one input. -/
def shopTwiceWrong : ChangeSpec := { name := "shopTwice", fn := fun _ => fun
  | [d1, d2] => { results := [.lit (.bool false)], args := [d1, d2] }
  | _ => none }
def ShopTwiceWrongFalsely : Prop := shopTwiceRow.holds Tryz.pinned (OpenSpec.ofChange shopTwiceWrong)

/-- 'daisychainlaw09.ShopBatches': WHATEVER THE INPUT: true; the input reads as it did. -/
def shopBatchesSpec : ChangeSpec := { name := "shopBatches", fn := fun _ => fun
  | [d1, d2, d3, d4] => { results := [.lit (.bool true)], args := [d1, d2, d3, d4] }
  | _ => none }
def shopBatchesRow : OpenClaim := { program := "ytipdleiginnjmaagreatdoor", sum := "1fd9949dbfb17b4019fef30bfee732b29801eae008a2e68ec18d334c8f25135a", func := "daisychain/daisychainlaw09.ShopBatches", spec := "shopBatches", inPlace := ["internal/reflectlite.ValueOf", "(internal/reflectlite.Value).Type", "(internal/reflectlite.Value).IsNil", "internal/reflectlite.TypeOf", "(internal/reflectlite.Value).Elem", "(internal/reflectlite.Value).Set", "internal/bytealg.abigen_runtime_cmpstring", "maps.clone"], unfollowed := true, recurses := true, named := ["errors.errorType", "internal/strconv.uint64pow10", "math/bits.deBruijn32tab", "math/bits.deBruijn64tab"], apart := false, laid := [("math/bits.deBruijn32tab", laid_math_bits_deBruijn32tab), ("math/bits.deBruijn64tab", laid_math_bits_deBruijn64tab), ("internal/strconv.uint64pow10", laid_internal_strconv_uint64pow10), ("errors.errorType", laid_errors_errorType)] }
def ShopBatchesSaid : Prop := shopBatchesRow.holds Tryz.pinned (OpenSpec.ofChange shopBatchesSpec)

/-- ITS FALSE NEIGHBOUR: 'it returns false'. Refute it at one input. -/
def shopBatchesWrong : ChangeSpec := { name := "shopBatches", fn := fun _ => fun
  | [d1, d2, d3, d4] => { results := [.lit (.bool false)], args := [d1, d2, d3, d4] }
  | _ => none }
def ShopBatchesWrongFalsely : Prop := shopBatchesRow.holds Tryz.pinned (OpenSpec.ofChange shopBatchesWrong)

/-- 'daisychainlaw09.ShopCopies': WHATEVER THE INPUT: true; the input reads as it did. -/
def shopCopiesSpec : ChangeSpec := { name := "shopCopies", fn := fun _ => fun
  | [d1, d2] => { results := [.lit (.bool true)], args := [d1, d2] }
  | _ => none }
def shopCopiesRow : OpenClaim := { program := "ytipdleiginnjmaagreatdoor", sum := "1fd9949dbfb17b4019fef30bfee732b29801eae008a2e68ec18d334c8f25135a", func := "daisychain/daisychainlaw09.ShopCopies", spec := "shopCopies", inPlace := ["internal/reflectlite.ValueOf", "(internal/reflectlite.Value).Type", "(internal/reflectlite.Value).IsNil", "internal/reflectlite.TypeOf", "(internal/reflectlite.Value).Elem", "(internal/reflectlite.Value).Set", "internal/bytealg.abigen_runtime_cmpstring", "maps.clone"], unfollowed := true, recurses := true, named := ["errors.errorType", "internal/strconv.uint64pow10", "math/bits.deBruijn32tab", "math/bits.deBruijn64tab"], apart := false, laid := [("math/bits.deBruijn32tab", laid_math_bits_deBruijn32tab), ("math/bits.deBruijn64tab", laid_math_bits_deBruijn64tab), ("internal/strconv.uint64pow10", laid_internal_strconv_uint64pow10), ("errors.errorType", laid_errors_errorType)] }
def ShopCopiesSaid : Prop := shopCopiesRow.holds Tryz.pinned (OpenSpec.ofChange shopCopiesSpec)

/-- ITS FALSE NEIGHBOUR: 'it returns false'. Refute it at one input. -/
def shopCopiesWrong : ChangeSpec := { name := "shopCopies", fn := fun _ => fun
  | [d1, d2] => { results := [.lit (.bool false)], args := [d1, d2] }
  | _ => none }
def ShopCopiesWrongFalsely : Prop := shopCopiesRow.holds Tryz.pinned (OpenSpec.ofChange shopCopiesWrong)

/-- 'daisychainlaw10.CmdRuns': WHATEVER THE INPUT: true; the input reads as it did. -/
def cmdRunsSpec : ChangeSpec := { name := "cmdRuns", fn := fun _ => fun
  | [d] => { results := [.lit (.bool true)], args := [d] }
  | _ => none }
def cmdRunsRow : OpenClaim := { program := "ytipdleiginnjmaagreatdoor", sum := "1fd9949dbfb17b4019fef30bfee732b29801eae008a2e68ec18d334c8f25135a", func := "daisychain/daisychainlaw10.CmdRuns", spec := "cmdRuns", inPlace := ["internal/reflectlite.ValueOf", "(internal/reflectlite.Value).Type", "(internal/reflectlite.Value).IsNil", "internal/reflectlite.TypeOf", "(internal/reflectlite.Value).Elem", "(internal/reflectlite.Value).Set", "internal/bytealg.abigen_runtime_cmpstring"], unfollowed := true, recurses := true, named := ["errors.errorType", "internal/strconv.uint64pow10", "math/bits.deBruijn32tab", "math/bits.deBruijn64tab"], apart := false, laid := [("math/bits.deBruijn32tab", laid_math_bits_deBruijn32tab), ("math/bits.deBruijn64tab", laid_math_bits_deBruijn64tab), ("internal/strconv.uint64pow10", laid_internal_strconv_uint64pow10), ("errors.errorType", laid_errors_errorType)] }
def CmdRunsSaid : Prop := cmdRunsRow.holds Tryz.pinned (OpenSpec.ofChange cmdRunsSpec)

/-- ITS FALSE NEIGHBOUR: 'it returns false'. Refute it at one input. -/
def cmdRunsWrong : ChangeSpec := { name := "cmdRuns", fn := fun _ => fun
  | [d] => { results := [.lit (.bool false)], args := [d] }
  | _ => none }
def CmdRunsWrongFalsely : Prop := cmdRunsRow.holds Tryz.pinned (OpenSpec.ofChange cmdRunsWrong)

/- THE SECOND FORM. 'bulk': how many values and letters a reading holds, each counted each time it is reached (what is shared counts as often as it is met; a slice's spare places count too). A statement '..UptoSaid' is the law's where the arguments, and the package variables that the reading takes, are together of bulk at most 1048576: NARROWER than '..Said'. Prove '..Said' where nothing that the law and all that it calls make is longer than what came in: it says more and counts as full. Else prove '..UptoSaid'. A law counts once. -/
mutual
def uptoBulk {H : Type} : DataW H → Nat
  | .lit (.string bytes) => bytes.length + 1
  | .lit _ => 1
  | .nil => 1
  | .ptr d => uptoBulk d + 1
  | .slice elems spare => uptoBulkAll elems + uptoBulkAll spare + 1
  | .agg parts => uptoBulkAll parts + 1
  | .iface _ d => uptoBulk d + 1
  | .map entries => uptoBulkEntries entries + 1
  | .held _ => 1
def uptoBulkAll {H : Type} : List (DataW H) → Nat
  | [] => 0
  | d :: r => uptoBulk d + uptoBulkAll r
def uptoBulkEntries {H : Type} : List (Lit × DataW H) → Nat
  | [] => 0
  | x :: r => uptoBulkEntry x + uptoBulkEntries r
def uptoBulkEntry {H : Type} : Lit × DataW H → Nat
  | (.string bytes, d) => bytes.length + uptoBulk d + 1
  | (_, d) => uptoBulk d + 1
 end
def uptoSmall : (H : Type) → List (DataW H) → Bool := fun _ ds => decide (uptoBulkAll ds ≤ 1048576)
def OpenSpec.upto (s : _root_.Go.ChangeSpec) : _root_.Go.OpenSpec := { _root_.Go.OpenSpec.ofChange s with cond := some uptoSmall }

/-- 'daisychainlaw09.ShopSame', WHERE WHAT IT READS IS OF BULK AT MOST 1048576: true; the input reads as it did. -/
def shopSameUptoRow : OpenClaim := { program := "ytipdleiginnjmaagreatdoor", sum := "1fd9949dbfb17b4019fef30bfee732b29801eae008a2e68ec18d334c8f25135a", func := "daisychain/daisychainlaw09.ShopSame", spec := "shopSame", inPlace := ["internal/reflectlite.ValueOf", "(internal/reflectlite.Value).Type", "(internal/reflectlite.Value).IsNil", "internal/reflectlite.TypeOf", "(internal/reflectlite.Value).Elem", "(internal/reflectlite.Value).Set", "internal/bytealg.abigen_runtime_cmpstring"], unfollowed := true, recurses := true, named := ["errors.errorType", "internal/strconv.uint64pow10", "math/bits.deBruijn32tab", "math/bits.deBruijn64tab"], apart := false, laid := [("math/bits.deBruijn32tab", laid_math_bits_deBruijn32tab), ("math/bits.deBruijn64tab", laid_math_bits_deBruijn64tab), ("internal/strconv.uint64pow10", laid_internal_strconv_uint64pow10), ("errors.errorType", laid_errors_errorType)], narrowed := true }
def ShopSameUptoSaid : Prop := shopSameUptoRow.holds Tryz.pinned (OpenSpec.upto shopSameSpec)

/-- 'daisychainlaw09.ShopDead', WHERE WHAT IT READS IS OF BULK AT MOST 1048576: true; the input reads as it did. -/
def shopDeadUptoRow : OpenClaim := { program := "ytipdleiginnjmaagreatdoor", sum := "1fd9949dbfb17b4019fef30bfee732b29801eae008a2e68ec18d334c8f25135a", func := "daisychain/daisychainlaw09.ShopDead", spec := "shopDead", inPlace := ["internal/reflectlite.ValueOf", "(internal/reflectlite.Value).Type", "(internal/reflectlite.Value).IsNil", "internal/reflectlite.TypeOf", "(internal/reflectlite.Value).Elem", "(internal/reflectlite.Value).Set", "internal/bytealg.abigen_runtime_cmpstring"], unfollowed := true, recurses := true, named := ["errors.errorType", "internal/strconv.uint64pow10", "math/bits.deBruijn32tab", "math/bits.deBruijn64tab"], apart := false, laid := [("math/bits.deBruijn32tab", laid_math_bits_deBruijn32tab), ("math/bits.deBruijn64tab", laid_math_bits_deBruijn64tab), ("internal/strconv.uint64pow10", laid_internal_strconv_uint64pow10), ("errors.errorType", laid_errors_errorType)], narrowed := true }
def ShopDeadUptoSaid : Prop := shopDeadUptoRow.holds Tryz.pinned (OpenSpec.upto shopDeadSpec)

/-- 'daisychainlaw09.ShopAcked', WHERE WHAT IT READS IS OF BULK AT MOST 1048576: true; the input reads as it did. -/
def shopAckedUptoRow : OpenClaim := { program := "ytipdleiginnjmaagreatdoor", sum := "1fd9949dbfb17b4019fef30bfee732b29801eae008a2e68ec18d334c8f25135a", func := "daisychain/daisychainlaw09.ShopAcked", spec := "shopAcked", inPlace := ["internal/reflectlite.ValueOf", "(internal/reflectlite.Value).Type", "(internal/reflectlite.Value).IsNil", "internal/reflectlite.TypeOf", "(internal/reflectlite.Value).Elem", "(internal/reflectlite.Value).Set", "internal/bytealg.abigen_runtime_cmpstring"], unfollowed := true, recurses := true, named := ["errors.errorType", "internal/strconv.uint64pow10", "math/bits.deBruijn32tab", "math/bits.deBruijn64tab"], apart := false, laid := [("math/bits.deBruijn32tab", laid_math_bits_deBruijn32tab), ("math/bits.deBruijn64tab", laid_math_bits_deBruijn64tab), ("internal/strconv.uint64pow10", laid_internal_strconv_uint64pow10), ("errors.errorType", laid_errors_errorType)], narrowed := true }
def ShopAckedUptoSaid : Prop := shopAckedUptoRow.holds Tryz.pinned (OpenSpec.upto shopAckedSpec)

/-- 'daisychainlaw09.ShopFull', WHERE WHAT IT READS IS OF BULK AT MOST 1048576: true; the input reads as it did. -/
def shopFullUptoRow : OpenClaim := { program := "ytipdleiginnjmaagreatdoor", sum := "1fd9949dbfb17b4019fef30bfee732b29801eae008a2e68ec18d334c8f25135a", func := "daisychain/daisychainlaw09.ShopFull", spec := "shopFull", inPlace := ["internal/reflectlite.ValueOf", "(internal/reflectlite.Value).Type", "(internal/reflectlite.Value).IsNil", "internal/reflectlite.TypeOf", "(internal/reflectlite.Value).Elem", "(internal/reflectlite.Value).Set", "internal/bytealg.abigen_runtime_cmpstring"], unfollowed := true, recurses := true, named := ["errors.errorType", "internal/strconv.uint64pow10", "math/bits.deBruijn32tab", "math/bits.deBruijn64tab"], apart := false, laid := [("math/bits.deBruijn32tab", laid_math_bits_deBruijn32tab), ("math/bits.deBruijn64tab", laid_math_bits_deBruijn64tab), ("internal/strconv.uint64pow10", laid_internal_strconv_uint64pow10), ("errors.errorType", laid_errors_errorType)], narrowed := true }
def ShopFullUptoSaid : Prop := shopFullUptoRow.holds Tryz.pinned (OpenSpec.upto shopFullSpec)

/-- 'daisychainlaw09.ShopTimes', WHERE WHAT IT READS IS OF BULK AT MOST 1048576: true; the input reads as it did. -/
def shopTimesUptoRow : OpenClaim := { program := "ytipdleiginnjmaagreatdoor", sum := "1fd9949dbfb17b4019fef30bfee732b29801eae008a2e68ec18d334c8f25135a", func := "daisychain/daisychainlaw09.ShopTimes", spec := "shopTimes", inPlace := ["internal/reflectlite.ValueOf", "(internal/reflectlite.Value).Type", "(internal/reflectlite.Value).IsNil", "internal/reflectlite.TypeOf", "(internal/reflectlite.Value).Elem", "(internal/reflectlite.Value).Set", "internal/bytealg.abigen_runtime_cmpstring"], unfollowed := true, recurses := true, named := ["errors.errorType", "internal/strconv.uint64pow10", "math/bits.deBruijn32tab", "math/bits.deBruijn64tab"], apart := false, laid := [("math/bits.deBruijn32tab", laid_math_bits_deBruijn32tab), ("math/bits.deBruijn64tab", laid_math_bits_deBruijn64tab), ("internal/strconv.uint64pow10", laid_internal_strconv_uint64pow10), ("errors.errorType", laid_errors_errorType)], narrowed := true }
def ShopTimesUptoSaid : Prop := shopTimesUptoRow.holds Tryz.pinned (OpenSpec.upto shopTimesSpec)

/-- 'daisychainlaw09.ShopApart', WHERE WHAT IT READS IS OF BULK AT MOST 1048576: true; the input reads as it did. -/
def shopApartUptoRow : OpenClaim := { program := "ytipdleiginnjmaagreatdoor", sum := "1fd9949dbfb17b4019fef30bfee732b29801eae008a2e68ec18d334c8f25135a", func := "daisychain/daisychainlaw09.ShopApart", spec := "shopApart", inPlace := ["internal/reflectlite.ValueOf", "(internal/reflectlite.Value).Type", "(internal/reflectlite.Value).IsNil", "internal/reflectlite.TypeOf", "(internal/reflectlite.Value).Elem", "(internal/reflectlite.Value).Set", "internal/bytealg.abigen_runtime_cmpstring"], unfollowed := true, recurses := true, named := ["errors.errorType", "internal/strconv.uint64pow10", "math/bits.deBruijn32tab", "math/bits.deBruijn64tab"], apart := false, laid := [("math/bits.deBruijn32tab", laid_math_bits_deBruijn32tab), ("math/bits.deBruijn64tab", laid_math_bits_deBruijn64tab), ("internal/strconv.uint64pow10", laid_internal_strconv_uint64pow10), ("errors.errorType", laid_errors_errorType)], narrowed := true }
def ShopApartUptoSaid : Prop := shopApartUptoRow.holds Tryz.pinned (OpenSpec.upto shopApartSpec)

/-- 'daisychainlaw09.ShopDoes', WHERE WHAT IT READS IS OF BULK AT MOST 1048576: true; the input reads as it did. -/
def shopDoesUptoRow : OpenClaim := { program := "ytipdleiginnjmaagreatdoor", sum := "1fd9949dbfb17b4019fef30bfee732b29801eae008a2e68ec18d334c8f25135a", func := "daisychain/daisychainlaw09.ShopDoes", spec := "shopDoes", inPlace := ["internal/reflectlite.ValueOf", "(internal/reflectlite.Value).Type", "(internal/reflectlite.Value).IsNil", "internal/reflectlite.TypeOf", "(internal/reflectlite.Value).Elem", "(internal/reflectlite.Value).Set", "internal/bytealg.abigen_runtime_cmpstring"], unfollowed := true, recurses := true, named := ["errors.errorType", "internal/strconv.uint64pow10", "math/bits.deBruijn32tab", "math/bits.deBruijn64tab"], apart := false, laid := [("math/bits.deBruijn32tab", laid_math_bits_deBruijn32tab), ("math/bits.deBruijn64tab", laid_math_bits_deBruijn64tab), ("internal/strconv.uint64pow10", laid_internal_strconv_uint64pow10), ("errors.errorType", laid_errors_errorType)], narrowed := true }
def ShopDoesUptoSaid : Prop := shopDoesUptoRow.holds Tryz.pinned (OpenSpec.upto shopDoesSpec)

/-- 'daisychainlaw09.ShopTwice', WHERE WHAT IT READS IS OF BULK AT MOST 1048576: true; the input reads as it did. -/
def shopTwiceUptoRow : OpenClaim := { program := "ytipdleiginnjmaagreatdoor", sum := "1fd9949dbfb17b4019fef30bfee732b29801eae008a2e68ec18d334c8f25135a", func := "daisychain/daisychainlaw09.ShopTwice", spec := "shopTwice", inPlace := ["internal/reflectlite.ValueOf", "(internal/reflectlite.Value).Type", "(internal/reflectlite.Value).IsNil", "internal/reflectlite.TypeOf", "(internal/reflectlite.Value).Elem", "(internal/reflectlite.Value).Set", "internal/bytealg.abigen_runtime_cmpstring"], unfollowed := true, recurses := true, named := ["errors.errorType", "internal/strconv.uint64pow10", "math/bits.deBruijn32tab", "math/bits.deBruijn64tab"], apart := false, laid := [("math/bits.deBruijn32tab", laid_math_bits_deBruijn32tab), ("math/bits.deBruijn64tab", laid_math_bits_deBruijn64tab), ("internal/strconv.uint64pow10", laid_internal_strconv_uint64pow10), ("errors.errorType", laid_errors_errorType)], narrowed := true }
def ShopTwiceUptoSaid : Prop := shopTwiceUptoRow.holds Tryz.pinned (OpenSpec.upto shopTwiceSpec)

/-- 'daisychainlaw09.ShopBatches', WHERE WHAT IT READS IS OF BULK AT MOST 1048576: true; the input reads as it did. -/
def shopBatchesUptoRow : OpenClaim := { program := "ytipdleiginnjmaagreatdoor", sum := "1fd9949dbfb17b4019fef30bfee732b29801eae008a2e68ec18d334c8f25135a", func := "daisychain/daisychainlaw09.ShopBatches", spec := "shopBatches", inPlace := ["internal/reflectlite.ValueOf", "(internal/reflectlite.Value).Type", "(internal/reflectlite.Value).IsNil", "internal/reflectlite.TypeOf", "(internal/reflectlite.Value).Elem", "(internal/reflectlite.Value).Set", "internal/bytealg.abigen_runtime_cmpstring", "maps.clone"], unfollowed := true, recurses := true, named := ["errors.errorType", "internal/strconv.uint64pow10", "math/bits.deBruijn32tab", "math/bits.deBruijn64tab"], apart := false, laid := [("math/bits.deBruijn32tab", laid_math_bits_deBruijn32tab), ("math/bits.deBruijn64tab", laid_math_bits_deBruijn64tab), ("internal/strconv.uint64pow10", laid_internal_strconv_uint64pow10), ("errors.errorType", laid_errors_errorType)], narrowed := true }
def ShopBatchesUptoSaid : Prop := shopBatchesUptoRow.holds Tryz.pinned (OpenSpec.upto shopBatchesSpec)

/-- 'daisychainlaw09.ShopCopies', WHERE WHAT IT READS IS OF BULK AT MOST 1048576: true; the input reads as it did. -/
def shopCopiesUptoRow : OpenClaim := { program := "ytipdleiginnjmaagreatdoor", sum := "1fd9949dbfb17b4019fef30bfee732b29801eae008a2e68ec18d334c8f25135a", func := "daisychain/daisychainlaw09.ShopCopies", spec := "shopCopies", inPlace := ["internal/reflectlite.ValueOf", "(internal/reflectlite.Value).Type", "(internal/reflectlite.Value).IsNil", "internal/reflectlite.TypeOf", "(internal/reflectlite.Value).Elem", "(internal/reflectlite.Value).Set", "internal/bytealg.abigen_runtime_cmpstring", "maps.clone"], unfollowed := true, recurses := true, named := ["errors.errorType", "internal/strconv.uint64pow10", "math/bits.deBruijn32tab", "math/bits.deBruijn64tab"], apart := false, laid := [("math/bits.deBruijn32tab", laid_math_bits_deBruijn32tab), ("math/bits.deBruijn64tab", laid_math_bits_deBruijn64tab), ("internal/strconv.uint64pow10", laid_internal_strconv_uint64pow10), ("errors.errorType", laid_errors_errorType)], narrowed := true }
def ShopCopiesUptoSaid : Prop := shopCopiesUptoRow.holds Tryz.pinned (OpenSpec.upto shopCopiesSpec)

/-- 'daisychainlaw10.CmdRuns', WHERE WHAT IT READS IS OF BULK AT MOST 1048576: true; the input reads as it did. -/
def cmdRunsUptoRow : OpenClaim := { program := "ytipdleiginnjmaagreatdoor", sum := "1fd9949dbfb17b4019fef30bfee732b29801eae008a2e68ec18d334c8f25135a", func := "daisychain/daisychainlaw10.CmdRuns", spec := "cmdRuns", inPlace := ["internal/reflectlite.ValueOf", "(internal/reflectlite.Value).Type", "(internal/reflectlite.Value).IsNil", "internal/reflectlite.TypeOf", "(internal/reflectlite.Value).Elem", "(internal/reflectlite.Value).Set", "internal/bytealg.abigen_runtime_cmpstring"], unfollowed := true, recurses := true, named := ["errors.errorType", "internal/strconv.uint64pow10", "math/bits.deBruijn32tab", "math/bits.deBruijn64tab"], apart := false, laid := [("math/bits.deBruijn32tab", laid_math_bits_deBruijn32tab), ("math/bits.deBruijn64tab", laid_math_bits_deBruijn64tab), ("internal/strconv.uint64pow10", laid_internal_strconv_uint64pow10), ("errors.errorType", laid_errors_errorType)], narrowed := true }
def CmdRunsUptoSaid : Prop := cmdRunsUptoRow.holds Tryz.pinned (OpenSpec.upto cmdRunsSpec)

end Rows
end Go.Proofs.YtipdleiginnjmaaGreatDoor
