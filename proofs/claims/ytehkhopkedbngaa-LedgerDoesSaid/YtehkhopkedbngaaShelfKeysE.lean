/-
  DERIVED: THE SHELF's CONTRACTS AT THIS DUMP, IN PLAIN WORDS (tools/lay-plain.mjs out of 'YtehkhopkedbngaaShelfKeysE.lean', which tools/lay-shelf.mjs wrote): THE SAME DECLARATIONS UNDER THE SAME NAMES: 'import', 'namespace', 'open', 'def', 'theorem' AND NOTHING ELSE: no command of the shelf's: FOR A HAND-IN. Each laying: the table of numbers ('.._ren') and one theorem, a field a fact of the dump's own or the kernel's comparison; each contract: ONE APPLICATION.
-/
import Derived.Shelf.SlGeneric
import Derived.Ground.GgzProg
import Derived.Shelf.SlIter.Nil
import Derived.Shelf.SlIter.Sorted
import Derived.Ground.SlgmProg
import Derived.Shelf.SortM.Plain
import Derived.Shelf.SortM.SortNone
import Derived.Test.YtehkhopkedbngaaProg
namespace Go.Proofs
open Go.Shelf
def Try.keysE_ren : Go.Shelf.Ren := ⟨fun | 7 => 36 | 10 => 44 | n => n, fun | 23 => 58 | 26 => 9 | 3 => 62 | 28 => 77 | 0 => 0 | 27 => 76 | 33 => 36 | 4 => 4 | n => n, fun | n => n⟩
theorem Try.keysE : Go.Proofs.SlLaysZ.n7 Try.prog Try.keysE_ren := {
  mixed := by kernel_rfl
  f7 := ⟨Try.f36.name, by decide, Try.func36.trans (congrArg some (by kernel_rfl))⟩
  f10 := ⟨Try.f44.name, by decide, Try.func44.trans (congrArg some (by kernel_rfl))⟩
  t0 := Try.underlying0
  a0 := Try.isAgg0
  z0 := Try.sizeOf0
  v0 := Try.zeroValue0
  t4 := Try.underlying4
  a4 := Try.isAgg4
  z4 := Try.sizeOf4
  v4 := Try.zeroValue4
  t23 := Try.underlying58
  a23 := Try.isAgg58
  z23 := Try.sizeOf58
  v23 := Try.zeroValue58
  t26 := Try.underlying9
  a26 := Try.isAgg9
  z26 := Try.sizeOf9
  v26 := Try.zeroValue9
  t27 := Try.underlying76
  a27 := Try.isAgg76
  z27 := Try.sizeOf76
  v27 := Try.zeroValue76
  t28 := Try.underlying77
  a28 := Try.isAgg77
  z28 := Try.sizeOf77
  v28 := Try.zeroValue77
  t33 := Try.underlying36
  a33 := Try.isAgg36
  z33 := Try.sizeOf36
  v33 := Try.zeroValue36 }
def Try.sortedS_ren : Go.Shelf.Ren := ⟨fun | 6 => 35 | 8 => 42 | 9 => 43 | 11 => 56 | 13 => 39 | 12 => 57 | 23 => 53 | 24 => 54 | 14 => 63 | 15 => 64 | 16 => 65 | 17 => 66 | 18 => 67 | 19 => 68 | 20 => 69 | 21 => 70 | 22 => 71 | 25 => 73 | 26 => 59 | 27 => 60 | 28 => 74 | 29 => 75 | 30 => 76 | 31 => 77 | n => n, fun | 26 => 9 | 28 => 77 | 24 => 43 | 0 => 0 | 3 => 3 | 37 => 82 | 48 => 94 | 50 => 96 | 4 => 4 | 40 => 88 | 39 => 87 | 45 => 28 | 5 => 5 | 9 => 9 | 51 => 99 | 55 => 103 | 57 => 111 | 58 => 112 | 33 => 36 | n => n, fun | n => n⟩
theorem Try.sortedS : Go.Proofs.SlLaysZ.n6 Try.prog Try.sortedS_ren := {
  mixed := by kernel_rfl
  f6 := ⟨Try.f35.name, by decide, Try.func35.trans (congrArg some (by kernel_rfl))⟩
  f8 := ⟨Try.f42.name, by decide, Try.func42.trans (congrArg some (by kernel_rfl))⟩
  f11 := ⟨Try.f56.name, by decide, Try.func56.trans (congrArg some (by kernel_rfl))⟩
  t0 := Try.underlying0
  a0 := Try.isAgg0
  z0 := Try.sizeOf0
  v0 := Try.zeroValue0
  t24 := Try.underlying43
  a24 := Try.isAgg43
  z24 := Try.sizeOf43
  v24 := Try.zeroValue43
  t26 := Try.underlying9
  a26 := Try.isAgg9
  z26 := Try.sizeOf9
  v26 := Try.zeroValue9
  t28 := Try.underlying77
  a28 := Try.isAgg77
  z28 := Try.sizeOf77
  v28 := Try.zeroValue77
  i26 := by kernel_rfl }
def Try.sortS_ren : Go.Shelf.Ren := ⟨fun | 6 => 43 | 8 => 39 | 9 => 57 | 19 => 53 | 20 => 54 | 21 => 63 | 22 => 64 | 23 => 65 | 24 => 66 | 25 => 67 | 26 => 68 | 27 => 69 | 28 => 70 | 29 => 71 | 36 => 73 | 31 => 59 | 32 => 60 | 37 => 74 | 38 => 75 | 39 => 76 | 41 => 77 | n => n, fun | 27 => 43 | 29 => 9 | 3 => 3 | 32 => 82 | 26 => 43 | 0 => 0 | 44 => 94 | 46 => 96 | 4 => 4 | 36 => 88 | 35 => 87 | 41 => 28 | 5 => 5 | 9 => 9 | 53 => 99 | 57 => 103 | 63 => 111 | 64 => 112 | n => n, fun | n => n⟩
theorem Try.sortS : Go.Proofs.SlLaysM.n6 Try.prog Try.sortS_ren := {
  mixed := by kernel_rfl
  f6 := ⟨Try.f43.name, by decide, Try.func43.trans (congrArg some (by kernel_rfl))⟩
  f8 := Try.func39.trans (congrArg some (by kernel_rfl))
  f9 := ⟨Try.f57.name, by decide, Try.func57.trans (congrArg some (by kernel_rfl))⟩
  f19 := Try.func53.trans (congrArg some (by kernel_rfl))
  f20 := Try.func54.trans (congrArg some (by kernel_rfl))
  f21 := ⟨Try.f63.name, by decide, Try.func63.trans (congrArg some (by kernel_rfl))⟩
  f22 := ⟨Try.f64.name, by decide, Try.func64.trans (congrArg some (by kernel_rfl))⟩
  f23 := ⟨Try.f65.name, by decide, Try.func65.trans (congrArg some (by kernel_rfl))⟩
  f24 := ⟨Try.f66.name, by decide, Try.func66.trans (congrArg some (by kernel_rfl))⟩
  f25 := ⟨Try.f67.name, by decide, Try.func67.trans (congrArg some (by kernel_rfl))⟩
  f26 := ⟨Try.f68.name, by decide, Try.func68.trans (congrArg some (by kernel_rfl))⟩
  f27 := ⟨Try.f69.name, by decide, Try.func69.trans (congrArg some (by kernel_rfl))⟩
  f28 := ⟨Try.f70.name, by decide, Try.func70.trans (congrArg some (by kernel_rfl))⟩
  f29 := ⟨Try.f71.name, by decide, Try.func71.trans (congrArg some (by kernel_rfl))⟩
  f31 := Try.func59.trans (congrArg some (by kernel_rfl))
  f32 := Try.func60.trans (congrArg some (by kernel_rfl))
  f36 := ⟨Try.f73.name, by decide, Try.func73.trans (congrArg some (by kernel_rfl))⟩
  f37 := ⟨Try.f74.name, by decide, Try.func74.trans (congrArg some (by kernel_rfl))⟩
  f38 := ⟨Try.f75.name, by decide, Try.func75.trans (congrArg some (by kernel_rfl))⟩
  f39 := ⟨Try.f76.name, by decide, Try.func76.trans (congrArg some (by kernel_rfl))⟩
  f41 := ⟨Try.f77.name, by decide, Try.func77.trans (congrArg some (by kernel_rfl))⟩
  t0 := Try.underlying0
  a0 := Try.isAgg0
  z0 := Try.sizeOf0
  v0 := Try.zeroValue0
  t3 := Try.underlying3
  a3 := Try.isAgg3
  z3 := Try.sizeOf3
  v3 := Try.zeroValue3
  t4 := Try.underlying4
  a4 := Try.isAgg4
  z4 := Try.sizeOf4
  v4 := Try.zeroValue4
  t5 := Try.underlying5
  a5 := Try.isAgg5
  z5 := Try.sizeOf5
  v5 := Try.zeroValue5
  t9 := Try.underlying9
  a9 := Try.isAgg9
  z9 := Try.sizeOf9
  v9 := Try.zeroValue9
  t26 := Try.underlying43
  a26 := Try.isAgg43
  z26 := Try.sizeOf43
  v26 := Try.zeroValue43
  t27 := Try.underlying43
  a27 := Try.isAgg43
  z27 := Try.sizeOf43
  v27 := Try.zeroValue43
  t29 := Try.underlying9
  a29 := Try.isAgg9
  z29 := Try.sizeOf9
  v29 := Try.zeroValue9
  t32 := Try.underlying82
  a32 := Try.isAgg82
  z32 := Try.sizeOf82
  v32 := Try.zeroValue82
  t35 := Try.underlying87
  a35 := Try.isAgg87
  z35 := Try.sizeOf87
  v35 := Try.zeroValue87
  t36 := Try.underlying88
  a36 := Try.isAgg88
  z36 := Try.sizeOf88
  v36 := Try.zeroValue88
  t41 := Try.underlying28
  a41 := Try.isAgg28
  z41 := Try.sizeOf28
  v41 := Try.zeroValue28
  t44 := Try.underlying94
  a44 := Try.isAgg94
  z44 := Try.sizeOf94
  v44 := Try.zeroValue94
  t46 := Try.underlying96
  a46 := Try.isAgg96
  z46 := Try.sizeOf96
  v46 := Try.zeroValue96
  t53 := Try.underlying99
  a53 := Try.isAgg99
  z53 := Try.sizeOf99
  v53 := Try.zeroValue99
  t57 := Try.underlying103
  a57 := Try.isAgg103
  z57 := Try.sizeOf103
  v57 := Try.zeroValue103
  t63 := Try.underlying111
  a63 := Try.isAgg111
  z63 := Try.sizeOf111
  v63 := Try.zeroValue111
  t64 := Try.underlying112
  a64 := Try.isAgg112
  z64 := Try.sizeOf112
  v64 := Try.zeroValue112 }
end Go.Proofs
