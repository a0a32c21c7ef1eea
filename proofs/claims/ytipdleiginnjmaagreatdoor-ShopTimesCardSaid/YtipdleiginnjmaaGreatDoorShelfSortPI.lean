/-
  DERIVED: THE SHELF's CONTRACTS AT THIS DUMP, IN PLAIN WORDS (tools/lay-plain.mjs out of 'YtipdleiginnjmaaGreatDoorShelfSortPI.lean', which tools/lay-shelf.mjs wrote): THE SAME DECLARATIONS UNDER THE SAME NAMES: 'import', 'namespace', 'open', 'def', 'theorem' AND NOTHING ELSE: no command of the shelf's: FOR A HAND-IN. Each laying: the table of numbers ('.._ren') and one theorem, a field a fact of the dump's own or the kernel's comparison; each contract: ONE APPLICATION.
-/
import Derived.Shelf.SlGeneric
import Derived.Ground.SlgnProg
import Derived.Shelf.SortG.Plain
import Derived.Shelf.SortG.SortNone
import Derived.Test.YtipdleiginnjmaaGreatDoorProg
namespace Go.Proofs
open Go.Shelf
def Tryz.sortPI_ren : Go.Shelf.Ren := ⟨fun | 53 => 82 | 64 => 121 | 63 => 133 | 78 => 172 | 79 => 173 | 70 => 182 | 71 => 183 | 72 => 184 | 73 => 185 | 74 => 186 | 75 => 187 | 59 => 188 | 76 => 189 | 77 => 190 | 88 => 212 | 89 => 204 | 90 => 205 | 91 => 213 | 92 => 214 | 68 => 211 | 96 => 234 | n => n, fun | 22 => 33 | 23 => 3 | 3 => 3 | 51 => 172 | 0 => 0 | 67 => 296 | 69 => 298 | 4 => 4 | 61 => 289 | 60 => 288 | 44 => 120 | 5 => 5 | 9 => 9 | 75 => 321 | 79 => 130 | 83 => 335 | 84 => 336 | n => n, fun | n => n⟩
theorem Tryz.sortPI : Go.Proofs.SlLaysN.n53 Tryz.prog Tryz.sortPI_ren := {
  mixed := by kernel_rfl
  f53 := ⟨Tryz.f82.name, by decide, Tryz.func82.trans (congrArg some (by kernel_rfl))⟩
  f59 := ⟨Tryz.f188.name, by decide, Tryz.func188.trans (congrArg some (by kernel_rfl))⟩
  f63 := ⟨Tryz.f133.name, by decide, Tryz.func133.trans (congrArg some (by kernel_rfl))⟩
  f64 := Tryz.func121.trans (congrArg some (by kernel_rfl))
  f68 := ⟨Tryz.f211.name, by decide, Tryz.func211.trans (congrArg some (by kernel_rfl))⟩
  f70 := ⟨Tryz.f182.name, by decide, Tryz.func182.trans (congrArg some (by kernel_rfl))⟩
  f71 := ⟨Tryz.f183.name, by decide, Tryz.func183.trans (congrArg some (by kernel_rfl))⟩
  f72 := ⟨Tryz.f184.name, by decide, Tryz.func184.trans (congrArg some (by kernel_rfl))⟩
  f73 := ⟨Tryz.f185.name, by decide, Tryz.func185.trans (congrArg some (by kernel_rfl))⟩
  f74 := ⟨Tryz.f186.name, by decide, Tryz.func186.trans (congrArg some (by kernel_rfl))⟩
  f75 := ⟨Tryz.f187.name, by decide, Tryz.func187.trans (congrArg some (by kernel_rfl))⟩
  f76 := ⟨Tryz.f189.name, by decide, Tryz.func189.trans (congrArg some (by kernel_rfl))⟩
  f77 := ⟨Tryz.f190.name, by decide, Tryz.func190.trans (congrArg some (by kernel_rfl))⟩
  f78 := Tryz.func172.trans (congrArg some (by kernel_rfl))
  f79 := Tryz.func173.trans (congrArg some (by kernel_rfl))
  f88 := ⟨Tryz.f212.name, by decide, Tryz.func212.trans (congrArg some (by kernel_rfl))⟩
  f89 := Tryz.func204.trans (congrArg some (by kernel_rfl))
  f90 := Tryz.func205.trans (congrArg some (by kernel_rfl))
  f91 := ⟨Tryz.f213.name, by decide, Tryz.func213.trans (congrArg some (by kernel_rfl))⟩
  f92 := ⟨Tryz.f214.name, by decide, Tryz.func214.trans (congrArg some (by kernel_rfl))⟩
  f96 := ⟨Tryz.f234.name, by decide, Tryz.func234.trans (congrArg some (by kernel_rfl))⟩
  t0 := Tryz.underlying0
  a0 := Tryz.isAgg0
  z0 := Tryz.sizeOf0
  v0 := Tryz.zeroValue0
  t3 := Tryz.underlying3
  a3 := Tryz.isAgg3
  z3 := Tryz.sizeOf3
  v3 := Tryz.zeroValue3
  t4 := Tryz.underlying4
  a4 := Tryz.isAgg4
  z4 := Tryz.sizeOf4
  v4 := Tryz.zeroValue4
  t5 := Tryz.underlying5
  a5 := Tryz.isAgg5
  z5 := Tryz.sizeOf5
  v5 := Tryz.zeroValue5
  t9 := Tryz.underlying9
  a9 := Tryz.isAgg9
  z9 := Tryz.sizeOf9
  v9 := Tryz.zeroValue9
  t22 := Tryz.underlying33
  a22 := Tryz.isAgg33
  z22 := Tryz.sizeOf33
  v22 := Tryz.zeroValue33
  t23 := Tryz.underlying3
  a23 := Tryz.isAgg3
  z23 := Tryz.sizeOf3
  v23 := Tryz.zeroValue3
  t44 := Tryz.underlying120
  a44 := Tryz.isAgg120
  z44 := Tryz.sizeOf120
  v44 := Tryz.zeroValue120
  t51 := Tryz.underlying172
  a51 := Tryz.isAgg172
  z51 := Tryz.sizeOf172
  v51 := Tryz.zeroValue172
  t60 := Tryz.underlying288
  a60 := Tryz.isAgg288
  z60 := Tryz.sizeOf288
  v60 := Tryz.zeroValue288
  t61 := Tryz.underlying289
  a61 := Tryz.isAgg289
  z61 := Tryz.sizeOf289
  v61 := Tryz.zeroValue289
  t67 := Tryz.underlying296
  a67 := Tryz.isAgg296
  z67 := Tryz.sizeOf296
  v67 := Tryz.zeroValue296
  t69 := Tryz.underlying298
  a69 := Tryz.isAgg298
  z69 := Tryz.sizeOf298
  v69 := Tryz.zeroValue298
  t75 := Tryz.underlying321
  a75 := Tryz.isAgg321
  z75 := Tryz.sizeOf321
  v75 := Tryz.zeroValue321
  t79 := Tryz.underlying130
  a79 := Tryz.isAgg130
  z79 := Tryz.sizeOf130
  v79 := Tryz.zeroValue130
  t83 := Tryz.underlying335
  a83 := Tryz.isAgg335
  z83 := Tryz.sizeOf335
  v83 := Tryz.zeroValue335
  t84 := Tryz.underlying336
  a84 := Tryz.isAgg336
  z84 := Tryz.sizeOf336
  v84 := Tryz.zeroValue336 }
end Go.Proofs
