/-
  DERIVED: THE SHELF's CONTRACTS AT THIS DUMP, IN PLAIN WORDS (tools/lay-plain.mjs out of 'YtipdleiginnjmaaGreatDoorShelfSortIt.lean', which tools/lay-shelf.mjs wrote): THE SAME DECLARATIONS UNDER THE SAME NAMES: 'import', 'namespace', 'open', 'def', 'theorem' AND NOTHING ELSE: no command of the shelf's: FOR A HAND-IN. Each laying: the table of numbers ('.._ren') and one theorem, a field a fact of the dump's own or the kernel's comparison; each contract: ONE APPLICATION.
-/
import Derived.Shelf.SlGeneric
import Derived.Ground.SlsfProg
import Derived.Shelf.SlSortCmp.WholeK
import Derived.Shelf.SlSortCmp.NoneTotal
import Derived.Test.YtipdleiginnjmaaGreatDoorProg
namespace Go.Proofs
open Go.Shelf
def Tryz.sortIt_ren : Go.Shelf.Ren := ⟨fun | 6 => 223 | 15 => 121 | 14 => 245 | 28 => 172 | 29 => 173 | 20 => 253 | 21 => 254 | 22 => 255 | 23 => 256 | 24 => 257 | 25 => 258 | 26 => 259 | 27 => 260 | 46 => 267 | 47 => 204 | 48 => 205 | 49 => 268 | 50 => 269 | 57 => 274 | n => n, fun | 22 => 240 | 24 => 245 | 25 => 334 | 3 => 3 | 39 => 172 | 0 => 0 | 53 => 296 | 55 => 298 | 4 => 4 | 46 => 289 | 45 => 288 | 50 => 120 | 5 => 5 | 9 => 9 | 66 => 321 | 70 => 130 | 76 => 335 | 77 => 336 | n => n, fun | n => n⟩
theorem Tryz.sortIt : Go.Proofs.SlLaysF0.n6 Tryz.prog Tryz.sortIt_ren := {
  mixed := by kernel_rfl
  f6 := ⟨Tryz.f223.name, by decide, Tryz.func223.trans (congrArg some (by kernel_rfl))⟩
  f14 := ⟨Tryz.f245.name, by decide, Tryz.func245.trans (congrArg some (by kernel_rfl))⟩
  f15 := Tryz.func121.trans (congrArg some (by kernel_rfl))
  f20 := ⟨Tryz.f253.name, by decide, Tryz.func253.trans (congrArg some (by kernel_rfl))⟩
  f21 := ⟨Tryz.f254.name, by decide, Tryz.func254.trans (congrArg some (by kernel_rfl))⟩
  f22 := ⟨Tryz.f255.name, by decide, Tryz.func255.trans (congrArg some (by kernel_rfl))⟩
  f23 := ⟨Tryz.f256.name, by decide, Tryz.func256.trans (congrArg some (by kernel_rfl))⟩
  f24 := ⟨Tryz.f257.name, by decide, Tryz.func257.trans (congrArg some (by kernel_rfl))⟩
  f25 := ⟨Tryz.f258.name, by decide, Tryz.func258.trans (congrArg some (by kernel_rfl))⟩
  f26 := ⟨Tryz.f259.name, by decide, Tryz.func259.trans (congrArg some (by kernel_rfl))⟩
  f27 := ⟨Tryz.f260.name, by decide, Tryz.func260.trans (congrArg some (by kernel_rfl))⟩
  f28 := Tryz.func172.trans (congrArg some (by kernel_rfl))
  f29 := Tryz.func173.trans (congrArg some (by kernel_rfl))
  f46 := ⟨Tryz.f267.name, by decide, Tryz.func267.trans (congrArg some (by kernel_rfl))⟩
  f47 := Tryz.func204.trans (congrArg some (by kernel_rfl))
  f48 := Tryz.func205.trans (congrArg some (by kernel_rfl))
  f49 := ⟨Tryz.f268.name, by decide, Tryz.func268.trans (congrArg some (by kernel_rfl))⟩
  f50 := ⟨Tryz.f269.name, by decide, Tryz.func269.trans (congrArg some (by kernel_rfl))⟩
  f57 := ⟨Tryz.f274.name, by decide, Tryz.func274.trans (congrArg some (by kernel_rfl))⟩
  t0 := Tryz.underlying0
  a0 := Tryz.isAgg0
  z0 := Tryz.sizeOf0
  v0 := Tryz.zeroValue0
  t3 := Tryz.underlying3
  a3 := Tryz.isAgg3
  z3 := Tryz.sizeOf3
  v3 := Tryz.zeroValue3
  t4 := Tryz.underlying4
  a4 := Tryz.isAgg4
  z4 := Tryz.sizeOf4
  v4 := Tryz.zeroValue4
  t5 := Tryz.underlying5
  a5 := Tryz.isAgg5
  z5 := Tryz.sizeOf5
  v5 := Tryz.zeroValue5
  t9 := Tryz.underlying9
  a9 := Tryz.isAgg9
  z9 := Tryz.sizeOf9
  v9 := Tryz.zeroValue9
  t22 := Tryz.underlying240
  a22 := Tryz.isAgg240
  z22 := Tryz.sizeOf240
  v22 := Tryz.zeroValue240
  t25 := Tryz.underlying334
  a25 := Tryz.isAgg334
  z25 := Tryz.sizeOf334
  v25 := Tryz.zeroValue334
  t39 := Tryz.underlying172
  a39 := Tryz.isAgg172
  z39 := Tryz.sizeOf172
  v39 := Tryz.zeroValue172
  t45 := Tryz.underlying288
  a45 := Tryz.isAgg288
  z45 := Tryz.sizeOf288
  v45 := Tryz.zeroValue288
  t46 := Tryz.underlying289
  a46 := Tryz.isAgg289
  z46 := Tryz.sizeOf289
  v46 := Tryz.zeroValue289
  t50 := Tryz.underlying120
  a50 := Tryz.isAgg120
  z50 := Tryz.sizeOf120
  v50 := Tryz.zeroValue120
  t53 := Tryz.underlying296
  a53 := Tryz.isAgg296
  z53 := Tryz.sizeOf296
  v53 := Tryz.zeroValue296
  t55 := Tryz.underlying298
  a55 := Tryz.isAgg298
  z55 := Tryz.sizeOf298
  v55 := Tryz.zeroValue298
  t66 := Tryz.underlying321
  a66 := Tryz.isAgg321
  z66 := Tryz.sizeOf321
  v66 := Tryz.zeroValue321
  t70 := Tryz.underlying130
  a70 := Tryz.isAgg130
  z70 := Tryz.sizeOf130
  v70 := Tryz.zeroValue130
  t76 := Tryz.underlying335
  a76 := Tryz.isAgg335
  z76 := Tryz.sizeOf335
  v76 := Tryz.zeroValue335
  t77 := Tryz.underlying336
  a77 := Tryz.isAgg336
  z77 := Tryz.sizeOf336
  v77 := Tryz.zeroValue336 }
end Go.Proofs
