/-
  DERIVED: THE SHELF's CONTRACTS AT THIS DUMP, IN PLAIN WORDS (tools/lay-plain.mjs out of 'YtoclcmnphdgfpaaGreatDoorShelfSortPI.lean', which tools/lay-shelf.mjs wrote): THE SAME DECLARATIONS UNDER THE SAME NAMES: 'import', 'namespace', 'open', 'def', 'theorem' AND NOTHING ELSE: no command of the shelf's: FOR A HAND-IN. Each laying: the table of numbers ('.._ren') and one theorem, a field a fact of the dump's own or the kernel's comparison; each contract: ONE APPLICATION.
-/
import Derived.Shelf.SlGeneric
import Derived.Ground.SlgnProg
import Derived.Shelf.SortG.Plain
import Derived.Shelf.SortG.SortNone
import Derived.Test.YtoclcmnphdgfpaaGreatDoorProg
namespace Go.Proofs
open Go.Shelf
def Tryz.sortPI_ren : Go.Shelf.Ren := ⟨fun | 53 => 58 | 64 => 85 | 63 => 84 | 78 => 114 | 79 => 115 | 70 => 105 | 71 => 106 | 72 => 107 | 73 => 108 | 74 => 109 | 75 => 110 | 59 => 111 | 76 => 112 | 77 => 113 | 88 => 129 | 89 => 130 | 90 => 131 | 91 => 132 | 92 => 133 | 68 => 94 | 96 => 157 | n => n, fun | 22 => 31 | 23 => 3 | 3 => 3 | 51 => 156 | 0 => 0 | 67 => 177 | 69 => 179 | 4 => 4 | 61 => 171 | 60 => 170 | 44 => 44 | 5 => 5 | 9 => 9 | 75 => 189 | 79 => 193 | 83 => 212 | 84 => 213 | n => n, fun | n => n⟩
theorem Tryz.sortPI : Go.Proofs.SlLaysN.n53 Tryz.prog Tryz.sortPI_ren := {
  mixed := by kernel_rfl
  f53 := ⟨Tryz.f58.name, by decide, Tryz.func58.trans (congrArg some (by kernel_rfl))⟩
  f59 := ⟨Tryz.f111.name, by decide, Tryz.func111.trans (congrArg some (by kernel_rfl))⟩
  f63 := ⟨Tryz.f84.name, by decide, Tryz.func84.trans (congrArg some (by kernel_rfl))⟩
  f64 := Tryz.func85.trans (congrArg some (by kernel_rfl))
  f68 := ⟨Tryz.f94.name, by decide, Tryz.func94.trans (congrArg some (by kernel_rfl))⟩
  f70 := ⟨Tryz.f105.name, by decide, Tryz.func105.trans (congrArg some (by kernel_rfl))⟩
  f71 := ⟨Tryz.f106.name, by decide, Tryz.func106.trans (congrArg some (by kernel_rfl))⟩
  f72 := ⟨Tryz.f107.name, by decide, Tryz.func107.trans (congrArg some (by kernel_rfl))⟩
  f73 := ⟨Tryz.f108.name, by decide, Tryz.func108.trans (congrArg some (by kernel_rfl))⟩
  f74 := ⟨Tryz.f109.name, by decide, Tryz.func109.trans (congrArg some (by kernel_rfl))⟩
  f75 := ⟨Tryz.f110.name, by decide, Tryz.func110.trans (congrArg some (by kernel_rfl))⟩
  f76 := ⟨Tryz.f112.name, by decide, Tryz.func112.trans (congrArg some (by kernel_rfl))⟩
  f77 := ⟨Tryz.f113.name, by decide, Tryz.func113.trans (congrArg some (by kernel_rfl))⟩
  f78 := Tryz.func114.trans (congrArg some (by kernel_rfl))
  f79 := Tryz.func115.trans (congrArg some (by kernel_rfl))
  f88 := ⟨Tryz.f129.name, by decide, Tryz.func129.trans (congrArg some (by kernel_rfl))⟩
  f89 := Tryz.func130.trans (congrArg some (by kernel_rfl))
  f90 := Tryz.func131.trans (congrArg some (by kernel_rfl))
  f91 := ⟨Tryz.f132.name, by decide, Tryz.func132.trans (congrArg some (by kernel_rfl))⟩
  f92 := ⟨Tryz.f133.name, by decide, Tryz.func133.trans (congrArg some (by kernel_rfl))⟩
  f96 := ⟨Tryz.f157.name, by decide, Tryz.func157.trans (congrArg some (by kernel_rfl))⟩
  t0 := Tryz.underlying0
  a0 := Tryz.isAgg0
  z0 := Tryz.sizeOf0
  v0 := Tryz.zeroValue0
  t3 := Tryz.underlying3
  a3 := Tryz.isAgg3
  z3 := Tryz.sizeOf3
  v3 := Tryz.zeroValue3
  t4 := Tryz.underlying4
  a4 := Tryz.isAgg4
  z4 := Tryz.sizeOf4
  v4 := Tryz.zeroValue4
  t5 := Tryz.underlying5
  a5 := Tryz.isAgg5
  z5 := Tryz.sizeOf5
  v5 := Tryz.zeroValue5
  t9 := Tryz.underlying9
  a9 := Tryz.isAgg9
  z9 := Tryz.sizeOf9
  v9 := Tryz.zeroValue9
  t22 := Tryz.underlying31
  a22 := Tryz.isAgg31
  z22 := Tryz.sizeOf31
  v22 := Tryz.zeroValue31
  t23 := Tryz.underlying3
  a23 := Tryz.isAgg3
  z23 := Tryz.sizeOf3
  v23 := Tryz.zeroValue3
  t44 := Tryz.underlying44
  a44 := Tryz.isAgg44
  z44 := Tryz.sizeOf44
  v44 := Tryz.zeroValue44
  t51 := Tryz.underlying156
  a51 := Tryz.isAgg156
  z51 := Tryz.sizeOf156
  v51 := Tryz.zeroValue156
  t60 := Tryz.underlying170
  a60 := Tryz.isAgg170
  z60 := Tryz.sizeOf170
  v60 := Tryz.zeroValue170
  t61 := Tryz.underlying171
  a61 := Tryz.isAgg171
  z61 := Tryz.sizeOf171
  v61 := Tryz.zeroValue171
  t67 := Tryz.underlying177
  a67 := Tryz.isAgg177
  z67 := Tryz.sizeOf177
  v67 := Tryz.zeroValue177
  t69 := Tryz.underlying179
  a69 := Tryz.isAgg179
  z69 := Tryz.sizeOf179
  v69 := Tryz.zeroValue179
  t75 := Tryz.underlying189
  a75 := Tryz.isAgg189
  z75 := Tryz.sizeOf189
  v75 := Tryz.zeroValue189
  t79 := Tryz.underlying193
  a79 := Tryz.isAgg193
  z79 := Tryz.sizeOf193
  v79 := Tryz.zeroValue193
  t83 := Tryz.underlying212
  a83 := Tryz.isAgg212
  z83 := Tryz.sizeOf212
  v83 := Tryz.zeroValue212
  t84 := Tryz.underlying213
  a84 := Tryz.isAgg213
  z84 := Tryz.sizeOf213
  v84 := Tryz.zeroValue213 }
end Go.Proofs
