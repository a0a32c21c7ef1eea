/-
  DERIVED: THE SHELF's CONTRACTS AT THIS DUMP, IN PLAIN WORDS (tools/lay-plain.mjs out of 'YtipdleiginnjmaaGreatDoorShelfKeysP.lean', which tools/lay-shelf.mjs wrote): THE SAME DECLARATIONS UNDER THE SAME NAMES: 'import', 'namespace', 'open', 'def', 'theorem' AND NOTHING ELSE: no command of the shelf's: FOR A HAND-IN. Each laying: the table of numbers ('.._ren') and one theorem, a field a fact of the dump's own or the kernel's comparison; each contract: ONE APPLICATION.
-/
import Derived.Shelf.SlGeneric
import Derived.Ground.GgzProg
import Derived.Shelf.SlIterI.Collect
import Derived.Shelf.SlIterI.Nil
import Derived.Test.YtipdleiginnjmaaGreatDoorProg
namespace Go.Proofs
open Go.Shelf
def Tryz.keysP_ren : Go.Shelf.Ren := ⟨fun | 7 => 132 | 10 => 181 | n => n, fun | 23 => 233 | 26 => 3 | 3 => 235 | 28 => 231 | 0 => 0 | 27 => 230 | 33 => 162 | 4 => 4 | n => n, fun | n => n⟩
theorem Tryz.keysP : Go.Proofs.SlLaysZI.n7 Tryz.prog Tryz.keysP_ren := {
  mixed := by kernel_rfl
  f7 := ⟨Tryz.f132.name, by decide, Tryz.func132.trans (congrArg some (by kernel_rfl))⟩
  f10 := ⟨Tryz.f181.name, by decide, Tryz.func181.trans (congrArg some (by kernel_rfl))⟩
  t0 := Tryz.underlying0
  a0 := Tryz.isAgg0
  z0 := Tryz.sizeOf0
  v0 := Tryz.zeroValue0
  t4 := Tryz.underlying4
  a4 := Tryz.isAgg4
  z4 := Tryz.sizeOf4
  v4 := Tryz.zeroValue4
  t23 := Tryz.underlying233
  a23 := Tryz.isAgg233
  z23 := Tryz.sizeOf233
  v23 := Tryz.zeroValue233
  t26 := Tryz.underlying3
  a26 := Tryz.isAgg3
  z26 := Tryz.sizeOf3
  v26 := Tryz.zeroValue3
  t27 := Tryz.underlying230
  a27 := Tryz.isAgg230
  z27 := Tryz.sizeOf230
  v27 := Tryz.zeroValue230
  t28 := Tryz.underlying231
  a28 := Tryz.isAgg231
  z28 := Tryz.sizeOf231
  v28 := Tryz.zeroValue231
  t33 := Tryz.underlying162
  a33 := Tryz.isAgg162
  z33 := Tryz.sizeOf162
  v33 := Tryz.zeroValue162 }
def Tryz.collectI_ren : Go.Shelf.Ren := ⟨fun | 8 => 131 | 11 => 180 | n => n, fun | 26 => 3 | 28 => 231 | 24 => 33 | 0 => 0 | 33 => 162 | 4 => 4 | n => n, fun | n => n⟩
theorem Tryz.collectI : Go.Proofs.SlLaysZI.n8 Tryz.prog Tryz.collectI_ren := {
  mixed := by kernel_rfl
  f8 := ⟨Tryz.f131.name, by decide, Tryz.func131.trans (congrArg some (by kernel_rfl))⟩
  f11 := ⟨Tryz.f180.name, by decide, Tryz.func180.trans (congrArg some (by kernel_rfl))⟩
  t0 := Tryz.underlying0
  a0 := Tryz.isAgg0
  z0 := Tryz.sizeOf0
  v0 := Tryz.zeroValue0
  t24 := Tryz.underlying33
  a24 := Tryz.isAgg33
  z24 := Tryz.sizeOf33
  v24 := Tryz.zeroValue33
  t26 := Tryz.underlying3
  a26 := Tryz.isAgg3
  z26 := Tryz.sizeOf3
  v26 := Tryz.zeroValue3
  t28 := Tryz.underlying231
  a28 := Tryz.isAgg231
  z28 := Tryz.sizeOf231
  v28 := Tryz.zeroValue231
  i26 := by kernel_rfl }
end Go.Proofs
