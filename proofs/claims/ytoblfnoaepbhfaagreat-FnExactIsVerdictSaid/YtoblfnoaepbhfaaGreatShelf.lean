/-
  DERIVED: THE SHELF's CONTRACTS AT THIS DUMP, IN PLAIN WORDS (tools/lay-plain.mjs out of 'YtoblfnoaepbhfaaGreatShelf.lean', which tools/lay-shelf.mjs wrote): THE SAME DECLARATIONS UNDER THE SAME NAMES: 'import', 'namespace', 'open', 'def', 'theorem' AND NOTHING ELSE: no command of the shelf's: FOR A HAND-IN. Each laying: the table of numbers ('.._ren') and one theorem, a field a fact of the dump's own or the kernel's comparison; each contract: ONE APPLICATION.
-/
import Derived.Shelf.SortM.Plain
import Derived.Shelf.SortM.SortNone
import Derived.Shelf.SlicesG.CompactI
import Derived.Shelf.SlGeneric
import Derived.Shelf.SlicesE.DeleteFunc
import Derived.Ground.SlgfProg
import Derived.Ground.SlgmProg
import Derived.Ground.SlgnProg
import Derived.Test.YtoblfnoaepbhfaaGreatProg
namespace Go.Proofs
open Go.Shelf
def Tryz.laysSlM5_ren : Go.Shelf.Ren := ⟨fun | 5 => 313 | 8 => 337 | 7 => 336 | 19 => 353 | 20 => 354 | 10 => 344 | 11 => 345 | 12 => 346 | 13 => 347 | 14 => 348 | 15 => 349 | 16 => 350 | 17 => 351 | 18 => 352 | 30 => 356 | 31 => 357 | 32 => 358 | 33 => 359 | 34 => 360 | 35 => 355 | 40 => 361 | n => n, fun | 23 => 28 | 25 => 2 | 3 => 3 | 32 => 322 | 22 => 28 | 0 => 0 | 44 => 339 | 46 => 342 | 4 => 4 | 36 => 351 | 35 => 350 | 41 => 325 | 5 => 5 | 9 => 9 | 53 => 358 | 57 => 362 | 63 => 364 | 64 => 365 | n => n, fun | n => n⟩
theorem Tryz.laysSlM5 : Go.Proofs.SlLaysM.n5 Tryz.prog Tryz.laysSlM5_ren := {
  mixed := by kernel_rfl
  f5 := ⟨Tryz.f313.name, by decide, Tryz.func313.trans (congrArg some (by kernel_rfl))⟩
  f7 := ⟨Tryz.f336.name, by decide, Tryz.func336.trans (congrArg some (by kernel_rfl))⟩
  f8 := Tryz.func337.trans (congrArg some (by kernel_rfl))
  f10 := ⟨Tryz.f344.name, by decide, Tryz.func344.trans (congrArg some (by kernel_rfl))⟩
  f11 := ⟨Tryz.f345.name, by decide, Tryz.func345.trans (congrArg some (by kernel_rfl))⟩
  f12 := ⟨Tryz.f346.name, by decide, Tryz.func346.trans (congrArg some (by kernel_rfl))⟩
  f13 := ⟨Tryz.f347.name, by decide, Tryz.func347.trans (congrArg some (by kernel_rfl))⟩
  f14 := ⟨Tryz.f348.name, by decide, Tryz.func348.trans (congrArg some (by kernel_rfl))⟩
  f15 := ⟨Tryz.f349.name, by decide, Tryz.func349.trans (congrArg some (by kernel_rfl))⟩
  f16 := ⟨Tryz.f350.name, by decide, Tryz.func350.trans (congrArg some (by kernel_rfl))⟩
  f17 := ⟨Tryz.f351.name, by decide, Tryz.func351.trans (congrArg some (by kernel_rfl))⟩
  f18 := ⟨Tryz.f352.name, by decide, Tryz.func352.trans (congrArg some (by kernel_rfl))⟩
  f19 := Tryz.func353.trans (congrArg some (by kernel_rfl))
  f20 := Tryz.func354.trans (congrArg some (by kernel_rfl))
  f30 := ⟨Tryz.f356.name, by decide, Tryz.func356.trans (congrArg some (by kernel_rfl))⟩
  f31 := Tryz.func357.trans (congrArg some (by kernel_rfl))
  f32 := Tryz.func358.trans (congrArg some (by kernel_rfl))
  f33 := ⟨Tryz.f359.name, by decide, Tryz.func359.trans (congrArg some (by kernel_rfl))⟩
  f34 := ⟨Tryz.f360.name, by decide, Tryz.func360.trans (congrArg some (by kernel_rfl))⟩
  f35 := ⟨Tryz.f355.name, by decide, Tryz.func355.trans (congrArg some (by kernel_rfl))⟩
  f40 := ⟨Tryz.f361.name, by decide, Tryz.func361.trans (congrArg some (by kernel_rfl))⟩
  t0 := Tryz.underlying0
  a0 := Tryz.isAgg0
  z0 := Tryz.sizeOf0
  v0 := Tryz.zeroValue0
  t3 := Tryz.underlying3
  a3 := Tryz.isAgg3
  z3 := Tryz.sizeOf3
  v3 := Tryz.zeroValue3
  t4 := Tryz.underlying4
  a4 := Tryz.isAgg4
  z4 := Tryz.sizeOf4
  v4 := Tryz.zeroValue4
  t5 := Tryz.underlying5
  a5 := Tryz.isAgg5
  z5 := Tryz.sizeOf5
  v5 := Tryz.zeroValue5
  t9 := Tryz.underlying9
  a9 := Tryz.isAgg9
  z9 := Tryz.sizeOf9
  v9 := Tryz.zeroValue9
  t22 := Tryz.underlying28
  a22 := Tryz.isAgg28
  z22 := Tryz.sizeOf28
  v22 := Tryz.zeroValue28
  t23 := Tryz.underlying28
  a23 := Tryz.isAgg28
  z23 := Tryz.sizeOf28
  v23 := Tryz.zeroValue28
  t25 := Tryz.underlying2
  a25 := Tryz.isAgg2
  z25 := Tryz.sizeOf2
  v25 := Tryz.zeroValue2
  t32 := Tryz.underlying322
  a32 := Tryz.isAgg322
  z32 := Tryz.sizeOf322
  v32 := Tryz.zeroValue322
  t35 := Tryz.underlying350
  a35 := Tryz.isAgg350
  z35 := Tryz.sizeOf350
  v35 := Tryz.zeroValue350
  t36 := Tryz.underlying351
  a36 := Tryz.isAgg351
  z36 := Tryz.sizeOf351
  v36 := Tryz.zeroValue351
  t41 := Tryz.underlying325
  a41 := Tryz.isAgg325
  z41 := Tryz.sizeOf325
  v41 := Tryz.zeroValue325
  t44 := Tryz.underlying339
  a44 := Tryz.isAgg339
  z44 := Tryz.sizeOf339
  v44 := Tryz.zeroValue339
  t46 := Tryz.underlying342
  a46 := Tryz.isAgg342
  z46 := Tryz.sizeOf342
  v46 := Tryz.zeroValue342
  t53 := Tryz.underlying358
  a53 := Tryz.isAgg358
  z53 := Tryz.sizeOf358
  v53 := Tryz.zeroValue358
  t57 := Tryz.underlying362
  a57 := Tryz.isAgg362
  z57 := Tryz.sizeOf362
  v57 := Tryz.zeroValue362
  t63 := Tryz.underlying364
  a63 := Tryz.isAgg364
  z63 := Tryz.sizeOf364
  v63 := Tryz.zeroValue364
  t64 := Tryz.underlying365
  a64 := Tryz.isAgg365
  z64 := Tryz.sizeOf365
  v64 := Tryz.zeroValue365 }
def Tryz.laysSlN43_ren : Go.Shelf.Ren := ⟨fun | 43 => 314 | n => n, fun | 22 => 28 | 23 => 2 | 3 => 3 | 4 => 4 | 0 => 0 | n => n, fun | n => n⟩
theorem Tryz.laysSlN43 : Go.Proofs.SlLaysN.n43 Tryz.prog Tryz.laysSlN43_ren := {
  mixed := by kernel_rfl
  f43 := ⟨Tryz.f314.name, by decide, Tryz.func314.trans (congrArg some (by kernel_rfl))⟩
  t0 := Tryz.underlying0
  a0 := Tryz.isAgg0
  z0 := Tryz.sizeOf0
  v0 := Tryz.zeroValue0
  t3 := Tryz.underlying3
  a3 := Tryz.isAgg3
  z3 := Tryz.sizeOf3
  v3 := Tryz.zeroValue3
  t4 := Tryz.underlying4
  a4 := Tryz.isAgg4
  z4 := Tryz.sizeOf4
  v4 := Tryz.zeroValue4
  t22 := Tryz.underlying28
  a22 := Tryz.isAgg28
  z22 := Tryz.sizeOf28
  v22 := Tryz.zeroValue28
  t23 := Tryz.underlying2
  a23 := Tryz.isAgg2
  z23 := Tryz.sizeOf2
  v23 := Tryz.zeroValue2
  i23 := by kernel_rfl }
def Tryz.laysSlH10_ren : Go.Shelf.Ren := ⟨fun | 10 => 247 | 6 => 127 | n => n, fun | 22 => 28 | 23 => 2 | 25 => 187 | 3 => 3 | 4 => 4 | 0 => 0 | n => n, fun | n => n⟩
theorem Tryz.laysSlH10 : Go.Proofs.SlLaysH.n10 Tryz.prog Tryz.laysSlH10_ren := {
  mixed := by kernel_rfl
  f6 := ⟨Tryz.f127.name, by decide, Tryz.func127.trans (congrArg some (by kernel_rfl))⟩
  f10 := ⟨Tryz.f247.name, by decide, Tryz.func247.trans (congrArg some (by kernel_rfl))⟩
  t0 := Tryz.underlying0
  a0 := Tryz.isAgg0
  z0 := Tryz.sizeOf0
  v0 := Tryz.zeroValue0
  t3 := Tryz.underlying3
  a3 := Tryz.isAgg3
  z3 := Tryz.sizeOf3
  v3 := Tryz.zeroValue3
  t4 := Tryz.underlying4
  a4 := Tryz.isAgg4
  z4 := Tryz.sizeOf4
  v4 := Tryz.zeroValue4
  t22 := Tryz.underlying28
  a22 := Tryz.isAgg28
  z22 := Tryz.sizeOf28
  v22 := Tryz.zeroValue28
  a23 := Tryz.isAgg2
  z23 := Tryz.sizeOf2
  t25 := Tryz.underlying187
  a25 := Tryz.isAgg187
  z25 := Tryz.sizeOf187
  v25 := Tryz.zeroValue187 }
end Go.Proofs
