/-
  DERIVED: THE SHELF's CONTRACTS AT THIS DUMP, IN PLAIN WORDS (tools/lay-plain.mjs out of 'YtjkjfjpajmjglaaGreatShelf.lean', which tools/lay-shelf.mjs wrote): THE SAME DECLARATIONS UNDER THE SAME NAMES: 'import', 'namespace', 'open', 'def', 'theorem' AND NOTHING ELSE: no command of the shelf's: FOR A HAND-IN. Each laying: the table of numbers ('.._ren') and one theorem, a field a fact of the dump's own or the kernel's comparison; each contract: ONE APPLICATION.
-/
import Derived.Shelf.SortM.Plain
import Derived.Shelf.SortM.SortNone
import Derived.Shelf.SlicesG.CompactI
import Derived.Shelf.SlGeneric
import Derived.Shelf.SlicesE.DeleteFunc
import Derived.Ground.SlgfProg
import Derived.Ground.SlgmProg
import Derived.Ground.SlgnProg
import Derived.Test.YtjkjfjpajmjglaaGreatProg
namespace Go.Proofs
open Go.Shelf
def Tryz.laysSlM5_ren : Go.Shelf.Ren := ⟨fun | 5 => 218 | 8 => 236 | 7 => 235 | 19 => 251 | 20 => 252 | 10 => 242 | 11 => 243 | 12 => 244 | 13 => 245 | 14 => 246 | 15 => 247 | 16 => 248 | 17 => 249 | 18 => 250 | 30 => 253 | 31 => 254 | 32 => 255 | 33 => 256 | 34 => 257 | 35 => 237 | 40 => 258 | n => n, fun | 23 => 56 | 25 => 2 | 3 => 3 | 32 => 193 | 22 => 56 | 0 => 0 | 44 => 238 | 46 => 241 | 4 => 4 | 36 => 268 | 35 => 267 | 41 => 231 | 5 => 5 | 9 => 9 | 53 => 275 | 57 => 279 | 63 => 281 | 64 => 282 | n => n, fun | n => n⟩
theorem Tryz.laysSlM5 : Go.Proofs.SlLaysM.n5 Tryz.prog Tryz.laysSlM5_ren := {
  mixed := by kernel_rfl
  f5 := ⟨Tryz.f218.name, by decide, Tryz.func218.trans (congrArg some (by kernel_rfl))⟩
  f7 := ⟨Tryz.f235.name, by decide, Tryz.func235.trans (congrArg some (by kernel_rfl))⟩
  f8 := Tryz.func236.trans (congrArg some (by kernel_rfl))
  f10 := ⟨Tryz.f242.name, by decide, Tryz.func242.trans (congrArg some (by kernel_rfl))⟩
  f11 := ⟨Tryz.f243.name, by decide, Tryz.func243.trans (congrArg some (by kernel_rfl))⟩
  f12 := ⟨Tryz.f244.name, by decide, Tryz.func244.trans (congrArg some (by kernel_rfl))⟩
  f13 := ⟨Tryz.f245.name, by decide, Tryz.func245.trans (congrArg some (by kernel_rfl))⟩
  f14 := ⟨Tryz.f246.name, by decide, Tryz.func246.trans (congrArg some (by kernel_rfl))⟩
  f15 := ⟨Tryz.f247.name, by decide, Tryz.func247.trans (congrArg some (by kernel_rfl))⟩
  f16 := ⟨Tryz.f248.name, by decide, Tryz.func248.trans (congrArg some (by kernel_rfl))⟩
  f17 := ⟨Tryz.f249.name, by decide, Tryz.func249.trans (congrArg some (by kernel_rfl))⟩
  f18 := ⟨Tryz.f250.name, by decide, Tryz.func250.trans (congrArg some (by kernel_rfl))⟩
  f19 := Tryz.func251.trans (congrArg some (by kernel_rfl))
  f20 := Tryz.func252.trans (congrArg some (by kernel_rfl))
  f30 := ⟨Tryz.f253.name, by decide, Tryz.func253.trans (congrArg some (by kernel_rfl))⟩
  f31 := Tryz.func254.trans (congrArg some (by kernel_rfl))
  f32 := Tryz.func255.trans (congrArg some (by kernel_rfl))
  f33 := ⟨Tryz.f256.name, by decide, Tryz.func256.trans (congrArg some (by kernel_rfl))⟩
  f34 := ⟨Tryz.f257.name, by decide, Tryz.func257.trans (congrArg some (by kernel_rfl))⟩
  f35 := ⟨Tryz.f237.name, by decide, Tryz.func237.trans (congrArg some (by kernel_rfl))⟩
  f40 := ⟨Tryz.f258.name, by decide, Tryz.func258.trans (congrArg some (by kernel_rfl))⟩
  t0 := Tryz.underlying0
  a0 := Tryz.isAgg0
  z0 := Tryz.sizeOf0
  v0 := Tryz.zeroValue0
  t3 := Tryz.underlying3
  a3 := Tryz.isAgg3
  z3 := Tryz.sizeOf3
  v3 := Tryz.zeroValue3
  t4 := Tryz.underlying4
  a4 := Tryz.isAgg4
  z4 := Tryz.sizeOf4
  v4 := Tryz.zeroValue4
  t5 := Tryz.underlying5
  a5 := Tryz.isAgg5
  z5 := Tryz.sizeOf5
  v5 := Tryz.zeroValue5
  t9 := Tryz.underlying9
  a9 := Tryz.isAgg9
  z9 := Tryz.sizeOf9
  v9 := Tryz.zeroValue9
  t22 := Tryz.underlying56
  a22 := Tryz.isAgg56
  z22 := Tryz.sizeOf56
  v22 := Tryz.zeroValue56
  t23 := Tryz.underlying56
  a23 := Tryz.isAgg56
  z23 := Tryz.sizeOf56
  v23 := Tryz.zeroValue56
  t25 := Tryz.underlying2
  a25 := Tryz.isAgg2
  z25 := Tryz.sizeOf2
  v25 := Tryz.zeroValue2
  t32 := Tryz.underlying193
  a32 := Tryz.isAgg193
  z32 := Tryz.sizeOf193
  v32 := Tryz.zeroValue193
  t35 := Tryz.underlying267
  a35 := Tryz.isAgg267
  z35 := Tryz.sizeOf267
  v35 := Tryz.zeroValue267
  t36 := Tryz.underlying268
  a36 := Tryz.isAgg268
  z36 := Tryz.sizeOf268
  v36 := Tryz.zeroValue268
  t41 := Tryz.underlying231
  a41 := Tryz.isAgg231
  z41 := Tryz.sizeOf231
  v41 := Tryz.zeroValue231
  t44 := Tryz.underlying238
  a44 := Tryz.isAgg238
  z44 := Tryz.sizeOf238
  v44 := Tryz.zeroValue238
  t46 := Tryz.underlying241
  a46 := Tryz.isAgg241
  z46 := Tryz.sizeOf241
  v46 := Tryz.zeroValue241
  t53 := Tryz.underlying275
  a53 := Tryz.isAgg275
  z53 := Tryz.sizeOf275
  v53 := Tryz.zeroValue275
  t57 := Tryz.underlying279
  a57 := Tryz.isAgg279
  z57 := Tryz.sizeOf279
  v57 := Tryz.zeroValue279
  t63 := Tryz.underlying281
  a63 := Tryz.isAgg281
  z63 := Tryz.sizeOf281
  v63 := Tryz.zeroValue281
  t64 := Tryz.underlying282
  a64 := Tryz.isAgg282
  z64 := Tryz.sizeOf282
  v64 := Tryz.zeroValue282 }
def Tryz.laysSlN43_ren : Go.Shelf.Ren := ⟨fun | 43 => 219 | n => n, fun | 22 => 56 | 23 => 2 | 3 => 3 | 4 => 4 | 0 => 0 | n => n, fun | n => n⟩
theorem Tryz.laysSlN43 : Go.Proofs.SlLaysN.n43 Tryz.prog Tryz.laysSlN43_ren := {
  mixed := by kernel_rfl
  f43 := ⟨Tryz.f219.name, by decide, Tryz.func219.trans (congrArg some (by kernel_rfl))⟩
  t0 := Tryz.underlying0
  a0 := Tryz.isAgg0
  z0 := Tryz.sizeOf0
  v0 := Tryz.zeroValue0
  t3 := Tryz.underlying3
  a3 := Tryz.isAgg3
  z3 := Tryz.sizeOf3
  v3 := Tryz.zeroValue3
  t4 := Tryz.underlying4
  a4 := Tryz.isAgg4
  z4 := Tryz.sizeOf4
  v4 := Tryz.zeroValue4
  t22 := Tryz.underlying56
  a22 := Tryz.isAgg56
  z22 := Tryz.sizeOf56
  v22 := Tryz.zeroValue56
  t23 := Tryz.underlying2
  a23 := Tryz.isAgg2
  z23 := Tryz.sizeOf2
  v23 := Tryz.zeroValue2
  i23 := by kernel_rfl }
def Tryz.laysSlH10_ren : Go.Shelf.Ren := ⟨fun | 10 => 161 | 6 => 221 | n => n, fun | 22 => 56 | 23 => 2 | 25 => 180 | 3 => 3 | 4 => 4 | 0 => 0 | n => n, fun | n => n⟩
theorem Tryz.laysSlH10 : Go.Proofs.SlLaysH.n10 Tryz.prog Tryz.laysSlH10_ren := {
  mixed := by kernel_rfl
  f6 := ⟨Tryz.f221.name, by decide, Tryz.func221.trans (congrArg some (by kernel_rfl))⟩
  f10 := ⟨Tryz.f161.name, by decide, Tryz.func161.trans (congrArg some (by kernel_rfl))⟩
  t0 := Tryz.underlying0
  a0 := Tryz.isAgg0
  z0 := Tryz.sizeOf0
  v0 := Tryz.zeroValue0
  t3 := Tryz.underlying3
  a3 := Tryz.isAgg3
  z3 := Tryz.sizeOf3
  v3 := Tryz.zeroValue3
  t4 := Tryz.underlying4
  a4 := Tryz.isAgg4
  z4 := Tryz.sizeOf4
  v4 := Tryz.zeroValue4
  t22 := Tryz.underlying56
  a22 := Tryz.isAgg56
  z22 := Tryz.sizeOf56
  v22 := Tryz.zeroValue56
  a23 := Tryz.isAgg2
  z23 := Tryz.sizeOf2
  t25 := Tryz.underlying180
  a25 := Tryz.isAgg180
  z25 := Tryz.sizeOf180
  v25 := Tryz.zeroValue180 }
end Go.Proofs
