/-
  DERIVED: THE SHELF's CONTRACTS AT THIS DUMP, IN PLAIN WORDS (tools/lay-plain.mjs out of 'YtamkfnkikiekaaaGreatShelf.lean', which tools/lay-shelf.mjs wrote): THE SAME DECLARATIONS UNDER THE SAME NAMES: 'import', 'namespace', 'open', 'def', 'theorem' AND NOTHING ELSE: no command of the shelf's: FOR A HAND-IN. Each laying: the table of numbers ('.._ren') and one theorem, a field a fact of the dump's own or the kernel's comparison; each contract: ONE APPLICATION.
-/
import Derived.Shelf.SortM.Plain
import Derived.Shelf.SortM.SortNone
import Derived.Shelf.SlicesG.CompactI
import Derived.Shelf.SlGeneric
import Derived.Shelf.SlicesE.DeleteFunc
import Derived.Ground.SlgfProg
import Derived.Ground.SlgmProg
import Derived.Ground.SlgnProg
import Derived.Test.YtamkfnkikiekaaaGreatProg
namespace Go.Proofs
open Go.Shelf
def Tryz.laysSlM5_ren : Go.Shelf.Ren := ⟨fun | 5 => 60 | 8 => 87 | 7 => 86 | 19 => 108 | 20 => 109 | 10 => 99 | 11 => 100 | 12 => 101 | 13 => 102 | 14 => 103 | 15 => 104 | 16 => 105 | 17 => 106 | 18 => 107 | 30 => 114 | 31 => 115 | 32 => 116 | 33 => 117 | 34 => 118 | 35 => 119 | 40 => 122 | n => n, fun | 23 => 47 | 25 => 2 | 3 => 3 | 32 => 117 | 22 => 47 | 0 => 0 | 44 => 135 | 46 => 79 | 4 => 4 | 36 => 128 | 35 => 127 | 41 => 132 | 5 => 5 | 9 => 9 | 53 => 140 | 57 => 144 | 63 => 148 | 64 => 149 | n => n, fun | n => n⟩
theorem Tryz.laysSlM5 : Go.Proofs.SlLaysM.n5 Tryz.prog Tryz.laysSlM5_ren := {
  mixed := by kernel_rfl
  f5 := ⟨Tryz.f60.name, by decide, Tryz.func60.trans (congrArg some (by kernel_rfl))⟩
  f7 := ⟨Tryz.f86.name, by decide, Tryz.func86.trans (congrArg some (by kernel_rfl))⟩
  f8 := Tryz.func87.trans (congrArg some (by kernel_rfl))
  f10 := ⟨Tryz.f99.name, by decide, Tryz.func99.trans (congrArg some (by kernel_rfl))⟩
  f11 := ⟨Tryz.f100.name, by decide, Tryz.func100.trans (congrArg some (by kernel_rfl))⟩
  f12 := ⟨Tryz.f101.name, by decide, Tryz.func101.trans (congrArg some (by kernel_rfl))⟩
  f13 := ⟨Tryz.f102.name, by decide, Tryz.func102.trans (congrArg some (by kernel_rfl))⟩
  f14 := ⟨Tryz.f103.name, by decide, Tryz.func103.trans (congrArg some (by kernel_rfl))⟩
  f15 := ⟨Tryz.f104.name, by decide, Tryz.func104.trans (congrArg some (by kernel_rfl))⟩
  f16 := ⟨Tryz.f105.name, by decide, Tryz.func105.trans (congrArg some (by kernel_rfl))⟩
  f17 := ⟨Tryz.f106.name, by decide, Tryz.func106.trans (congrArg some (by kernel_rfl))⟩
  f18 := ⟨Tryz.f107.name, by decide, Tryz.func107.trans (congrArg some (by kernel_rfl))⟩
  f19 := Tryz.func108.trans (congrArg some (by kernel_rfl))
  f20 := Tryz.func109.trans (congrArg some (by kernel_rfl))
  f30 := ⟨Tryz.f114.name, by decide, Tryz.func114.trans (congrArg some (by kernel_rfl))⟩
  f31 := Tryz.func115.trans (congrArg some (by kernel_rfl))
  f32 := Tryz.func116.trans (congrArg some (by kernel_rfl))
  f33 := ⟨Tryz.f117.name, by decide, Tryz.func117.trans (congrArg some (by kernel_rfl))⟩
  f34 := ⟨Tryz.f118.name, by decide, Tryz.func118.trans (congrArg some (by kernel_rfl))⟩
  f35 := ⟨Tryz.f119.name, by decide, Tryz.func119.trans (congrArg some (by kernel_rfl))⟩
  f40 := ⟨Tryz.f122.name, by decide, Tryz.func122.trans (congrArg some (by kernel_rfl))⟩
  t0 := Tryz.underlying0
  a0 := Tryz.isAgg0
  z0 := Tryz.sizeOf0
  v0 := Tryz.zeroValue0
  t3 := Tryz.underlying3
  a3 := Tryz.isAgg3
  z3 := Tryz.sizeOf3
  v3 := Tryz.zeroValue3
  t4 := Tryz.underlying4
  a4 := Tryz.isAgg4
  z4 := Tryz.sizeOf4
  v4 := Tryz.zeroValue4
  t5 := Tryz.underlying5
  a5 := Tryz.isAgg5
  z5 := Tryz.sizeOf5
  v5 := Tryz.zeroValue5
  t9 := Tryz.underlying9
  a9 := Tryz.isAgg9
  z9 := Tryz.sizeOf9
  v9 := Tryz.zeroValue9
  t22 := Tryz.underlying47
  a22 := Tryz.isAgg47
  z22 := Tryz.sizeOf47
  v22 := Tryz.zeroValue47
  t23 := Tryz.underlying47
  a23 := Tryz.isAgg47
  z23 := Tryz.sizeOf47
  v23 := Tryz.zeroValue47
  t25 := Tryz.underlying2
  a25 := Tryz.isAgg2
  z25 := Tryz.sizeOf2
  v25 := Tryz.zeroValue2
  t32 := Tryz.underlying117
  a32 := Tryz.isAgg117
  z32 := Tryz.sizeOf117
  v32 := Tryz.zeroValue117
  t35 := Tryz.underlying127
  a35 := Tryz.isAgg127
  z35 := Tryz.sizeOf127
  v35 := Tryz.zeroValue127
  t36 := Tryz.underlying128
  a36 := Tryz.isAgg128
  z36 := Tryz.sizeOf128
  v36 := Tryz.zeroValue128
  t41 := Tryz.underlying132
  a41 := Tryz.isAgg132
  z41 := Tryz.sizeOf132
  v41 := Tryz.zeroValue132
  t44 := Tryz.underlying135
  a44 := Tryz.isAgg135
  z44 := Tryz.sizeOf135
  v44 := Tryz.zeroValue135
  t46 := Tryz.underlying79
  a46 := Tryz.isAgg79
  z46 := Tryz.sizeOf79
  v46 := Tryz.zeroValue79
  t53 := Tryz.underlying140
  a53 := Tryz.isAgg140
  z53 := Tryz.sizeOf140
  v53 := Tryz.zeroValue140
  t57 := Tryz.underlying144
  a57 := Tryz.isAgg144
  z57 := Tryz.sizeOf144
  v57 := Tryz.zeroValue144
  t63 := Tryz.underlying148
  a63 := Tryz.isAgg148
  z63 := Tryz.sizeOf148
  v63 := Tryz.zeroValue148
  t64 := Tryz.underlying149
  a64 := Tryz.isAgg149
  z64 := Tryz.sizeOf149
  v64 := Tryz.zeroValue149 }
def Tryz.laysSlN43_ren : Go.Shelf.Ren := ⟨fun | 43 => 61 | n => n, fun | 22 => 47 | 23 => 2 | 3 => 3 | 4 => 4 | 0 => 0 | n => n, fun | n => n⟩
theorem Tryz.laysSlN43 : Go.Proofs.SlLaysN.n43 Tryz.prog Tryz.laysSlN43_ren := {
  mixed := by kernel_rfl
  f43 := ⟨Tryz.f61.name, by decide, Tryz.func61.trans (congrArg some (by kernel_rfl))⟩
  t0 := Tryz.underlying0
  a0 := Tryz.isAgg0
  z0 := Tryz.sizeOf0
  v0 := Tryz.zeroValue0
  t3 := Tryz.underlying3
  a3 := Tryz.isAgg3
  z3 := Tryz.sizeOf3
  v3 := Tryz.zeroValue3
  t4 := Tryz.underlying4
  a4 := Tryz.isAgg4
  z4 := Tryz.sizeOf4
  v4 := Tryz.zeroValue4
  t22 := Tryz.underlying47
  a22 := Tryz.isAgg47
  z22 := Tryz.sizeOf47
  v22 := Tryz.zeroValue47
  t23 := Tryz.underlying2
  a23 := Tryz.isAgg2
  z23 := Tryz.sizeOf2
  v23 := Tryz.zeroValue2
  i23 := by kernel_rfl }
def Tryz.laysSlH10_ren : Go.Shelf.Ren := ⟨fun | 10 => 63 | 6 => 85 | n => n, fun | 22 => 47 | 23 => 2 | 25 => 77 | 3 => 3 | 4 => 4 | 0 => 0 | n => n, fun | n => n⟩
theorem Tryz.laysSlH10 : Go.Proofs.SlLaysH.n10 Tryz.prog Tryz.laysSlH10_ren := {
  mixed := by kernel_rfl
  f6 := ⟨Tryz.f85.name, by decide, Tryz.func85.trans (congrArg some (by kernel_rfl))⟩
  f10 := ⟨Tryz.f63.name, by decide, Tryz.func63.trans (congrArg some (by kernel_rfl))⟩
  t0 := Tryz.underlying0
  a0 := Tryz.isAgg0
  z0 := Tryz.sizeOf0
  v0 := Tryz.zeroValue0
  t3 := Tryz.underlying3
  a3 := Tryz.isAgg3
  z3 := Tryz.sizeOf3
  v3 := Tryz.zeroValue3
  t4 := Tryz.underlying4
  a4 := Tryz.isAgg4
  z4 := Tryz.sizeOf4
  v4 := Tryz.zeroValue4
  t22 := Tryz.underlying47
  a22 := Tryz.isAgg47
  z22 := Tryz.sizeOf47
  v22 := Tryz.zeroValue47
  a23 := Tryz.isAgg2
  z23 := Tryz.sizeOf2
  t25 := Tryz.underlying77
  a25 := Tryz.isAgg77
  z25 := Tryz.sizeOf77
  v25 := Tryz.zeroValue77 }
end Go.Proofs
