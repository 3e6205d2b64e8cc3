/-
  DERIVED: THE SHELF's CONTRACTS AT THIS DUMP, IN PLAIN WORDS (tools/lay-plain.mjs out of 'YtbbmadmnmlljmaaGreatShelf.lean', which tools/lay-shelf.mjs wrote): THE SAME DECLARATIONS UNDER THE SAME NAMES: 'import', 'namespace', 'open', 'def', 'theorem' AND NOTHING ELSE: no command of the shelf's: FOR A HAND-IN. Each laying: the table of numbers ('.._ren') and one theorem, a field a fact of the dump's own or the kernel's comparison; each contract: ONE APPLICATION.
-/
import Derived.Shelf.SortM.Plain
import Derived.Shelf.SortM.SortNone
import Derived.Shelf.SlicesG.CompactI
import Derived.Shelf.SlGeneric
import Derived.Shelf.SlicesE.DeleteFunc
import Derived.Ground.SlgfProg
import Derived.Ground.SlgmProg
import Derived.Ground.SlgnProg
import Derived.Test.YtbbmadmnmlljmaaGreatProg
namespace Go.Proofs
open Go.Shelf
def Tryz.laysSlM5_ren : Go.Shelf.Ren := ⟨fun | 5 => 175 | 8 => 197 | 7 => 196 | 19 => 212 | 20 => 213 | 10 => 203 | 11 => 204 | 12 => 205 | 13 => 206 | 14 => 207 | 15 => 208 | 16 => 209 | 17 => 210 | 18 => 211 | 30 => 216 | 31 => 217 | 32 => 218 | 33 => 219 | 34 => 220 | 35 => 215 | 40 => 221 | n => n, fun | 23 => 28 | 25 => 2 | 3 => 3 | 32 => 184 | 22 => 28 | 0 => 0 | 44 => 202 | 46 => 205 | 4 => 4 | 36 => 214 | 35 => 213 | 41 => 190 | 5 => 5 | 9 => 9 | 53 => 222 | 57 => 226 | 63 => 228 | 64 => 229 | n => n, fun | n => n⟩
theorem Tryz.laysSlM5 : Go.Proofs.SlLaysM.n5 Tryz.prog Tryz.laysSlM5_ren := {
  mixed := by kernel_rfl
  f5 := ⟨Tryz.f175.name, by decide, Tryz.func175.trans (congrArg some (by kernel_rfl))⟩
  f7 := ⟨Tryz.f196.name, by decide, Tryz.func196.trans (congrArg some (by kernel_rfl))⟩
  f8 := Tryz.func197.trans (congrArg some (by kernel_rfl))
  f10 := ⟨Tryz.f203.name, by decide, Tryz.func203.trans (congrArg some (by kernel_rfl))⟩
  f11 := ⟨Tryz.f204.name, by decide, Tryz.func204.trans (congrArg some (by kernel_rfl))⟩
  f12 := ⟨Tryz.f205.name, by decide, Tryz.func205.trans (congrArg some (by kernel_rfl))⟩
  f13 := ⟨Tryz.f206.name, by decide, Tryz.func206.trans (congrArg some (by kernel_rfl))⟩
  f14 := ⟨Tryz.f207.name, by decide, Tryz.func207.trans (congrArg some (by kernel_rfl))⟩
  f15 := ⟨Tryz.f208.name, by decide, Tryz.func208.trans (congrArg some (by kernel_rfl))⟩
  f16 := ⟨Tryz.f209.name, by decide, Tryz.func209.trans (congrArg some (by kernel_rfl))⟩
  f17 := ⟨Tryz.f210.name, by decide, Tryz.func210.trans (congrArg some (by kernel_rfl))⟩
  f18 := ⟨Tryz.f211.name, by decide, Tryz.func211.trans (congrArg some (by kernel_rfl))⟩
  f19 := Tryz.func212.trans (congrArg some (by kernel_rfl))
  f20 := Tryz.func213.trans (congrArg some (by kernel_rfl))
  f30 := ⟨Tryz.f216.name, by decide, Tryz.func216.trans (congrArg some (by kernel_rfl))⟩
  f31 := Tryz.func217.trans (congrArg some (by kernel_rfl))
  f32 := Tryz.func218.trans (congrArg some (by kernel_rfl))
  f33 := ⟨Tryz.f219.name, by decide, Tryz.func219.trans (congrArg some (by kernel_rfl))⟩
  f34 := ⟨Tryz.f220.name, by decide, Tryz.func220.trans (congrArg some (by kernel_rfl))⟩
  f35 := ⟨Tryz.f215.name, by decide, Tryz.func215.trans (congrArg some (by kernel_rfl))⟩
  f40 := ⟨Tryz.f221.name, by decide, Tryz.func221.trans (congrArg some (by kernel_rfl))⟩
  t0 := Tryz.underlying0
  a0 := Tryz.isAgg0
  z0 := Tryz.sizeOf0
  v0 := Tryz.zeroValue0
  t3 := Tryz.underlying3
  a3 := Tryz.isAgg3
  z3 := Tryz.sizeOf3
  v3 := Tryz.zeroValue3
  t4 := Tryz.underlying4
  a4 := Tryz.isAgg4
  z4 := Tryz.sizeOf4
  v4 := Tryz.zeroValue4
  t5 := Tryz.underlying5
  a5 := Tryz.isAgg5
  z5 := Tryz.sizeOf5
  v5 := Tryz.zeroValue5
  t9 := Tryz.underlying9
  a9 := Tryz.isAgg9
  z9 := Tryz.sizeOf9
  v9 := Tryz.zeroValue9
  t22 := Tryz.underlying28
  a22 := Tryz.isAgg28
  z22 := Tryz.sizeOf28
  v22 := Tryz.zeroValue28
  t23 := Tryz.underlying28
  a23 := Tryz.isAgg28
  z23 := Tryz.sizeOf28
  v23 := Tryz.zeroValue28
  t25 := Tryz.underlying2
  a25 := Tryz.isAgg2
  z25 := Tryz.sizeOf2
  v25 := Tryz.zeroValue2
  t32 := Tryz.underlying184
  a32 := Tryz.isAgg184
  z32 := Tryz.sizeOf184
  v32 := Tryz.zeroValue184
  t35 := Tryz.underlying213
  a35 := Tryz.isAgg213
  z35 := Tryz.sizeOf213
  v35 := Tryz.zeroValue213
  t36 := Tryz.underlying214
  a36 := Tryz.isAgg214
  z36 := Tryz.sizeOf214
  v36 := Tryz.zeroValue214
  t41 := Tryz.underlying190
  a41 := Tryz.isAgg190
  z41 := Tryz.sizeOf190
  v41 := Tryz.zeroValue190
  t44 := Tryz.underlying202
  a44 := Tryz.isAgg202
  z44 := Tryz.sizeOf202
  v44 := Tryz.zeroValue202
  t46 := Tryz.underlying205
  a46 := Tryz.isAgg205
  z46 := Tryz.sizeOf205
  v46 := Tryz.zeroValue205
  t53 := Tryz.underlying222
  a53 := Tryz.isAgg222
  z53 := Tryz.sizeOf222
  v53 := Tryz.zeroValue222
  t57 := Tryz.underlying226
  a57 := Tryz.isAgg226
  z57 := Tryz.sizeOf226
  v57 := Tryz.zeroValue226
  t63 := Tryz.underlying228
  a63 := Tryz.isAgg228
  z63 := Tryz.sizeOf228
  v63 := Tryz.zeroValue228
  t64 := Tryz.underlying229
  a64 := Tryz.isAgg229
  z64 := Tryz.sizeOf229
  v64 := Tryz.zeroValue229 }
def Tryz.laysSlN43_ren : Go.Shelf.Ren := ⟨fun | 43 => 176 | n => n, fun | 22 => 28 | 23 => 2 | 3 => 3 | 4 => 4 | 0 => 0 | n => n, fun | n => n⟩
theorem Tryz.laysSlN43 : Go.Proofs.SlLaysN.n43 Tryz.prog Tryz.laysSlN43_ren := {
  mixed := by kernel_rfl
  f43 := ⟨Tryz.f176.name, by decide, Tryz.func176.trans (congrArg some (by kernel_rfl))⟩
  t0 := Tryz.underlying0
  a0 := Tryz.isAgg0
  z0 := Tryz.sizeOf0
  v0 := Tryz.zeroValue0
  t3 := Tryz.underlying3
  a3 := Tryz.isAgg3
  z3 := Tryz.sizeOf3
  v3 := Tryz.zeroValue3
  t4 := Tryz.underlying4
  a4 := Tryz.isAgg4
  z4 := Tryz.sizeOf4
  v4 := Tryz.zeroValue4
  t22 := Tryz.underlying28
  a22 := Tryz.isAgg28
  z22 := Tryz.sizeOf28
  v22 := Tryz.zeroValue28
  t23 := Tryz.underlying2
  a23 := Tryz.isAgg2
  z23 := Tryz.sizeOf2
  v23 := Tryz.zeroValue2
  i23 := by kernel_rfl }
def Tryz.laysSlH10_ren : Go.Shelf.Ren := ⟨fun | 10 => 145 | 6 => 96 | n => n, fun | 22 => 28 | 23 => 2 | 25 => 144 | 3 => 3 | 4 => 4 | 0 => 0 | n => n, fun | n => n⟩
theorem Tryz.laysSlH10 : Go.Proofs.SlLaysH.n10 Tryz.prog Tryz.laysSlH10_ren := {
  mixed := by kernel_rfl
  f6 := ⟨Tryz.f96.name, by decide, Tryz.func96.trans (congrArg some (by kernel_rfl))⟩
  f10 := ⟨Tryz.f145.name, by decide, Tryz.func145.trans (congrArg some (by kernel_rfl))⟩
  t0 := Tryz.underlying0
  a0 := Tryz.isAgg0
  z0 := Tryz.sizeOf0
  v0 := Tryz.zeroValue0
  t3 := Tryz.underlying3
  a3 := Tryz.isAgg3
  z3 := Tryz.sizeOf3
  v3 := Tryz.zeroValue3
  t4 := Tryz.underlying4
  a4 := Tryz.isAgg4
  z4 := Tryz.sizeOf4
  v4 := Tryz.zeroValue4
  t22 := Tryz.underlying28
  a22 := Tryz.isAgg28
  z22 := Tryz.sizeOf28
  v22 := Tryz.zeroValue28
  a23 := Tryz.isAgg2
  z23 := Tryz.sizeOf2
  t25 := Tryz.underlying144
  a25 := Tryz.isAgg144
  z25 := Tryz.sizeOf144
  v25 := Tryz.zeroValue144 }
end Go.Proofs
