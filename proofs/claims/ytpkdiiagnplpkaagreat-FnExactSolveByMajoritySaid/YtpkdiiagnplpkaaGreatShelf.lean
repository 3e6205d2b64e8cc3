/-
  DERIVED: THE SHELF's CONTRACTS AT THIS DUMP, IN PLAIN WORDS (tools/lay-plain.mjs out of 'YtpkdiiagnplpkaaGreatShelf.lean', which tools/lay-shelf.mjs wrote): THE SAME DECLARATIONS UNDER THE SAME NAMES: 'import', 'namespace', 'open', 'def', 'theorem' AND NOTHING ELSE: no command of the shelf's: FOR A HAND-IN. Each laying: the table of numbers ('.._ren') and one theorem, a field a fact of the dump's own or the kernel's comparison; each contract: ONE APPLICATION.
-/
import Derived.Shelf.SortM.Plain
import Derived.Shelf.SortM.SortNone
import Derived.Shelf.SlicesG.CompactI
import Derived.Shelf.SlGeneric
import Derived.Shelf.SlicesE.DeleteFunc
import Derived.Ground.SlgfProg
import Derived.Ground.SlgmProg
import Derived.Ground.SlgnProg
import Derived.Test.YtpkdiiagnplpkaaGreatProg
namespace Go.Proofs
open Go.Shelf
def Tryz.laysSlM5_ren : Go.Shelf.Ren := ⟨fun | 5 => 167 | 8 => 191 | 7 => 190 | 19 => 206 | 20 => 207 | 10 => 197 | 11 => 198 | 12 => 199 | 13 => 200 | 14 => 201 | 15 => 202 | 16 => 203 | 17 => 204 | 18 => 205 | 30 => 210 | 31 => 211 | 32 => 212 | 33 => 213 | 34 => 214 | 35 => 209 | 40 => 215 | n => n, fun | 23 => 28 | 25 => 2 | 3 => 3 | 32 => 183 | 22 => 28 | 0 => 0 | 44 => 201 | 46 => 204 | 4 => 4 | 36 => 213 | 35 => 212 | 41 => 189 | 5 => 5 | 9 => 9 | 53 => 221 | 57 => 225 | 63 => 227 | 64 => 228 | n => n, fun | n => n⟩
theorem Tryz.laysSlM5 : Go.Proofs.SlLaysM.n5 Tryz.prog Tryz.laysSlM5_ren := {
  mixed := by kernel_rfl
  f5 := ⟨Tryz.f167.name, by decide, Tryz.func167.trans (congrArg some (by kernel_rfl))⟩
  f7 := ⟨Tryz.f190.name, by decide, Tryz.func190.trans (congrArg some (by kernel_rfl))⟩
  f8 := Tryz.func191.trans (congrArg some (by kernel_rfl))
  f10 := ⟨Tryz.f197.name, by decide, Tryz.func197.trans (congrArg some (by kernel_rfl))⟩
  f11 := ⟨Tryz.f198.name, by decide, Tryz.func198.trans (congrArg some (by kernel_rfl))⟩
  f12 := ⟨Tryz.f199.name, by decide, Tryz.func199.trans (congrArg some (by kernel_rfl))⟩
  f13 := ⟨Tryz.f200.name, by decide, Tryz.func200.trans (congrArg some (by kernel_rfl))⟩
  f14 := ⟨Tryz.f201.name, by decide, Tryz.func201.trans (congrArg some (by kernel_rfl))⟩
  f15 := ⟨Tryz.f202.name, by decide, Tryz.func202.trans (congrArg some (by kernel_rfl))⟩
  f16 := ⟨Tryz.f203.name, by decide, Tryz.func203.trans (congrArg some (by kernel_rfl))⟩
  f17 := ⟨Tryz.f204.name, by decide, Tryz.func204.trans (congrArg some (by kernel_rfl))⟩
  f18 := ⟨Tryz.f205.name, by decide, Tryz.func205.trans (congrArg some (by kernel_rfl))⟩
  f19 := Tryz.func206.trans (congrArg some (by kernel_rfl))
  f20 := Tryz.func207.trans (congrArg some (by kernel_rfl))
  f30 := ⟨Tryz.f210.name, by decide, Tryz.func210.trans (congrArg some (by kernel_rfl))⟩
  f31 := Tryz.func211.trans (congrArg some (by kernel_rfl))
  f32 := Tryz.func212.trans (congrArg some (by kernel_rfl))
  f33 := ⟨Tryz.f213.name, by decide, Tryz.func213.trans (congrArg some (by kernel_rfl))⟩
  f34 := ⟨Tryz.f214.name, by decide, Tryz.func214.trans (congrArg some (by kernel_rfl))⟩
  f35 := ⟨Tryz.f209.name, by decide, Tryz.func209.trans (congrArg some (by kernel_rfl))⟩
  f40 := ⟨Tryz.f215.name, by decide, Tryz.func215.trans (congrArg some (by kernel_rfl))⟩
  t0 := Tryz.underlying0
  a0 := Tryz.isAgg0
  z0 := Tryz.sizeOf0
  v0 := Tryz.zeroValue0
  t3 := Tryz.underlying3
  a3 := Tryz.isAgg3
  z3 := Tryz.sizeOf3
  v3 := Tryz.zeroValue3
  t4 := Tryz.underlying4
  a4 := Tryz.isAgg4
  z4 := Tryz.sizeOf4
  v4 := Tryz.zeroValue4
  t5 := Tryz.underlying5
  a5 := Tryz.isAgg5
  z5 := Tryz.sizeOf5
  v5 := Tryz.zeroValue5
  t9 := Tryz.underlying9
  a9 := Tryz.isAgg9
  z9 := Tryz.sizeOf9
  v9 := Tryz.zeroValue9
  t22 := Tryz.underlying28
  a22 := Tryz.isAgg28
  z22 := Tryz.sizeOf28
  v22 := Tryz.zeroValue28
  t23 := Tryz.underlying28
  a23 := Tryz.isAgg28
  z23 := Tryz.sizeOf28
  v23 := Tryz.zeroValue28
  t25 := Tryz.underlying2
  a25 := Tryz.isAgg2
  z25 := Tryz.sizeOf2
  v25 := Tryz.zeroValue2
  t32 := Tryz.underlying183
  a32 := Tryz.isAgg183
  z32 := Tryz.sizeOf183
  v32 := Tryz.zeroValue183
  t35 := Tryz.underlying212
  a35 := Tryz.isAgg212
  z35 := Tryz.sizeOf212
  v35 := Tryz.zeroValue212
  t36 := Tryz.underlying213
  a36 := Tryz.isAgg213
  z36 := Tryz.sizeOf213
  v36 := Tryz.zeroValue213
  t41 := Tryz.underlying189
  a41 := Tryz.isAgg189
  z41 := Tryz.sizeOf189
  v41 := Tryz.zeroValue189
  t44 := Tryz.underlying201
  a44 := Tryz.isAgg201
  z44 := Tryz.sizeOf201
  v44 := Tryz.zeroValue201
  t46 := Tryz.underlying204
  a46 := Tryz.isAgg204
  z46 := Tryz.sizeOf204
  v46 := Tryz.zeroValue204
  t53 := Tryz.underlying221
  a53 := Tryz.isAgg221
  z53 := Tryz.sizeOf221
  v53 := Tryz.zeroValue221
  t57 := Tryz.underlying225
  a57 := Tryz.isAgg225
  z57 := Tryz.sizeOf225
  v57 := Tryz.zeroValue225
  t63 := Tryz.underlying227
  a63 := Tryz.isAgg227
  z63 := Tryz.sizeOf227
  v63 := Tryz.zeroValue227
  t64 := Tryz.underlying228
  a64 := Tryz.isAgg228
  z64 := Tryz.sizeOf228
  v64 := Tryz.zeroValue228 }
def Tryz.laysSlN43_ren : Go.Shelf.Ren := ⟨fun | 43 => 168 | n => n, fun | 22 => 28 | 23 => 2 | 3 => 3 | 4 => 4 | 0 => 0 | n => n, fun | n => n⟩
theorem Tryz.laysSlN43 : Go.Proofs.SlLaysN.n43 Tryz.prog Tryz.laysSlN43_ren := {
  mixed := by kernel_rfl
  f43 := ⟨Tryz.f168.name, by decide, Tryz.func168.trans (congrArg some (by kernel_rfl))⟩
  t0 := Tryz.underlying0
  a0 := Tryz.isAgg0
  z0 := Tryz.sizeOf0
  v0 := Tryz.zeroValue0
  t3 := Tryz.underlying3
  a3 := Tryz.isAgg3
  z3 := Tryz.sizeOf3
  v3 := Tryz.zeroValue3
  t4 := Tryz.underlying4
  a4 := Tryz.isAgg4
  z4 := Tryz.sizeOf4
  v4 := Tryz.zeroValue4
  t22 := Tryz.underlying28
  a22 := Tryz.isAgg28
  z22 := Tryz.sizeOf28
  v22 := Tryz.zeroValue28
  t23 := Tryz.underlying2
  a23 := Tryz.isAgg2
  z23 := Tryz.sizeOf2
  v23 := Tryz.zeroValue2
  i23 := by kernel_rfl }
def Tryz.laysSlH10_ren : Go.Shelf.Ren := ⟨fun | 10 => 140 | 6 => 81 | n => n, fun | 22 => 28 | 23 => 2 | 25 => 133 | 3 => 3 | 4 => 4 | 0 => 0 | n => n, fun | n => n⟩
theorem Tryz.laysSlH10 : Go.Proofs.SlLaysH.n10 Tryz.prog Tryz.laysSlH10_ren := {
  mixed := by kernel_rfl
  f6 := ⟨Tryz.f81.name, by decide, Tryz.func81.trans (congrArg some (by kernel_rfl))⟩
  f10 := ⟨Tryz.f140.name, by decide, Tryz.func140.trans (congrArg some (by kernel_rfl))⟩
  t0 := Tryz.underlying0
  a0 := Tryz.isAgg0
  z0 := Tryz.sizeOf0
  v0 := Tryz.zeroValue0
  t3 := Tryz.underlying3
  a3 := Tryz.isAgg3
  z3 := Tryz.sizeOf3
  v3 := Tryz.zeroValue3
  t4 := Tryz.underlying4
  a4 := Tryz.isAgg4
  z4 := Tryz.sizeOf4
  v4 := Tryz.zeroValue4
  t22 := Tryz.underlying28
  a22 := Tryz.isAgg28
  z22 := Tryz.sizeOf28
  v22 := Tryz.zeroValue28
  a23 := Tryz.isAgg2
  z23 := Tryz.sizeOf2
  t25 := Tryz.underlying133
  a25 := Tryz.isAgg133
  z25 := Tryz.sizeOf133
  v25 := Tryz.zeroValue133 }
end Go.Proofs
