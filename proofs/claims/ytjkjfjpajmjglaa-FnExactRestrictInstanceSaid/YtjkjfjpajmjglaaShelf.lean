/-
  DERIVED: THE SHELF's CONTRACTS AT THIS DUMP, IN PLAIN WORDS (tools/lay-plain.mjs out of 'YtjkjfjpajmjglaaShelf.lean', which tools/lay-shelf.mjs wrote): THE SAME DECLARATIONS UNDER THE SAME NAMES: 'import', 'namespace', 'open', 'def', 'theorem' AND NOTHING ELSE: no command of the shelf's: FOR A HAND-IN. Each laying: the table of numbers ('.._ren') and one theorem, a field a fact of the dump's own or the kernel's comparison; each contract: ONE APPLICATION.
-/
import Derived.Shelf.SortM.Plain
import Derived.Shelf.SortM.SortNone
import Derived.Shelf.SlicesG.CompactI
import Derived.Shelf.SlGeneric
import Derived.Ground.SlgmProg
import Derived.Ground.SlgnProg
import Derived.Test.YtjkjfjpajmjglaaProg
namespace Go.Proofs
open Go.Shelf
def Try.laysSlM5_ren : Go.Shelf.Ren := ⟨fun | 5 => 106 | 8 => 133 | 7 => 132 | 19 => 152 | 20 => 153 | 10 => 143 | 11 => 144 | 12 => 145 | 13 => 146 | 14 => 147 | 15 => 148 | 16 => 149 | 17 => 150 | 18 => 151 | 30 => 160 | 31 => 161 | 32 => 162 | 33 => 163 | 34 => 164 | 35 => 156 | 40 => 166 | n => n, fun | 23 => 25 | 25 => 2 | 3 => 3 | 32 => 151 | 22 => 25 | 0 => 0 | 44 => 169 | 46 => 171 | 4 => 4 | 36 => 162 | 35 => 161 | 41 => 166 | 5 => 5 | 9 => 9 | 53 => 175 | 57 => 179 | 63 => 181 | 64 => 182 | n => n, fun | n => n⟩
theorem Try.laysSlM5 : Go.Proofs.SlLaysM.n5 Try.prog Try.laysSlM5_ren := {
  mixed := by kernel_rfl
  f5 := ⟨Try.f106.name, by decide, Try.func106.trans (congrArg some (by kernel_rfl))⟩
  f7 := ⟨Try.f132.name, by decide, Try.func132.trans (congrArg some (by kernel_rfl))⟩
  f8 := Try.func133.trans (congrArg some (by kernel_rfl))
  f10 := ⟨Try.f143.name, by decide, Try.func143.trans (congrArg some (by kernel_rfl))⟩
  f11 := ⟨Try.f144.name, by decide, Try.func144.trans (congrArg some (by kernel_rfl))⟩
  f12 := ⟨Try.f145.name, by decide, Try.func145.trans (congrArg some (by kernel_rfl))⟩
  f13 := ⟨Try.f146.name, by decide, Try.func146.trans (congrArg some (by kernel_rfl))⟩
  f14 := ⟨Try.f147.name, by decide, Try.func147.trans (congrArg some (by kernel_rfl))⟩
  f15 := ⟨Try.f148.name, by decide, Try.func148.trans (congrArg some (by kernel_rfl))⟩
  f16 := ⟨Try.f149.name, by decide, Try.func149.trans (congrArg some (by kernel_rfl))⟩
  f17 := ⟨Try.f150.name, by decide, Try.func150.trans (congrArg some (by kernel_rfl))⟩
  f18 := ⟨Try.f151.name, by decide, Try.func151.trans (congrArg some (by kernel_rfl))⟩
  f19 := Try.func152.trans (congrArg some (by kernel_rfl))
  f20 := Try.func153.trans (congrArg some (by kernel_rfl))
  f30 := ⟨Try.f160.name, by decide, Try.func160.trans (congrArg some (by kernel_rfl))⟩
  f31 := Try.func161.trans (congrArg some (by kernel_rfl))
  f32 := Try.func162.trans (congrArg some (by kernel_rfl))
  f33 := ⟨Try.f163.name, by decide, Try.func163.trans (congrArg some (by kernel_rfl))⟩
  f34 := ⟨Try.f164.name, by decide, Try.func164.trans (congrArg some (by kernel_rfl))⟩
  f35 := ⟨Try.f156.name, by decide, Try.func156.trans (congrArg some (by kernel_rfl))⟩
  f40 := ⟨Try.f166.name, by decide, Try.func166.trans (congrArg some (by kernel_rfl))⟩
  t0 := Try.underlying0
  a0 := Try.isAgg0
  z0 := Try.sizeOf0
  v0 := Try.zeroValue0
  t3 := Try.underlying3
  a3 := Try.isAgg3
  z3 := Try.sizeOf3
  v3 := Try.zeroValue3
  t4 := Try.underlying4
  a4 := Try.isAgg4
  z4 := Try.sizeOf4
  v4 := Try.zeroValue4
  t5 := Try.underlying5
  a5 := Try.isAgg5
  z5 := Try.sizeOf5
  v5 := Try.zeroValue5
  t9 := Try.underlying9
  a9 := Try.isAgg9
  z9 := Try.sizeOf9
  v9 := Try.zeroValue9
  t22 := Try.underlying25
  a22 := Try.isAgg25
  z22 := Try.sizeOf25
  v22 := Try.zeroValue25
  t23 := Try.underlying25
  a23 := Try.isAgg25
  z23 := Try.sizeOf25
  v23 := Try.zeroValue25
  t25 := Try.underlying2
  a25 := Try.isAgg2
  z25 := Try.sizeOf2
  v25 := Try.zeroValue2
  t32 := Try.underlying151
  a32 := Try.isAgg151
  z32 := Try.sizeOf151
  v32 := Try.zeroValue151
  t35 := Try.underlying161
  a35 := Try.isAgg161
  z35 := Try.sizeOf161
  v35 := Try.zeroValue161
  t36 := Try.underlying162
  a36 := Try.isAgg162
  z36 := Try.sizeOf162
  v36 := Try.zeroValue162
  t41 := Try.underlying166
  a41 := Try.isAgg166
  z41 := Try.sizeOf166
  v41 := Try.zeroValue166
  t44 := Try.underlying169
  a44 := Try.isAgg169
  z44 := Try.sizeOf169
  v44 := Try.zeroValue169
  t46 := Try.underlying171
  a46 := Try.isAgg171
  z46 := Try.sizeOf171
  v46 := Try.zeroValue171
  t53 := Try.underlying175
  a53 := Try.isAgg175
  z53 := Try.sizeOf175
  v53 := Try.zeroValue175
  t57 := Try.underlying179
  a57 := Try.isAgg179
  z57 := Try.sizeOf179
  v57 := Try.zeroValue179
  t63 := Try.underlying181
  a63 := Try.isAgg181
  z63 := Try.sizeOf181
  v63 := Try.zeroValue181
  t64 := Try.underlying182
  a64 := Try.isAgg182
  z64 := Try.sizeOf182
  v64 := Try.zeroValue182 }
def Try.laysSlN43_ren : Go.Shelf.Ren := ⟨fun | 43 => 107 | n => n, fun | 22 => 25 | 23 => 2 | 3 => 3 | 4 => 4 | 0 => 0 | n => n, fun | n => n⟩
theorem Try.laysSlN43 : Go.Proofs.SlLaysN.n43 Try.prog Try.laysSlN43_ren := {
  mixed := by kernel_rfl
  f43 := ⟨Try.f107.name, by decide, Try.func107.trans (congrArg some (by kernel_rfl))⟩
  t0 := Try.underlying0
  a0 := Try.isAgg0
  z0 := Try.sizeOf0
  v0 := Try.zeroValue0
  t3 := Try.underlying3
  a3 := Try.isAgg3
  z3 := Try.sizeOf3
  v3 := Try.zeroValue3
  t4 := Try.underlying4
  a4 := Try.isAgg4
  z4 := Try.sizeOf4
  v4 := Try.zeroValue4
  t22 := Try.underlying25
  a22 := Try.isAgg25
  z22 := Try.sizeOf25
  v22 := Try.zeroValue25
  t23 := Try.underlying2
  a23 := Try.isAgg2
  z23 := Try.sizeOf2
  v23 := Try.zeroValue2
  i23 := by kernel_rfl }
end Go.Proofs
