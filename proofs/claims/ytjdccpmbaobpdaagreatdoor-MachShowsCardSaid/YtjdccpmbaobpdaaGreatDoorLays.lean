/-
  DERIVED: THE SHELF's CONTRACTS AT THIS DUMP, IN PLAIN WORDS (tools/lay-plain.mjs out of 'TryzLays.lean', which tools/lay-shelf.mjs wrote): THE SAME DECLARATIONS UNDER THE SAME NAMES: 'import', 'namespace', 'open', 'def', 'theorem' AND NOTHING ELSE: no command of the shelf's: FOR A HAND-IN. Each laying: the table of numbers ('.._ren') and one theorem, a field a fact of the dump's own or the kernel's comparison; each contract: ONE APPLICATION.
-/
import Derived.Shelf.SlGeneric
import Derived.Shelf.SlIter.Nil
import Derived.Shelf.SortM.Plain
import Derived.Shelf.SortM.SortNone
import Derived.Shelf.SlMaps.Clone
import Derived.Ground.GgzProg
import Derived.Ground.SlgmProg
import Derived.Ground.SlmcProg
import Derived.Test.YtjdccpmbaobpdaaGreatDoorProg
namespace Go.Proofs
open Go.Shelf
def Tryz.slicesSort_ren : Go.Shelf.Ren := ⟨fun | 6 => 53 | 8 => 97 | 9 => 96 | 19 => 147 | 20 => 105 | 21 => 138 | 22 => 139 | 23 => 140 | 24 => 141 | 25 => 142 | 26 => 143 | 27 => 144 | 28 => 145 | 29 => 146 | 36 => 194 | 31 => 195 | 32 => 196 | 37 => 197 | 38 => 198 | 39 => 199 | 41 => 229 | n => n, fun | 27 => 35 | 29 => 9 | 3 => 3 | 32 => 214 | 26 => 35 | 0 => 0 | 44 => 222 | 46 => 128 | 4 => 4 | 36 => 261 | 35 => 260 | 41 => 265 | 5 => 5 | 9 => 9 | 53 => 310 | 57 => 215 | 63 => 375 | 64 => 376 | n => n, fun | n => n⟩
theorem Tryz.slicesSort : Go.Proofs.SlLaysM.n6 Tryz.prog Tryz.slicesSort_ren := {
  mixed := by kernel_rfl
  f6 := ⟨Tryz.f53.name, by decide, Tryz.func53.trans (congrArg some (by kernel_rfl))⟩
  f8 := Tryz.func97.trans (congrArg some (by kernel_rfl))
  f9 := ⟨Tryz.f96.name, by decide, Tryz.func96.trans (congrArg some (by kernel_rfl))⟩
  f19 := Tryz.func147.trans (congrArg some (by kernel_rfl))
  f20 := Tryz.func105.trans (congrArg some (by kernel_rfl))
  f21 := ⟨Tryz.f138.name, by decide, Tryz.func138.trans (congrArg some (by kernel_rfl))⟩
  f22 := ⟨Tryz.f139.name, by decide, Tryz.func139.trans (congrArg some (by kernel_rfl))⟩
  f23 := ⟨Tryz.f140.name, by decide, Tryz.func140.trans (congrArg some (by kernel_rfl))⟩
  f24 := ⟨Tryz.f141.name, by decide, Tryz.func141.trans (congrArg some (by kernel_rfl))⟩
  f25 := ⟨Tryz.f142.name, by decide, Tryz.func142.trans (congrArg some (by kernel_rfl))⟩
  f26 := ⟨Tryz.f143.name, by decide, Tryz.func143.trans (congrArg some (by kernel_rfl))⟩
  f27 := ⟨Tryz.f144.name, by decide, Tryz.func144.trans (congrArg some (by kernel_rfl))⟩
  f28 := ⟨Tryz.f145.name, by decide, Tryz.func145.trans (congrArg some (by kernel_rfl))⟩
  f29 := ⟨Tryz.f146.name, by decide, Tryz.func146.trans (congrArg some (by kernel_rfl))⟩
  f31 := Tryz.func195.trans (congrArg some (by kernel_rfl))
  f32 := Tryz.func196.trans (congrArg some (by kernel_rfl))
  f36 := ⟨Tryz.f194.name, by decide, Tryz.func194.trans (congrArg some (by kernel_rfl))⟩
  f37 := ⟨Tryz.f197.name, by decide, Tryz.func197.trans (congrArg some (by kernel_rfl))⟩
  f38 := ⟨Tryz.f198.name, by decide, Tryz.func198.trans (congrArg some (by kernel_rfl))⟩
  f39 := ⟨Tryz.f199.name, by decide, Tryz.func199.trans (congrArg some (by kernel_rfl))⟩
  f41 := ⟨Tryz.f229.name, by decide, Tryz.func229.trans (congrArg some (by kernel_rfl))⟩
  t0 := Tryz.underlying0
  a0 := Tryz.isAgg0
  z0 := Tryz.sizeOf0
  v0 := Tryz.zeroValue0
  t3 := Tryz.underlying3
  a3 := Tryz.isAgg3
  z3 := Tryz.sizeOf3
  v3 := Tryz.zeroValue3
  t4 := Tryz.underlying4
  a4 := Tryz.isAgg4
  z4 := Tryz.sizeOf4
  v4 := Tryz.zeroValue4
  t5 := Tryz.underlying5
  a5 := Tryz.isAgg5
  z5 := Tryz.sizeOf5
  v5 := Tryz.zeroValue5
  t9 := Tryz.underlying9
  a9 := Tryz.isAgg9
  z9 := Tryz.sizeOf9
  v9 := Tryz.zeroValue9
  t26 := Tryz.underlying35
  a26 := Tryz.isAgg35
  z26 := Tryz.sizeOf35
  v26 := Tryz.zeroValue35
  t27 := Tryz.underlying35
  a27 := Tryz.isAgg35
  z27 := Tryz.sizeOf35
  v27 := Tryz.zeroValue35
  t29 := Tryz.underlying9
  a29 := Tryz.isAgg9
  z29 := Tryz.sizeOf9
  v29 := Tryz.zeroValue9
  t32 := Tryz.underlying214
  a32 := Tryz.isAgg214
  z32 := Tryz.sizeOf214
  v32 := Tryz.zeroValue214
  t35 := Tryz.underlying260
  a35 := Tryz.isAgg260
  z35 := Tryz.sizeOf260
  v35 := Tryz.zeroValue260
  t36 := Tryz.underlying261
  a36 := Tryz.isAgg261
  z36 := Tryz.sizeOf261
  v36 := Tryz.zeroValue261
  t41 := Tryz.underlying265
  a41 := Tryz.isAgg265
  z41 := Tryz.sizeOf265
  v41 := Tryz.zeroValue265
  t44 := Tryz.underlying222
  a44 := Tryz.isAgg222
  z44 := Tryz.sizeOf222
  v44 := Tryz.zeroValue222
  t46 := Tryz.underlying128
  a46 := Tryz.isAgg128
  z46 := Tryz.sizeOf128
  v46 := Tryz.zeroValue128
  t53 := Tryz.underlying310
  a53 := Tryz.isAgg310
  z53 := Tryz.sizeOf310
  v53 := Tryz.zeroValue310
  t57 := Tryz.underlying215
  a57 := Tryz.isAgg215
  z57 := Tryz.sizeOf215
  v57 := Tryz.zeroValue215
  t63 := Tryz.underlying375
  a63 := Tryz.isAgg375
  z63 := Tryz.sizeOf375
  v63 := Tryz.zeroValue375
  t64 := Tryz.underlying376
  a64 := Tryz.isAgg376
  z64 := Tryz.sizeOf376
  v64 := Tryz.zeroValue376 }
def Tryz.mapsClone_ren : Go.Shelf.Ren := ⟨fun | 5 => 50 | 7 => 93 | n => n, fun | 23 => 89 | 25 => 9 | 3 => 35 | 4 => 4 | 20 => 20 | n => n, fun | n => n⟩
theorem Tryz.mapsClone : Go.Proofs.SlLaysW.n5 Tryz.prog Tryz.mapsClone_ren := {
  mixed := by kernel_rfl
  f5 := ⟨Tryz.f50.name, by decide, Tryz.func50.trans (congrArg some (by kernel_rfl))⟩
  f7 := Tryz.func93.trans (congrArg some (by kernel_rfl))
  t4 := Tryz.underlying4
  a4 := Tryz.isAgg4
  z4 := Tryz.sizeOf4
  v4 := Tryz.zeroValue4
  t20 := Tryz.underlying20
  a20 := Tryz.isAgg20
  z20 := Tryz.sizeOf20
  v20 := Tryz.zeroValue20
  t23 := Tryz.underlying89
  a23 := Tryz.isAgg89
  z23 := Tryz.sizeOf89
  v23 := Tryz.zeroValue89 }
end Go.Proofs
