/-
  DERIVED: THE SHELF's CONTRACTS AT THIS DUMP, IN PLAIN WORDS (tools/lay-plain.mjs out of 'TryzLays.lean', which tools/lay-shelf.mjs wrote): THE SAME DECLARATIONS UNDER THE SAME NAMES: 'import', 'namespace', 'open', 'def', 'theorem' AND NOTHING ELSE: no command of the shelf's: FOR A HAND-IN. Each laying: the table of numbers ('.._ren') and one theorem, a field a fact of the dump's own or the kernel's comparison; each contract: ONE APPLICATION.
-/
import Derived.Shelf.SlGeneric
import Derived.Shelf.SlIter.Nil
import Derived.Shelf.SortM.Plain
import Derived.Shelf.SortM.SortNone
import Derived.Shelf.SlMaps.Clone
import Derived.Ground.GgzProg
import Derived.Ground.SlgmProg
import Derived.Ground.SlmcProg
import Derived.Test.YtaiohgabpbgkdaaGreatDoorProg
namespace Go.Proofs
open Go.Shelf
def Tryz.mapsKeys_ren : Go.Shelf.Ren := ⟨fun | 7 => 197 | 10 => 268 | n => n, fun | 23 => 201 | 26 => 9 | 3 => 101 | 28 => 367 | 0 => 0 | 27 => 366 | 33 => 100 | 4 => 4 | n => n, fun | n => n⟩
theorem Tryz.mapsKeys : Go.Proofs.SlLaysZ.n7 Tryz.prog Tryz.mapsKeys_ren := {
  mixed := by kernel_rfl
  f7 := ⟨Tryz.f197.name, by decide, Tryz.func197.trans (congrArg some (by kernel_rfl))⟩
  f10 := ⟨Tryz.f268.name, by decide, Tryz.func268.trans (congrArg some (by kernel_rfl))⟩
  t0 := Tryz.underlying0
  a0 := Tryz.isAgg0
  z0 := Tryz.sizeOf0
  v0 := Tryz.zeroValue0
  t4 := Tryz.underlying4
  a4 := Tryz.isAgg4
  z4 := Tryz.sizeOf4
  v4 := Tryz.zeroValue4
  t23 := Tryz.underlying201
  a23 := Tryz.isAgg201
  z23 := Tryz.sizeOf201
  v23 := Tryz.zeroValue201
  t26 := Tryz.underlying9
  a26 := Tryz.isAgg9
  z26 := Tryz.sizeOf9
  v26 := Tryz.zeroValue9
  t27 := Tryz.underlying366
  a27 := Tryz.isAgg366
  z27 := Tryz.sizeOf366
  v27 := Tryz.zeroValue366
  t28 := Tryz.underlying367
  a28 := Tryz.isAgg367
  z28 := Tryz.sizeOf367
  v28 := Tryz.zeroValue367
  t33 := Tryz.underlying100
  a33 := Tryz.isAgg100
  z33 := Tryz.sizeOf100
  v33 := Tryz.zeroValue100 }
def Tryz.slicesSorted_ren : Go.Shelf.Ren := ⟨fun | 6 => 196 | 8 => 267 | 9 => 131 | 11 => 315 | 13 => 157 | 12 => 190 | 23 => 216 | 24 => 217 | 14 => 255 | 15 => 256 | 16 => 257 | 17 => 258 | 18 => 259 | 19 => 260 | 20 => 261 | 21 => 262 | 22 => 263 | 25 => 310 | 26 => 279 | 27 => 280 | 28 => 311 | 29 => 312 | 30 => 313 | 31 => 335 | n => n, fun | 26 => 9 | 28 => 367 | 24 => 101 | 0 => 0 | 3 => 3 | 37 => 251 | 48 => 310 | 50 => 24 | 4 => 4 | 40 => 374 | 39 => 373 | 45 => 258 | 5 => 5 | 9 => 9 | 51 => 421 | 55 => 361 | 57 => 463 | 58 => 464 | 33 => 100 | n => n, fun | n => n⟩
theorem Tryz.slicesSorted : Go.Proofs.SlLaysZ.n6 Tryz.prog Tryz.slicesSorted_ren := {
  mixed := by kernel_rfl
  f6 := ⟨Tryz.f196.name, by decide, Tryz.func196.trans (congrArg some (by kernel_rfl))⟩
  f8 := ⟨Tryz.f267.name, by decide, Tryz.func267.trans (congrArg some (by kernel_rfl))⟩
  f11 := ⟨Tryz.f315.name, by decide, Tryz.func315.trans (congrArg some (by kernel_rfl))⟩
  t0 := Tryz.underlying0
  a0 := Tryz.isAgg0
  z0 := Tryz.sizeOf0
  v0 := Tryz.zeroValue0
  t24 := Tryz.underlying101
  a24 := Tryz.isAgg101
  z24 := Tryz.sizeOf101
  v24 := Tryz.zeroValue101
  t26 := Tryz.underlying9
  a26 := Tryz.isAgg9
  z26 := Tryz.sizeOf9
  v26 := Tryz.zeroValue9
  t28 := Tryz.underlying367
  a28 := Tryz.isAgg367
  z28 := Tryz.sizeOf367
  v28 := Tryz.zeroValue367
  i26 := by kernel_rfl }
def Tryz.slicesSort_ren : Go.Shelf.Ren := ⟨fun | 6 => 131 | 8 => 157 | 9 => 190 | 19 => 216 | 20 => 217 | 21 => 255 | 22 => 256 | 23 => 257 | 24 => 258 | 25 => 259 | 26 => 260 | 27 => 261 | 28 => 262 | 29 => 263 | 36 => 310 | 31 => 279 | 32 => 280 | 37 => 311 | 38 => 312 | 39 => 313 | 41 => 335 | n => n, fun | 27 => 101 | 29 => 9 | 3 => 3 | 32 => 251 | 26 => 101 | 0 => 0 | 44 => 310 | 46 => 24 | 4 => 4 | 36 => 374 | 35 => 373 | 41 => 258 | 5 => 5 | 9 => 9 | 53 => 421 | 57 => 361 | 63 => 463 | 64 => 464 | n => n, fun | n => n⟩
theorem Tryz.slicesSort : Go.Proofs.SlLaysM.n6 Tryz.prog Tryz.slicesSort_ren := {
  mixed := by kernel_rfl
  f6 := ⟨Tryz.f131.name, by decide, Tryz.func131.trans (congrArg some (by kernel_rfl))⟩
  f8 := Tryz.func157.trans (congrArg some (by kernel_rfl))
  f9 := ⟨Tryz.f190.name, by decide, Tryz.func190.trans (congrArg some (by kernel_rfl))⟩
  f19 := Tryz.func216.trans (congrArg some (by kernel_rfl))
  f20 := Tryz.func217.trans (congrArg some (by kernel_rfl))
  f21 := ⟨Tryz.f255.name, by decide, Tryz.func255.trans (congrArg some (by kernel_rfl))⟩
  f22 := ⟨Tryz.f256.name, by decide, Tryz.func256.trans (congrArg some (by kernel_rfl))⟩
  f23 := ⟨Tryz.f257.name, by decide, Tryz.func257.trans (congrArg some (by kernel_rfl))⟩
  f24 := ⟨Tryz.f258.name, by decide, Tryz.func258.trans (congrArg some (by kernel_rfl))⟩
  f25 := ⟨Tryz.f259.name, by decide, Tryz.func259.trans (congrArg some (by kernel_rfl))⟩
  f26 := ⟨Tryz.f260.name, by decide, Tryz.func260.trans (congrArg some (by kernel_rfl))⟩
  f27 := ⟨Tryz.f261.name, by decide, Tryz.func261.trans (congrArg some (by kernel_rfl))⟩
  f28 := ⟨Tryz.f262.name, by decide, Tryz.func262.trans (congrArg some (by kernel_rfl))⟩
  f29 := ⟨Tryz.f263.name, by decide, Tryz.func263.trans (congrArg some (by kernel_rfl))⟩
  f31 := Tryz.func279.trans (congrArg some (by kernel_rfl))
  f32 := Tryz.func280.trans (congrArg some (by kernel_rfl))
  f36 := ⟨Tryz.f310.name, by decide, Tryz.func310.trans (congrArg some (by kernel_rfl))⟩
  f37 := ⟨Tryz.f311.name, by decide, Tryz.func311.trans (congrArg some (by kernel_rfl))⟩
  f38 := ⟨Tryz.f312.name, by decide, Tryz.func312.trans (congrArg some (by kernel_rfl))⟩
  f39 := ⟨Tryz.f313.name, by decide, Tryz.func313.trans (congrArg some (by kernel_rfl))⟩
  f41 := ⟨Tryz.f335.name, by decide, Tryz.func335.trans (congrArg some (by kernel_rfl))⟩
  t0 := Tryz.underlying0
  a0 := Tryz.isAgg0
  z0 := Tryz.sizeOf0
  v0 := Tryz.zeroValue0
  t3 := Tryz.underlying3
  a3 := Tryz.isAgg3
  z3 := Tryz.sizeOf3
  v3 := Tryz.zeroValue3
  t4 := Tryz.underlying4
  a4 := Tryz.isAgg4
  z4 := Tryz.sizeOf4
  v4 := Tryz.zeroValue4
  t5 := Tryz.underlying5
  a5 := Tryz.isAgg5
  z5 := Tryz.sizeOf5
  v5 := Tryz.zeroValue5
  t9 := Tryz.underlying9
  a9 := Tryz.isAgg9
  z9 := Tryz.sizeOf9
  v9 := Tryz.zeroValue9
  t26 := Tryz.underlying101
  a26 := Tryz.isAgg101
  z26 := Tryz.sizeOf101
  v26 := Tryz.zeroValue101
  t27 := Tryz.underlying101
  a27 := Tryz.isAgg101
  z27 := Tryz.sizeOf101
  v27 := Tryz.zeroValue101
  t29 := Tryz.underlying9
  a29 := Tryz.isAgg9
  z29 := Tryz.sizeOf9
  v29 := Tryz.zeroValue9
  t32 := Tryz.underlying251
  a32 := Tryz.isAgg251
  z32 := Tryz.sizeOf251
  v32 := Tryz.zeroValue251
  t35 := Tryz.underlying373
  a35 := Tryz.isAgg373
  z35 := Tryz.sizeOf373
  v35 := Tryz.zeroValue373
  t36 := Tryz.underlying374
  a36 := Tryz.isAgg374
  z36 := Tryz.sizeOf374
  v36 := Tryz.zeroValue374
  t41 := Tryz.underlying258
  a41 := Tryz.isAgg258
  z41 := Tryz.sizeOf258
  v41 := Tryz.zeroValue258
  t44 := Tryz.underlying310
  a44 := Tryz.isAgg310
  z44 := Tryz.sizeOf310
  v44 := Tryz.zeroValue310
  t46 := Tryz.underlying24
  a46 := Tryz.isAgg24
  z46 := Tryz.sizeOf24
  v46 := Tryz.zeroValue24
  t53 := Tryz.underlying421
  a53 := Tryz.isAgg421
  z53 := Tryz.sizeOf421
  v53 := Tryz.zeroValue421
  t57 := Tryz.underlying361
  a57 := Tryz.isAgg361
  z57 := Tryz.sizeOf361
  v57 := Tryz.zeroValue361
  t63 := Tryz.underlying463
  a63 := Tryz.isAgg463
  z63 := Tryz.sizeOf463
  v63 := Tryz.zeroValue463
  t64 := Tryz.underlying464
  a64 := Tryz.isAgg464
  z64 := Tryz.sizeOf464
  v64 := Tryz.zeroValue464 }
def Tryz.mapsClone_ren : Go.Shelf.Ren := ⟨fun | 5 => 129 | 7 => 188 | n => n, fun | 23 => 201 | 25 => 9 | 3 => 101 | 4 => 4 | 20 => 20 | n => n, fun | n => n⟩
theorem Tryz.mapsClone : Go.Proofs.SlLaysW.n5 Tryz.prog Tryz.mapsClone_ren := {
  mixed := by kernel_rfl
  f5 := ⟨Tryz.f129.name, by decide, Tryz.func129.trans (congrArg some (by kernel_rfl))⟩
  f7 := Tryz.func188.trans (congrArg some (by kernel_rfl))
  t4 := Tryz.underlying4
  a4 := Tryz.isAgg4
  z4 := Tryz.sizeOf4
  v4 := Tryz.zeroValue4
  t20 := Tryz.underlying20
  a20 := Tryz.isAgg20
  z20 := Tryz.sizeOf20
  v20 := Tryz.zeroValue20
  t23 := Tryz.underlying201
  a23 := Tryz.isAgg201
  z23 := Tryz.sizeOf201
  v23 := Tryz.zeroValue201 }
end Go.Proofs
