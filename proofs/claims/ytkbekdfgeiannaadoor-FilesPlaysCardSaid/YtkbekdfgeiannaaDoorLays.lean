/-
  DERIVED: THE SHELF's CONTRACTS AT THIS DUMP, IN PLAIN WORDS (tools/lay-plain.mjs out of 'TrydLays.lean', which tools/lay-shelf.mjs wrote): THE SAME DECLARATIONS UNDER THE SAME NAMES: 'import', 'namespace', 'open', 'def', 'theorem' AND NOTHING ELSE: no command of the shelf's: FOR A HAND-IN. Each laying: the table of numbers ('.._ren') and one theorem, a field a fact of the dump's own or the kernel's comparison; each contract: ONE APPLICATION.
-/
import Derived.Shelf.SlGeneric
import Derived.Shelf.SlIter.Nil
import Derived.Shelf.SortM.Plain
import Derived.Shelf.SortM.SortNone
import Derived.Shelf.SlMaps.Clone
import Derived.Ground.GgzProg
import Derived.Ground.SlgmProg
import Derived.Ground.SlmcProg
import Derived.Test.YtkbekdfgeiannaaDoorProg
namespace Go.Proofs
open Go.Shelf
def Tryd.mapsKeys_ren : Go.Shelf.Ren := ⟨fun | 7 => 28 | 10 => 33 | n => n, fun | 23 => 53 | 26 => 9 | 3 => 23 | 28 => 58 | 0 => 0 | 27 => 57 | 33 => 25 | 4 => 4 | n => n, fun | n => n⟩
theorem Tryd.mapsKeys : Go.Proofs.SlLaysZ.n7 Tryd.prog Tryd.mapsKeys_ren := {
  mixed := by kernel_rfl
  f7 := ⟨Tryd.f28.name, by decide, Tryd.func28.trans (congrArg some (by kernel_rfl))⟩
  f10 := ⟨Tryd.f33.name, by decide, Tryd.func33.trans (congrArg some (by kernel_rfl))⟩
  t0 := Tryd.underlying0
  a0 := Tryd.isAgg0
  z0 := Tryd.sizeOf0
  v0 := Tryd.zeroValue0
  t4 := Tryd.underlying4
  a4 := Tryd.isAgg4
  z4 := Tryd.sizeOf4
  v4 := Tryd.zeroValue4
  t23 := Tryd.underlying53
  a23 := Tryd.isAgg53
  z23 := Tryd.sizeOf53
  v23 := Tryd.zeroValue53
  t26 := Tryd.underlying9
  a26 := Tryd.isAgg9
  z26 := Tryd.sizeOf9
  v26 := Tryd.zeroValue9
  t27 := Tryd.underlying57
  a27 := Tryd.isAgg57
  z27 := Tryd.sizeOf57
  v27 := Tryd.zeroValue57
  t28 := Tryd.underlying58
  a28 := Tryd.isAgg58
  z28 := Tryd.sizeOf58
  v28 := Tryd.zeroValue58
  t33 := Tryd.underlying25
  a33 := Tryd.isAgg25
  z33 := Tryd.sizeOf25
  v33 := Tryd.zeroValue25 }
def Tryd.slicesSorted_ren : Go.Shelf.Ren := ⟨fun | 6 => 27 | 8 => 31 | 9 => 32 | 11 => 38 | 13 => 40 | 12 => 39 | 23 => 54 | 24 => 55 | 14 => 45 | 15 => 46 | 16 => 47 | 17 => 48 | 18 => 49 | 19 => 50 | 20 => 51 | 21 => 52 | 22 => 53 | 25 => 61 | 26 => 62 | 27 => 63 | 28 => 64 | 29 => 65 | 30 => 66 | 31 => 69 | n => n, fun | 26 => 9 | 28 => 58 | 24 => 23 | 0 => 0 | 3 => 3 | 37 => 69 | 48 => 84 | 50 => 86 | 4 => 4 | 40 => 76 | 39 => 75 | 45 => 81 | 5 => 5 | 9 => 9 | 51 => 88 | 55 => 92 | 57 => 100 | 58 => 101 | 33 => 25 | n => n, fun | n => n⟩
theorem Tryd.slicesSorted : Go.Proofs.SlLaysZ.n6 Tryd.prog Tryd.slicesSorted_ren := {
  mixed := by kernel_rfl
  f6 := ⟨Tryd.f27.name, by decide, Tryd.func27.trans (congrArg some (by kernel_rfl))⟩
  f8 := ⟨Tryd.f31.name, by decide, Tryd.func31.trans (congrArg some (by kernel_rfl))⟩
  f11 := ⟨Tryd.f38.name, by decide, Tryd.func38.trans (congrArg some (by kernel_rfl))⟩
  t0 := Tryd.underlying0
  a0 := Tryd.isAgg0
  z0 := Tryd.sizeOf0
  v0 := Tryd.zeroValue0
  t24 := Tryd.underlying23
  a24 := Tryd.isAgg23
  z24 := Tryd.sizeOf23
  v24 := Tryd.zeroValue23
  t26 := Tryd.underlying9
  a26 := Tryd.isAgg9
  z26 := Tryd.sizeOf9
  v26 := Tryd.zeroValue9
  t28 := Tryd.underlying58
  a28 := Tryd.isAgg58
  z28 := Tryd.sizeOf58
  v28 := Tryd.zeroValue58
  i26 := by kernel_rfl }
def Tryd.slicesSort_ren : Go.Shelf.Ren := ⟨fun | 6 => 32 | 8 => 40 | 9 => 39 | 19 => 54 | 20 => 55 | 21 => 45 | 22 => 46 | 23 => 47 | 24 => 48 | 25 => 49 | 26 => 50 | 27 => 51 | 28 => 52 | 29 => 53 | 36 => 61 | 31 => 62 | 32 => 63 | 37 => 64 | 38 => 65 | 39 => 66 | 41 => 69 | n => n, fun | 27 => 23 | 29 => 9 | 3 => 3 | 32 => 69 | 26 => 23 | 0 => 0 | 44 => 84 | 46 => 86 | 4 => 4 | 36 => 76 | 35 => 75 | 41 => 81 | 5 => 5 | 9 => 9 | 53 => 88 | 57 => 92 | 63 => 100 | 64 => 101 | n => n, fun | n => n⟩
theorem Tryd.slicesSort : Go.Proofs.SlLaysM.n6 Tryd.prog Tryd.slicesSort_ren := {
  mixed := by kernel_rfl
  f6 := ⟨Tryd.f32.name, by decide, Tryd.func32.trans (congrArg some (by kernel_rfl))⟩
  f8 := Tryd.func40.trans (congrArg some (by kernel_rfl))
  f9 := ⟨Tryd.f39.name, by decide, Tryd.func39.trans (congrArg some (by kernel_rfl))⟩
  f19 := Tryd.func54.trans (congrArg some (by kernel_rfl))
  f20 := Tryd.func55.trans (congrArg some (by kernel_rfl))
  f21 := ⟨Tryd.f45.name, by decide, Tryd.func45.trans (congrArg some (by kernel_rfl))⟩
  f22 := ⟨Tryd.f46.name, by decide, Tryd.func46.trans (congrArg some (by kernel_rfl))⟩
  f23 := ⟨Tryd.f47.name, by decide, Tryd.func47.trans (congrArg some (by kernel_rfl))⟩
  f24 := ⟨Tryd.f48.name, by decide, Tryd.func48.trans (congrArg some (by kernel_rfl))⟩
  f25 := ⟨Tryd.f49.name, by decide, Tryd.func49.trans (congrArg some (by kernel_rfl))⟩
  f26 := ⟨Tryd.f50.name, by decide, Tryd.func50.trans (congrArg some (by kernel_rfl))⟩
  f27 := ⟨Tryd.f51.name, by decide, Tryd.func51.trans (congrArg some (by kernel_rfl))⟩
  f28 := ⟨Tryd.f52.name, by decide, Tryd.func52.trans (congrArg some (by kernel_rfl))⟩
  f29 := ⟨Tryd.f53.name, by decide, Tryd.func53.trans (congrArg some (by kernel_rfl))⟩
  f31 := Tryd.func62.trans (congrArg some (by kernel_rfl))
  f32 := Tryd.func63.trans (congrArg some (by kernel_rfl))
  f36 := ⟨Tryd.f61.name, by decide, Tryd.func61.trans (congrArg some (by kernel_rfl))⟩
  f37 := ⟨Tryd.f64.name, by decide, Tryd.func64.trans (congrArg some (by kernel_rfl))⟩
  f38 := ⟨Tryd.f65.name, by decide, Tryd.func65.trans (congrArg some (by kernel_rfl))⟩
  f39 := ⟨Tryd.f66.name, by decide, Tryd.func66.trans (congrArg some (by kernel_rfl))⟩
  f41 := ⟨Tryd.f69.name, by decide, Tryd.func69.trans (congrArg some (by kernel_rfl))⟩
  t0 := Tryd.underlying0
  a0 := Tryd.isAgg0
  z0 := Tryd.sizeOf0
  v0 := Tryd.zeroValue0
  t3 := Tryd.underlying3
  a3 := Tryd.isAgg3
  z3 := Tryd.sizeOf3
  v3 := Tryd.zeroValue3
  t4 := Tryd.underlying4
  a4 := Tryd.isAgg4
  z4 := Tryd.sizeOf4
  v4 := Tryd.zeroValue4
  t5 := Tryd.underlying5
  a5 := Tryd.isAgg5
  z5 := Tryd.sizeOf5
  v5 := Tryd.zeroValue5
  t9 := Tryd.underlying9
  a9 := Tryd.isAgg9
  z9 := Tryd.sizeOf9
  v9 := Tryd.zeroValue9
  t26 := Tryd.underlying23
  a26 := Tryd.isAgg23
  z26 := Tryd.sizeOf23
  v26 := Tryd.zeroValue23
  t27 := Tryd.underlying23
  a27 := Tryd.isAgg23
  z27 := Tryd.sizeOf23
  v27 := Tryd.zeroValue23
  t29 := Tryd.underlying9
  a29 := Tryd.isAgg9
  z29 := Tryd.sizeOf9
  v29 := Tryd.zeroValue9
  t32 := Tryd.underlying69
  a32 := Tryd.isAgg69
  z32 := Tryd.sizeOf69
  v32 := Tryd.zeroValue69
  t35 := Tryd.underlying75
  a35 := Tryd.isAgg75
  z35 := Tryd.sizeOf75
  v35 := Tryd.zeroValue75
  t36 := Tryd.underlying76
  a36 := Tryd.isAgg76
  z36 := Tryd.sizeOf76
  v36 := Tryd.zeroValue76
  t41 := Tryd.underlying81
  a41 := Tryd.isAgg81
  z41 := Tryd.sizeOf81
  v41 := Tryd.zeroValue81
  t44 := Tryd.underlying84
  a44 := Tryd.isAgg84
  z44 := Tryd.sizeOf84
  v44 := Tryd.zeroValue84
  t46 := Tryd.underlying86
  a46 := Tryd.isAgg86
  z46 := Tryd.sizeOf86
  v46 := Tryd.zeroValue86
  t53 := Tryd.underlying88
  a53 := Tryd.isAgg88
  z53 := Tryd.sizeOf88
  v53 := Tryd.zeroValue88
  t57 := Tryd.underlying92
  a57 := Tryd.isAgg92
  z57 := Tryd.sizeOf92
  v57 := Tryd.zeroValue92
  t63 := Tryd.underlying100
  a63 := Tryd.isAgg100
  z63 := Tryd.sizeOf100
  v63 := Tryd.zeroValue100
  t64 := Tryd.underlying101
  a64 := Tryd.isAgg101
  z64 := Tryd.sizeOf101
  v64 := Tryd.zeroValue101 }
def Tryd.mapsClone_ren : Go.Shelf.Ren := ⟨fun | 5 => 29 | 7 => 34 | n => n, fun | 23 => 53 | 25 => 9 | 3 => 23 | 4 => 4 | 20 => 20 | n => n, fun | n => n⟩
theorem Tryd.mapsClone : Go.Proofs.SlLaysW.n5 Tryd.prog Tryd.mapsClone_ren := {
  mixed := by kernel_rfl
  f5 := ⟨Tryd.f29.name, by decide, Tryd.func29.trans (congrArg some (by kernel_rfl))⟩
  f7 := Tryd.func34.trans (congrArg some (by kernel_rfl))
  t4 := Tryd.underlying4
  a4 := Tryd.isAgg4
  z4 := Tryd.sizeOf4
  v4 := Tryd.zeroValue4
  t20 := Tryd.underlying20
  a20 := Tryd.isAgg20
  z20 := Tryd.sizeOf20
  v20 := Tryd.zeroValue20
  t23 := Tryd.underlying53
  a23 := Tryd.isAgg53
  z23 := Tryd.sizeOf53
  v23 := Tryd.zeroValue53 }
end Go.Proofs
