/-
  A part of the proof: packed by a program.
-/
import Derived.Test.YtbinfgmdamlkbaaGreatDoorQP2
import Derived.Shelf.Strings.Builder1
import Derived.Shelf.Strings.Trim
import Derived.Shelf.Small.Utf8
import Derived.Shelf.Small.Strs
import Derived.Shelf.Small.Wraps
import Derived.Shelf.Strconv.Itoa0
import Derived.Shelf.Strconv.Itoa1
import Derived.Shelf.LaysM
import Derived.Shelf.Strconv.Itoa2
import Derived.Shelf.Strconv.Itoa3
import Derived.Shelf.Strings.Search1
import Derived.Shelf.Strings.Search2
import Derived.Shelf.Strings.Search3
import Derived.Shelf.Strings.Cut
import Derived.Shelf.Strings.Count
import Derived.Shelf.Strings.Shaped
import Derived.Shelf.Strings.Prefix
import Derived.Shelf.Strings.Split
import Derived.Shelf.Strings.SplitShaped
import Derived.Shelf.Strings.Runes
import Derived.Shelf.Strings.IndexAny
import Derived.Shelf.Strings.AsciiSet
import Derived.Shelf.Strings.IndexAnyAll
import Derived.Shelf.Bits.Mul64
import Derived.Shelf.Unicode.DecodeSlow
import Derived.Ground.SlgmProg
import Derived.Shelf.SortM.Plain
import Derived.Shelf.SortM.SortNone
import Derived.Test.YtbinfgmdamlkbaaGreatDoorProg
import Derived.Shelf.SlGeneric
import Derived.Shelf.SlIter.Nil
import Derived.Shelf.SlMaps.Clone
import Derived.Ground.GgzProg
import Derived.Ground.SlmcProg
import Derived.Handy
import Derived.Lib.SplitLaws
import Derived.Lib.Split
import Derived.WalkSpells
import Derived.WalkSmall
import Derived.WalkLawsBesides
import Derived.WalkKit
import Derived.Sort.Walk0
import Derived.Maps.OwnSet
import Derived.Maps.AppendAt
import Derived.Lib.Hide
import Derived.Laws.AppendOwnNone
import Derived.Deep.QuietTactic
import Derived.Deep.DrawnRows
import Derived.BigQuiet
import Derived.Lib.Builder
import Derived.KernelRfl
set_option maxRecDepth 100000
set_option maxHeartbeats 4000000
set_option linter.unusedVariables false
set_option linter.unusedSimpArgs false
namespace Go.Proofs
open Go.Shelf
def Tryz.lays169_ren : Go.Shelf.Ren:=⟨fun | 169=>38 | n=>n,fun | 70=>75 | 9=>9 | 0=>0 | 72=>78 | 37=>76 | 127=>192 | 3=>3 | 5=>5 | n=>n,fun | n=>n⟩
theorem Tryz.lays169 : Go.Proofs.Lays.n169 Tryz.prog Tryz.lays169_ren:={
 mixed:=by kernel_rfl
 f169:=Tryz.func38.trans (congrArg some (by kernel_rfl))
 t0:=Tryz.underlying0
 a0:=Tryz.isAgg0
 z0:=Tryz.sizeOf0
 v0:=Tryz.zeroValue0
 t3:=Tryz.underlying3
 a3:=Tryz.isAgg3
 z3:=Tryz.sizeOf3
 v3:=Tryz.zeroValue3
 t9:=Tryz.underlying9
 a9:=Tryz.isAgg9
 z9:=Tryz.sizeOf9
 v9:=Tryz.zeroValue9
 t37:=Tryz.underlying76
 a37:=Tryz.isAgg76
 z37:=Tryz.sizeOf76
 v37:=Tryz.zeroValue76
 t70:=Tryz.underlying75
 a70:=Tryz.isAgg75
 z70:=Tryz.sizeOf75
 v70:=Tryz.zeroValue75
 t72:=Tryz.underlying78
 a72:=Tryz.isAgg78
 z72:=Tryz.sizeOf78
 v72:=Tryz.zeroValue78
 t127:=Tryz.underlying192
 a127:=Tryz.isAgg192
 z127:=Tryz.sizeOf192
 v127:=Tryz.zeroValue192 }
theorem Tryz.Builder_Extra_169 : Builder.Extra Tryz.prog Tryz.lays169_ren:={
 sizeBuilder:=by kernel_rfl
 liesBuilder:=by kernel_rfl
 t5:=Tryz.underlying5
 a5:=Tryz.isAgg5
 z5:=Tryz.sizeOf5
 v5:=Tryz.zeroValue5
 infoByte:=by kernel_rfl
 cellsByte:=by kernel_rfl
 sizeByte:=by kernel_rfl
 neB5:=by decide }
def Tryz.lays146_ren : Go.Shelf.Ren:=⟨fun | 146=>55 | 221=>97 | 268=>137 | 138=>138 | 143=>139 | 195=>196 | 197=>197 | 218=>198 | 219=>111 | 260=>238 | 217=>159 | 225=>160 | 224=>161 | 267=>162 | 266=>212 | 314=>213 | n=>n,fun | 9=>9 | 31=>22 | 3=>3 | 4=>4 | 0=>0 | 105=>329 | 21=>21 | 5=>5 | 46=>229 | 119=>369 | 139=>427 | 138=>426 | 146=>318 | 51=>284 | n=>n,fun | 1=>0 | 3=>2 | 4=>3 | n=>n⟩
theorem Tryz.lays146 : Go.Proofs.Lays.n146 Tryz.prog Tryz.lays146_ren:={
 mixed:=by kernel_rfl
 f138:=Tryz.func138.trans (congrArg some (by kernel_rfl))
 f143:=Tryz.func139.trans (congrArg some (by kernel_rfl))
 f146:=Tryz.func55.trans (congrArg some (by kernel_rfl))
 f195:=Tryz.func196.trans (congrArg some (by kernel_rfl))
 f197:=Tryz.func197.trans (congrArg some (by kernel_rfl))
 f217:=Tryz.func159.trans (congrArg some (by kernel_rfl))
 f218:=Tryz.func198.trans (congrArg some (by kernel_rfl))
 f219:=Tryz.func111.trans (congrArg some (by kernel_rfl))
 f221:=Tryz.func97.trans (congrArg some (by kernel_rfl))
 f224:=Tryz.func161.trans (congrArg some (by kernel_rfl))
 f225:=Tryz.func160.trans (congrArg some (by kernel_rfl))
 f260:=Tryz.func238.trans (congrArg some (by kernel_rfl))
 f266:=Tryz.func212.trans (congrArg some (by kernel_rfl))
 f267:=Tryz.func162.trans (congrArg some (by kernel_rfl))
 f268:=Tryz.func137.trans (congrArg some (by kernel_rfl))
 f314:=Tryz.func213.trans (congrArg some (by kernel_rfl))
 t0:=Tryz.underlying0
 a0:=Tryz.isAgg0
 z0:=Tryz.sizeOf0
 v0:=Tryz.zeroValue0
 t3:=Tryz.underlying3
 a3:=Tryz.isAgg3
 z3:=Tryz.sizeOf3
 v3:=Tryz.zeroValue3
 t4:=Tryz.underlying4
 a4:=Tryz.isAgg4
 z4:=Tryz.sizeOf4
 v4:=Tryz.zeroValue4
 t5:=Tryz.underlying5
 a5:=Tryz.isAgg5
 z5:=Tryz.sizeOf5
 v5:=Tryz.zeroValue5
 t9:=Tryz.underlying9
 a9:=Tryz.isAgg9
 z9:=Tryz.sizeOf9
 v9:=Tryz.zeroValue9
 t21:=Tryz.underlying21
 a21:=Tryz.isAgg21
 z21:=Tryz.sizeOf21
 v21:=Tryz.zeroValue21
 t31:=Tryz.underlying22
 a31:=Tryz.isAgg22
 z31:=Tryz.sizeOf22
 v31:=Tryz.zeroValue22
 t46:=Tryz.underlying229
 a46:=Tryz.isAgg229
 z46:=Tryz.sizeOf229
 v46:=Tryz.zeroValue229
 t51:=Tryz.underlying284
 a51:=Tryz.isAgg284
 z51:=Tryz.sizeOf284
 v51:=Tryz.zeroValue284
 t105:=Tryz.underlying329
 a105:=Tryz.isAgg329
 z105:=Tryz.sizeOf329
 v105:=Tryz.zeroValue329
 t119:=Tryz.underlying369
 a119:=Tryz.isAgg369
 z119:=Tryz.sizeOf369
 t138:=Tryz.underlying426
 a138:=Tryz.isAgg426
 z138:=Tryz.sizeOf426
 v138:=Tryz.zeroValue426
 t139:=Tryz.underlying427
 a139:=Tryz.isAgg427
 z139:=Tryz.sizeOf427
 v139:=Tryz.zeroValue427
 t146:=Tryz.underlying318
 a146:=Tryz.isAgg318
 z146:=Tryz.sizeOf318
 v146:=Tryz.zeroValue318
 g1:=by kernel_rfl
 g3:=by kernel_rfl
 g4:=by kernel_rfl }
open Go.RowKit Go.Lib in
theorem Tryz.strings_Split (s sep : ByteArray) (m : Int) (w : World) (hs : s.size < 4294967281) (hm : w.cell? ⟨0,0,none⟩ = some (.int .i64 m)) (h1 : 1 ≤ sep.size) :
  Calls Tryz.prog 55 #[.string s,.string sep] w fun e w' =>
   e = .returned (.slice (some ⟨w.heap.size,0,none⟩) (Lib.countB s sep + 1) (Lib.countB s sep + 1)) ∧ w' = w.alloc (.cells ((Lib.splitB sep 0 (Lib.countB s sep) s).map Value.string).toArray 9):=Any.strings_Split Tryz.lays146 (by kernel_rfl) s sep m w hs hm h1
def Tryz.laysM146_ren : Go.Shelf.Ren:=⟨fun | 146=>55 | 221=>97 | 268=>137 | 138=>138 | 143=>139 | 195=>196 | 197=>197 | 218=>198 | 219=>111 | 260=>238 | 217=>159 | 225=>160 | 224=>161 | 267=>162 | 266=>212 | 314=>213 | n=>n,fun | 9=>9 | 31=>22 | 3=>3 | 4=>4 | 0=>0 | 105=>329 | 21=>21 | 5=>5 | 46=>229 | 119=>369 | 139=>427 | 138=>426 | 146=>318 | 51=>284 | n=>n,fun | 1=>0 | 3=>2 | 4=>3 | n=>n⟩
theorem Tryz.laysM146 : Go.Proofs.LaysM.n146 Tryz.prog Tryz.laysM146_ren:={
 mixed:=by kernel_rfl
 f138:=Tryz.func138.trans (congrArg some (by kernel_rfl))
 f143:=Tryz.func139.trans (congrArg some (by kernel_rfl))
 f146:=Tryz.func55.trans (congrArg some (by kernel_rfl))
 f195:=Tryz.func196.trans (congrArg some (by kernel_rfl))
 f197:=Tryz.func197.trans (congrArg some (by kernel_rfl))
 f217:=Tryz.func159.trans (congrArg some (by kernel_rfl))
 f218:=Tryz.func198.trans (congrArg some (by kernel_rfl))
 f219:=Tryz.func111.trans (congrArg some (by kernel_rfl))
 f221:=Tryz.func97.trans (congrArg some (by kernel_rfl))
 f224:=Tryz.func161.trans (congrArg some (by kernel_rfl))
 f225:=Tryz.func160.trans (congrArg some (by kernel_rfl))
 f260:=Tryz.func238.trans (congrArg some (by kernel_rfl))
 f266:=Tryz.func212.trans (congrArg some (by kernel_rfl))
 f267:=Tryz.func162.trans (congrArg some (by kernel_rfl))
 f268:=Tryz.func137.trans (congrArg some (by kernel_rfl))
 f314:=Tryz.func213.trans (congrArg some (by kernel_rfl))
 t0:=Tryz.underlying0
 a0:=Tryz.isAgg0
 z0:=Tryz.sizeOf0
 v0:=Tryz.zeroValue0
 t3:=Tryz.underlying3
 a3:=Tryz.isAgg3
 z3:=Tryz.sizeOf3
 v3:=Tryz.zeroValue3
 t4:=Tryz.underlying4
 a4:=Tryz.isAgg4
 z4:=Tryz.sizeOf4
 v4:=Tryz.zeroValue4
 t5:=Tryz.underlying5
 a5:=Tryz.isAgg5
 z5:=Tryz.sizeOf5
 v5:=Tryz.zeroValue5
 t9:=Tryz.underlying9
 a9:=Tryz.isAgg9
 z9:=Tryz.sizeOf9
 v9:=Tryz.zeroValue9
 t21:=Tryz.underlying21
 a21:=Tryz.isAgg21
 z21:=Tryz.sizeOf21
 v21:=Tryz.zeroValue21
 t31:=Tryz.underlying22
 a31:=Tryz.isAgg22
 z31:=Tryz.sizeOf22
 v31:=Tryz.zeroValue22
 t46:=Tryz.underlying229
 a46:=Tryz.isAgg229
 z46:=Tryz.sizeOf229
 v46:=Tryz.zeroValue229
 t51:=Tryz.underlying284
 a51:=Tryz.isAgg284
 z51:=Tryz.sizeOf284
 v51:=Tryz.zeroValue284
 t105:=Tryz.underlying329
 a105:=Tryz.isAgg329
 z105:=Tryz.sizeOf329
 v105:=Tryz.zeroValue329
 t119:=Tryz.underlying369
 a119:=Tryz.isAgg369
 z119:=Tryz.sizeOf369
 t138:=Tryz.underlying426
 a138:=Tryz.isAgg426
 z138:=Tryz.sizeOf426
 v138:=Tryz.zeroValue426
 t139:=Tryz.underlying427
 a139:=Tryz.isAgg427
 z139:=Tryz.sizeOf427
 v139:=Tryz.zeroValue427
 t146:=Tryz.underlying318
 a146:=Tryz.isAgg318
 z146:=Tryz.sizeOf318
 v146:=Tryz.zeroValue318
 g1:=by kernel_rfl
 g3:=by kernel_rfl
 g4:=by kernel_rfl
 i0:=by kernel_rfl
 i3:=by kernel_rfl
 i4:=by kernel_rfl
 i5:=by kernel_rfl
 i9:=by kernel_rfl
 i21:=by kernel_rfl
 i31:=by kernel_rfl
 i46:=by kernel_rfl
 i51:=by kernel_rfl
 i105:=by kernel_rfl
 i138:=by kernel_rfl
 i139:=by kernel_rfl
 i146:=by kernel_rfl
 m1:=by kernel_rfl
 s1_3:=fun w h=>Go.Proofs.cell_of_shapedOpen_int (zero:=#[.int .i64 0]) (t:=3) h (of_decide_eq_true (by kernel_rfl)) (by kernel_rfl) rfl (by kernel_rfl) (by kernel_rfl) Tryz.underlying3
 m3:=by kernel_rfl
 m4:=by kernel_rfl }
end Go.Proofs
namespace Go.Proofs
open Go.Shelf
def Tryz.mapsKeys_ren : Go.Shelf.Ren:=⟨fun | 7=>110 | 10=>158 | n=>n,fun | 23=>94 | 26=>9 | 3=>22 | 28=>239 | 0=>0 | 27=>238 | 33=>233 | 4=>4 | n=>n,fun | n=>n⟩
theorem Tryz.mapsKeys : Go.Proofs.SlLaysZ.n7 Tryz.prog Tryz.mapsKeys_ren:={
 mixed:=by kernel_rfl
 f7:=⟨Tryz.f110.name,by decide,Tryz.func110.trans (congrArg some (by kernel_rfl))⟩
 f10:=⟨Tryz.f158.name,by decide,Tryz.func158.trans (congrArg some (by kernel_rfl))⟩
 t0:=Tryz.underlying0
 a0:=Tryz.isAgg0
 z0:=Tryz.sizeOf0
 v0:=Tryz.zeroValue0
 t4:=Tryz.underlying4
 a4:=Tryz.isAgg4
 z4:=Tryz.sizeOf4
 v4:=Tryz.zeroValue4
 t23:=Tryz.underlying94
 a23:=Tryz.isAgg94
 z23:=Tryz.sizeOf94
 v23:=Tryz.zeroValue94
 t26:=Tryz.underlying9
 a26:=Tryz.isAgg9
 z26:=Tryz.sizeOf9
 v26:=Tryz.zeroValue9
 t27:=Tryz.underlying238
 a27:=Tryz.isAgg238
 z27:=Tryz.sizeOf238
 v27:=Tryz.zeroValue238
 t28:=Tryz.underlying239
 a28:=Tryz.isAgg239
 z28:=Tryz.sizeOf239
 v28:=Tryz.zeroValue239
 t33:=Tryz.underlying233
 a33:=Tryz.isAgg233
 z33:=Tryz.sizeOf233
 v33:=Tryz.zeroValue233 }
def Tryz.slicesSorted_ren : Go.Shelf.Ren:=⟨fun | 6=>109 | 8=>157 | 9=>56 | 11=>211 | 13=>99 | 12=>98 | 23=>149 | 24=>150 | 14=>140 | 15=>141 | 16=>142 | 17=>143 | 18=>144 | 19=>145 | 20=>146 | 21=>147 | 22=>148 | 25=>199 | 26=>200 | 27=>201 | 28=>202 | 29=>203 | 30=>204 | 31=>239 | n=>n,fun | 26=>9 | 28=>239 | 24=>22 | 0=>0 | 3=>3 | 37=>229 | 48=>284 | 50=>101 | 4=>4 | 40=>277 | 39=>276 | 45=>281 | 5=>5 | 9=>9 | 51=>331 | 55=>231 | 57=>398 | 58=>399 | 33=>233 | n=>n,fun | n=>n⟩
theorem Tryz.slicesSorted : Go.Proofs.SlLaysZ.n6 Tryz.prog Tryz.slicesSorted_ren:={
 mixed:=by kernel_rfl
 f6:=⟨Tryz.f109.name,by decide,Tryz.func109.trans (congrArg some (by kernel_rfl))⟩
 f8:=⟨Tryz.f157.name,by decide,Tryz.func157.trans (congrArg some (by kernel_rfl))⟩
 f11:=⟨Tryz.f211.name,by decide,Tryz.func211.trans (congrArg some (by kernel_rfl))⟩
 t0:=Tryz.underlying0
 a0:=Tryz.isAgg0
 z0:=Tryz.sizeOf0
 v0:=Tryz.zeroValue0
 t24:=Tryz.underlying22
 a24:=Tryz.isAgg22
 z24:=Tryz.sizeOf22
 v24:=Tryz.zeroValue22
 t26:=Tryz.underlying9
 a26:=Tryz.isAgg9
 z26:=Tryz.sizeOf9
 v26:=Tryz.zeroValue9
 t28:=Tryz.underlying239
 a28:=Tryz.isAgg239
 z28:=Tryz.sizeOf239
 v28:=Tryz.zeroValue239
 i26:=by kernel_rfl }
def Tryz.slicesSort_ren : Go.Shelf.Ren:=⟨fun | 6=>56 | 8=>99 | 9=>98 | 19=>149 | 20=>150 | 21=>140 | 22=>141 | 23=>142 | 24=>143 | 25=>144 | 26=>145 | 27=>146 | 28=>147 | 29=>148 | 36=>199 | 31=>200 | 32=>201 | 37=>202 | 38=>203 | 39=>204 | 41=>239 | n=>n,fun | 27=>22 | 29=>9 | 3=>3 | 32=>229 | 26=>22 | 0=>0 | 44=>284 | 46=>101 | 4=>4 | 36=>277 | 35=>276 | 41=>281 | 5=>5 | 9=>9 | 53=>331 | 57=>231 | 63=>398 | 64=>399 | n=>n,fun | n=>n⟩
theorem Tryz.slicesSort : Go.Proofs.SlLaysM.n6 Tryz.prog Tryz.slicesSort_ren:={
 mixed:=by kernel_rfl
 f6:=⟨Tryz.f56.name,by decide,Tryz.func56.trans (congrArg some (by kernel_rfl))⟩
 f8:=Tryz.func99.trans (congrArg some (by kernel_rfl))
 f9:=⟨Tryz.f98.name,by decide,Tryz.func98.trans (congrArg some (by kernel_rfl))⟩
 f19:=Tryz.func149.trans (congrArg some (by kernel_rfl))
 f20:=Tryz.func150.trans (congrArg some (by kernel_rfl))
 f21:=⟨Tryz.f140.name,by decide,Tryz.func140.trans (congrArg some (by kernel_rfl))⟩
 f22:=⟨Tryz.f141.name,by decide,Tryz.func141.trans (congrArg some (by kernel_rfl))⟩
 f23:=⟨Tryz.f142.name,by decide,Tryz.func142.trans (congrArg some (by kernel_rfl))⟩
 f24:=⟨Tryz.f143.name,by decide,Tryz.func143.trans (congrArg some (by kernel_rfl))⟩
 f25:=⟨Tryz.f144.name,by decide,Tryz.func144.trans (congrArg some (by kernel_rfl))⟩
 f26:=⟨Tryz.f145.name,by decide,Tryz.func145.trans (congrArg some (by kernel_rfl))⟩
 f27:=⟨Tryz.f146.name,by decide,Tryz.func146.trans (congrArg some (by kernel_rfl))⟩
 f28:=⟨Tryz.f147.name,by decide,Tryz.func147.trans (congrArg some (by kernel_rfl))⟩
 f29:=⟨Tryz.f148.name,by decide,Tryz.func148.trans (congrArg some (by kernel_rfl))⟩
 f31:=Tryz.func200.trans (congrArg some (by kernel_rfl))
 f32:=Tryz.func201.trans (congrArg some (by kernel_rfl))
 f36:=⟨Tryz.f199.name,by decide,Tryz.func199.trans (congrArg some (by kernel_rfl))⟩
 f37:=⟨Tryz.f202.name,by decide,Tryz.func202.trans (congrArg some (by kernel_rfl))⟩
 f38:=⟨Tryz.f203.name,by decide,Tryz.func203.trans (congrArg some (by kernel_rfl))⟩
 f39:=⟨Tryz.f204.name,by decide,Tryz.func204.trans (congrArg some (by kernel_rfl))⟩
 f41:=⟨Tryz.f239.name,by decide,Tryz.func239.trans (congrArg some (by kernel_rfl))⟩
 t0:=Tryz.underlying0
 a0:=Tryz.isAgg0
 z0:=Tryz.sizeOf0
 v0:=Tryz.zeroValue0
 t3:=Tryz.underlying3
 a3:=Tryz.isAgg3
 z3:=Tryz.sizeOf3
 v3:=Tryz.zeroValue3
 t4:=Tryz.underlying4
 a4:=Tryz.isAgg4
 z4:=Tryz.sizeOf4
 v4:=Tryz.zeroValue4
 t5:=Tryz.underlying5
 a5:=Tryz.isAgg5
 z5:=Tryz.sizeOf5
 v5:=Tryz.zeroValue5
 t9:=Tryz.underlying9
 a9:=Tryz.isAgg9
 z9:=Tryz.sizeOf9
 v9:=Tryz.zeroValue9
 t26:=Tryz.underlying22
 a26:=Tryz.isAgg22
 z26:=Tryz.sizeOf22
 v26:=Tryz.zeroValue22
 t27:=Tryz.underlying22
 a27:=Tryz.isAgg22
 z27:=Tryz.sizeOf22
 v27:=Tryz.zeroValue22
 t29:=Tryz.underlying9
 a29:=Tryz.isAgg9
 z29:=Tryz.sizeOf9
 v29:=Tryz.zeroValue9
 t32:=Tryz.underlying229
 a32:=Tryz.isAgg229
 z32:=Tryz.sizeOf229
 v32:=Tryz.zeroValue229
 t35:=Tryz.underlying276
 a35:=Tryz.isAgg276
 z35:=Tryz.sizeOf276
 v35:=Tryz.zeroValue276
 t36:=Tryz.underlying277
 a36:=Tryz.isAgg277
 z36:=Tryz.sizeOf277
 v36:=Tryz.zeroValue277
 t41:=Tryz.underlying281
 a41:=Tryz.isAgg281
 z41:=Tryz.sizeOf281
 v41:=Tryz.zeroValue281
 t44:=Tryz.underlying284
 a44:=Tryz.isAgg284
 z44:=Tryz.sizeOf284
 v44:=Tryz.zeroValue284
 t46:=Tryz.underlying101
 a46:=Tryz.isAgg101
 z46:=Tryz.sizeOf101
 v46:=Tryz.zeroValue101
 t53:=Tryz.underlying331
 a53:=Tryz.isAgg331
 z53:=Tryz.sizeOf331
 v53:=Tryz.zeroValue331
 t57:=Tryz.underlying231
 a57:=Tryz.isAgg231
 z57:=Tryz.sizeOf231
 v57:=Tryz.zeroValue231
 t63:=Tryz.underlying398
 a63:=Tryz.isAgg398
 z63:=Tryz.sizeOf398
 v63:=Tryz.zeroValue398
 t64:=Tryz.underlying399
 a64:=Tryz.isAgg399
 z64:=Tryz.sizeOf399
 v64:=Tryz.zeroValue399 }
def Tryz.mapsClone_ren : Go.Shelf.Ren:=⟨fun | 5=>53 | 7=>95 | n=>n,fun | 23=>94 | 25=>9 | 3=>22 | 4=>4 | 20=>20 | n=>n,fun | n=>n⟩
theorem Tryz.mapsClone : Go.Proofs.SlLaysW.n5 Tryz.prog Tryz.mapsClone_ren:={
 mixed:=by kernel_rfl
 f5:=⟨Tryz.f53.name,by decide,Tryz.func53.trans (congrArg some (by kernel_rfl))⟩
 f7:=Tryz.func95.trans (congrArg some (by kernel_rfl))
 t4:=Tryz.underlying4
 a4:=Tryz.isAgg4
 z4:=Tryz.sizeOf4
 v4:=Tryz.zeroValue4
 t20:=Tryz.underlying20
 a20:=Tryz.isAgg20
 z20:=Tryz.sizeOf20
 v20:=Tryz.zeroValue20
 t23:=Tryz.underlying94
 a23:=Tryz.isAgg94
 z23:=Tryz.sizeOf94
 v23:=Tryz.zeroValue94 }
end Go.Proofs
namespace Go.Proofs.YtbinfgmdamlkbaaGreatDoor
open Go.RowKit
theorem tz_any (w : World) (hc : w.cell? ⟨5,7,none⟩ = some (.int .u8 3)) :
  Calls Tryz.prog 276 #[.int .u64 8] w fun e w'=>e = .returned (.int .i64 3) ∧ w' = w:=by
 have he : IntKind.u64.wrap (bits BinOp.and IntKind.u64 8 (IntKind.u64.wrap (-8)) * 285870213051353865) / 288230376151711744 = 7:=by decide +kernel
 have hr : 0 ≤ IntKind.u64.wrap (bits BinOp.and IntKind.u64 8 (IntKind.u64.wrap (-8)) * 285870213051353865) / 288230376151711744 ∧ IntKind.u64.wrap (bits BinOp.and IntKind.u64 8 (IntKind.u64.wrap (-8)) * 285870213051353865) / 288230376151711744 < 64:=by rw [he]; decide
 have hc' : w.cell? ⟨5,(IntKind.u64.wrap (bits BinOp.and IntKind.u64 8 (IntKind.u64.wrap (-8)) * 285870213051353865) / 288230376151711744).toNat,none⟩ = some (.int .u8 3):=by rw [he]; exact hc
 go_enter Tryz.func276,Tryz.ntmps276
 go_wp2
 go_returns
 exact ⟨rfl,rfl⟩
theorem cS6 {args : List AV} {S : AS} {x : AE} {r : Upd} (h : ck9 args S = some (x,r)) {G : Gh} {w : World} {B : Nat → Nat} {args' : List Value} (hW : WRel G S w B) (ha : CRel G args args') :
  Calls Tryz.prog 276 args'.toArray w fun e w'=>∃ G',AE.rel G' x e ∧ WRel G' (S.after r) w' B ∧ Mod G S w G' (S.after r) w':=by
 unfold ck9 at h
 split at h
 case h_2=>cases h
 rename_i n
 split at h
 case isFalse=>cases h
 rename_i hn
 subst hn
 cases h
 obtain ⟨v,hv,hr⟩ : ∃ v,args' = [v] ∧ VRel G (.lit (.int .u64 8)) v:=by
  cases args' with
  | nil=>exact absurd ha.1 (by simp)
  | cons v t=>cases t with
   | nil=>exact ⟨v,rfl,ha.head⟩
   | cons _ _=>exact absurd ha.1 (by simp)
 subst hv
 rw [hr.am3]
 obtain ⟨v7,k7,e7⟩:=hW.far.2 (5,7,(· = .int .u8 3)) (List.mem_cons_self ..)
 have hc:=hW.imm _ _ _ k7
 rw [e7] at hc
 refine (tz_any w hc).mono fun e w' he=>?_
 obtain ⟨rfl,rfl⟩:=he
 exact ⟨G,⟨_,rfl,.lit _⟩,hW,Mod.refl G S _⟩
theorem b30 : ∀ (l : List UInt8),(∀ c ∈ l,c ≠ 10) → cutL l = [l]
 | [],_=>rfl
 | c :: r,h=>by
  have h1:=b30 r (fun x hx=>h x (List.mem_cons_of_mem _ hx))
  have h2 : c ≠ 10:=h c List.mem_cons_self
  simp [cutL,h2,h1]
theorem ci0 : ∀ (p r : List UInt8),(∀ c ∈ p,c ≠ 10) → cutL (p ++ 10 :: r) = p :: cutL r
 | [],r,_=>by simp [cutL]
 | c :: p,r,h=>by
  have h1:=ci0 p r (fun x hx=>h x (List.mem_cons_of_mem _ hx))
  have h2 : c ≠ 10:=h c List.mem_cons_self
  simp [cutL,h2,h1]
theorem cy6 : ∀ (l : List UInt8),(Lib.index l [10] = -1 ∧ (∀ c ∈ l,c ≠ 10)) ∨ ∃ p r,l = p ++ 10 :: r ∧ (∀ c ∈ p,c ≠ 10) ∧ Lib.index l [10] = p.length
 | []=>.inl ⟨rfl,by simp⟩
 | c :: r=>by
  by_cases hc : c = 10
  ·subst hc
   exact .inr ⟨[],r,rfl,by simp,by simp [Lib.index]⟩
  ·rcases cy6 r with ⟨h1,h2⟩ | ⟨p,q,rfl,h2,h3⟩
   ·refine .inl ⟨?_,?_⟩
    ·have : ¬ (10 : UInt8) = c:=fun e=>hc e.symm
     simp [Lib.index,this,h1]
    ·intro x hx
     rcases List.mem_cons.1 hx with rfl | hx
     ·exact hc
     ·exact h2 x hx
   ·refine .inr ⟨c :: p,q,rfl,?_,?_⟩
    ·intro x hx
     rcases List.mem_cons.1 hx with rfl | hx
     ·exact hc
     ·exact h2 x hx
    ·have : ¬ (10 : UInt8) = c:=fun e=>hc e.symm
     simp [Lib.index,this,h3]
theorem ci2 (p r : List UInt8) (h : Lib.index (p ++ 10 :: r) [10] = p.length) : Lib.count (p ++ 10 :: r) [10] = Lib.count r [10] + 1:=by
 rw [Lib.count_hit (by simp) h]
 have e : (p ++ 10 :: r).drop (p.length + ([10] : List UInt8).length) = r:=by
  rw [List.drop_append,List.drop_eq_nil_of_le (by simp)]
  simp
 rw [e,Nat.add_comm]
theorem cE4 : ∀ (n : Nat) (l : List UInt8),l.length ≤ n → Lib.splitK [10] 0 (Lib.count l [10]) l = cutL l:=by
 intro n
 induction n with
 | zero =>
  intro l hl
  have : l = []:=List.eq_nil_of_length_eq_zero (by omega)
  subst this
  rfl
 | succ n ih =>
  intro l hl
  rcases cy6 l with ⟨h1,h2⟩ | ⟨p,q,rfl,h2,h3⟩
  ·rw [Lib.count_miss h1,b30 l h2]
   rfl
  ·rw [ci2 p q h3,ci0 p q h2,← ih q (by simp at hl; omega)]
   have e : (p ++ 10 :: q).drop (p.length + ([10] : List UInt8).length) = q:=by
    rw [List.drop_append,List.drop_eq_nil_of_le (by simp)]
    simp
   have hm : ¬ (Lib.index (p ++ 10 :: q) [10] == -1) = true:=fun e=>by have:=beq_iff_eq.1 e; omega
   rw [Lib.splitK,if_neg hm,h3,Int.toNat_natCast,e]
   simp
theorem cE0 (s : ByteArray) : (Lib.splitB ⟨#[10]⟩ 0 (Lib.countB s ⟨#[10]⟩) s).map (·.data.toList) = cutL s.data.toList:=by
 rw [Lib.splitB_data]
 exact cE4 _ _ (Nat.le_refl _)
def lines (s : ByteArray) : List ByteArray:=Lib.splitB ⟨#[10]⟩ 0 (Lib.countB s ⟨#[10]⟩) s
theorem co9 (s : ByteArray) : (lines s).map (·.data.toList) = cutL s.data.toList:=cE0 s
theorem cr7 (s : ByteArray) : (lines s).length = Lib.countB s ⟨#[10]⟩ + 1:=Lib.splitB_all _ (by decide) 0 _ s rfl
open Go.RowKit
theorem cq9 : ∀ l : List UInt8,(cutL l).length ≤ l.length + 1
 | []=>Nat.le_refl _
 | c :: r=>by
  have ih:=cq9 r
  unfold cutL
  split
  ·simp only [List.length_cons]; omega
  ·split <;> rename_i h <;> rw [h] at ih <;> simp only [List.length_cons,List.length_nil] at * <;> omega
theorem cj8 {args : List AV} {S : AS} {x : AE} {r : Upd} (h : aR0 args S = some (x,r)) {G : Gh} {w : World} {B : Nat → Nat} {args' : List Value} (hW : WRel G S w B) (ha : CRel G args args') :
  Calls Tryz.prog 55 args'.toArray w fun e w'=>∃ G',AE.rel G' x e ∧ WRel G' (S.after r) w' B ∧ Mod G S w G' (S.after r) w':=by
 unfold aR0 at h
 split at h
 case h_2=>cases h
 rename_i s sep
 split at h
 case isFalse=>cases h
 rename_i hc
 obtain ⟨rfl,hsz⟩:=hc
 cases h
 obtain ⟨v0,v1,hv,hr0,hr1⟩ : ∃ v0 v1,args' = [v0,v1] ∧ VRel G (.lit (.string s)) v0 ∧ VRel G (.lit (.string ⟨#[10]⟩)) v1:=by
  match args',ha with
  | [],ha=>exact absurd ha.1 (by simp)
  | [_],ha=>exact absurd ha.1 (by simp)
  | [v0,v1],ha=>exact ⟨v0,v1,rfl,ha.head,ha.tail.head⟩
  | _ :: _ :: _ :: _,ha=>exact absurd ha.1 (by simp)
 subst hv
 rw [hr0.am3,hr1.am3]
 obtain ⟨mv,k1,m,rfl⟩:=hW.far.2 (0,0,fun v=>∃ m,v = .int .i64 m) (by first | exact List.mem_singleton.2 rfl | exact List.mem_cons_of_mem _ (List.mem_singleton.2 rfl))
 have hm:=hW.imm _ _ _ k1
 refine (Tryz.strings_Split s ⟨#[10]⟩ m w hsz hm (by decide)).mono ?_
 rintro e w' ⟨rfl,rfl⟩
 obtain ⟨G',m1,m2,m3⟩:=hW.newImm ((lines s).map Value.string) 9
 refine ⟨G',⟨_,rfl,?_⟩,m1,m2⟩
 have hl:=cr7 s
 rw [← hl]
 have hlen : ((cutL s.data.toList).map fun l=>[AV.lit (.string ⟨l.toArray⟩)]).length = (lines s).length:=by rw [List.length_map,← co9,List.length_map]
 have hmost : (lines s).length ≤ s.size + 1:=by
  rw [← hlen,List.length_map]
  exact cq9 _
 have hget : ∀ (i : Nat) (l : List UInt8),(cutL s.data.toList)[i]? = some l → ((lines s).map Value.string)[i]? = some (.string ⟨l.toArray⟩):=fun i l hi=>by
  rw [← co9,List.getElem?_map] at hi
  obtain ⟨b,hb,rfl⟩:=Option.map_eq_some_iff.1 hi
  rw [List.getElem?_map,hb]
  rfl
 have:=VRel.list (G:=G') .full 1 ((cutL s.data.toList).map fun l=>[AV.lit (.string ⟨l.toArray⟩)]) w.heap.size 0 (lines s).length (fun i _=>(((lines s).map Value.string)[i]?).getD undef) (Nat.le_of_eq hlen) (by unfold maxLen; omega)
  (fun e he=>by obtain ⟨l,_,rfl⟩:=List.mem_map.1 he; rfl)
  (fun i j hi hj=>by
   obtain rfl : j = 0:=by omega
   rw [Nat.mul_one,Nat.add_zero,Nat.zero_add]
   have hi' : i < ((lines s).map Value.string).length:=by rw [List.length_map]; omega
   rw [m3 i _ (List.getElem?_eq_getElem hi'),List.getElem?_eq_getElem hi']
   rfl)
  (fun i j e a he hj=>by
   rw [List.getElem?_map] at he
   obtain ⟨l,hl',rfl⟩:=Option.map_eq_some_iff.1 he
   have hj0 : j = 0:=by
    have:=(List.getElem?_eq_some_iff.1 hj).1
    simp at this
    exact this
   subst hj0
   simp at hj
   subst hj
   rw [hget i l hl']
   exact .lit _)
  (by rw [hlen]; exact rfl)
 rw [hlen] at this
 exact this
open Go.RowKit Go.Maps Go.Sort Go.Shelf
theorem sortsAt (m : Nat) : AnyZ.SortsIn Tryz.prog Tryz.slicesSorted_ren Fence.wide m :=
  ⟨fun blk off cap ss W hH hblk hsz=>callsIn_wide.2 (AnyM.slices_Sort_string Tryz.slicesSort blk off cap ss W hH hblk hsz),
   fun p cap W=>callsIn_wide.2 (AnyM.slices_Sort_string_none Tryz.slicesSort p cap W)⟩
theorem keys_any (mb : Option Nat) (W : World) : Calls Tryz.prog 110 #[.map mb] W fun e w' =>
  e = .returned (.func (.func 158) #[] #[.pointer (some ⟨W.heap.size,0,none⟩)]) ∧ w' = W.alloc (.cells #[.map mb] 94) :=
 callsIn_wide.1 (AnyZ.keys_in Tryz.mapsKeys Fence.wide 5 trivial rfl mb W)
set_option maxHeartbeats 1000000 in
theorem cP4 {H : Type} (b nn : Nat) (D0 : DataW H) (R : Value → Option (DataW H × List MemPlace)) (w : World) (hown : w.ownsMap Tryz.prog 9 R b nn D0) (hmax : Maps.size D0 ≤ maxLen) (hbytes : Maps.size D0 * 16 ≤ 140737488355328) :
  Calls Tryz.prog 109 #[.func (.func 158) #[] #[.pointer (some ⟨w.heap.size,0,none⟩)]] (w.alloc (.cells #[.map (some b)] 94)) fun e w' =>
   ∃ (v : Value) (ss : List (List UInt8)),e = .returned v ∧ ss.Perm (strKeys D0) ∧
   w'.ownsRow (w.alloc (.cells #[.map (some b)] 94)).heap.size 9 1 v ss.length ((ss.mergeSort (fun x y=>decide (x ≤ y))).map encStr) ∧ Below (w.alloc (.cells #[.map (some b)] 94)).heap.size (w.alloc (.cells #[.map (some b)] 94)) w':=by
 have hbl:=hown.lt
 have hseq : SeqGives Fence.wide 2 Tryz.prog 158 #[.pointer (some ⟨w.heap.size,0,none⟩)] encStr (fun ss=>ss.Perm (strKeys D0)) (Maps.size D0) (w.alloc (.cells #[.map (some b)] 94)) :=
  AnyZ.keys_gives (ρ:=Tryz.mapsKeys_ren) { Tryz.mapsKeys with } Fence.wide _ trivial rfl (by omega) w.heap.size b nn D0 _ (by simp) (by simp) (by
   obtain ⟨es,clock,hb,Ft,hs,hD⟩:=hown
   exact ⟨es,clock,(Below.heap_alloc _ _ b hbl).trans hb,Ft,hs,hD⟩)
 have h:=callsIn_wide.1 (AnyZ.sorted_in Tryz.slicesSorted Fence.wide 5 trivial trivial trivial trivial rfl (by omega) (sortsAt _) (enters_of Tryz.func56 (by kernel_rfl) rfl) 158 #[.pointer (some ⟨w.heap.size,0,none⟩)] trivial (enters_of Tryz.func158 (by kernel_rfl) rfl) _ _ hmax hbytes _ hseq)
 refine h.mono ?_
 rintro e w' ⟨v,ss,h1,h2,h3,_,h5⟩
 exact ⟨v,ss,h1,h2,h3,h5⟩
def tokR (v : Value) : Option (DataW Value × List MemPlace):=some (.held v,[])
theorem row_none {w : World} {b : Nat} {e : TypeId} {v : Value} {us : List Value} (h : w.ownsRow b e 1 v 0 us) : ∃ ao cap,v = .slice ao 0 cap:=by
 rcases h.2 with ⟨rfl,_⟩ | ⟨g,cap,cur,rfl,_⟩ <;> exact ⟨_,_,rfl⟩
theorem cZ0 {ss : List (List UInt8)} (h : ss.Perm (strKeys (DataW.map ([] : List (Lit × DataW Value))))) : ss = []:=by
 have:=h.length_eq
 simp [strKeys] at this
 exact this
set_option maxRecDepth 100000 in
set_option maxHeartbeats 2000000 in
theorem c56 (b q : Nat) (w : World) (hc : w.cell? ⟨b,0,none⟩ = some (.map (some q))) (hq : w.ownsMap Tryz.prog 9 tokR q 0 (.map [])) :
  Calls Tryz.prog 71 #[.pointer (some ⟨b,0,none⟩)] w fun e w'=>e = .returned (.slice none 0 0) ∧ Below w.heap.size w w':=by
 have HOWN:=Lib.hid hq
 clear hq
 go_enter Tryz.func71,Tryz.ntmps71
 go_wp2_with (first
  | (go_at_call 110; refine (keys_any _ _).mono ?_; rintro e w' ⟨rfl,rfl⟩)
  | (go_at_call 109; refine (cP4 q 0 _ tokR w HOWN.out (by decide) (by decide)).mono ?_; rintro e w1 ⟨v1,ss,rfl,hperm,hrow,hb1⟩; obtain rfl:=cZ0 hperm; obtain ⟨ao,cap,rfl⟩:=row_none hrow; have HBN : Hid (Below w.heap.size w w1):=((Below.refl _ w).alloc (Nat.le_refl _) _).trans (hb1.mono (by simp)); clear hrow hb1 hperm))
 go_loopw [3,13] (fun out i wr=>out = .slice none 0 0 ∧ i = .int .i64 0 ∧ Below w1.heap.size w1 wr) (fun _ _ _=>0)
 case atStart=>exact ⟨rfl,rfl,Below.refl _ _⟩
 case round =>
  obtain ⟨rfl,rfl,hb⟩:=hrel
  have HBW : Hid (Below w.heap.size w wr):=HBN.out.trans (hb.mono HBN.out.size)
  go_wp2
  go_ret
  exact ⟨rfl,HBW.out⟩
theorem cg9 {args : List AV} {S : AS} {x : AE} {r : Upd} (h : aR1 args S = some (x,r)) {G : Gh} {w : World} {B : Nat → Nat} {args' : List Value} (hW : WRel G S w B) (ha : CRel G args args') :
  Calls Tryz.prog 71 args'.toArray w fun e w'=>∃ G',AE.rel G' x e ∧ WRel G' (S.after r) w' B ∧ Mod G S w G' (S.after r) w':=by
 unfold aR1 at h
 split at h
 case h_2=>cases h
 rename_i p g
 split at h
 case h_2=>cases h
 rename_i g' t q k hp
 split at h
 case h_2=>cases h
 rename_i k' ck hq
 split at h
 case isFalse=>cases h
 rename_i hc
 obtain ⟨rfl,rfl⟩:=hc
 cases h
 obtain ⟨v,hv,hr⟩ : ∃ v,args' = [v] ∧ VRel G (.ptr p g' 0 0) v:=by
  match args',ha with
  | [],ha=>exact absurd ha.1 (by simp)
  | [v],ha=>exact ⟨v,rfl,ha.head⟩
  | _ :: _ :: _,ha=>exact absurd ha.1 (by simp)
 subst hv
 cases hr with
 | ptr _ _ _ _ b c ho =>
  obtain ⟨_,vs,fr,h1,h2,h3⟩:=hW.slot p _ hp rfl b c ho
  obtain ⟨v0,hv0,hr0⟩ : ∃ v0,vs.toList = [v0] ∧ VRel G (.mref q k') v0:=by
   match hl : vs.toList,h3 with
   | [],h3=>exact absurd h3.1 (by simp)
   | [v0],h3=>exact ⟨v0,rfl,h3.head⟩
   | _ :: _ :: _,h3=>exact absurd h3.1 (by simp)
  cases hr0 with
  | mref _ _ b2 c2 ho2 =>
   obtain ⟨ents,k1,k2⟩:=hW.slot q _ hq rfl b2 c2 ho2
   have he : ents = #[]:=by
    cases hE : ents.toList with
    | nil=>exact Array.toList_eq_nil_iff.1 hE
    | cons a l=>rw [hE] at k2; cases k2
   subst he
   have hcell : w.cell? ⟨b,0,none⟩ = some (.map (some b2)):=by
    have : vs[0]? = some (.map (some b2)):=by rw [← Array.getElem?_toList,hv0]; rfl
    simp [World.cell?,h1,this]
   have hown : w.ownsMap Tryz.prog 9 tokR b2 0 (.map []):=⟨#[],ck,k1,⟨by simp,Go.MapKept.stamped_empty ck,by simp⟩,Nat.le_refl _,rfl⟩
   refine (c56 b b2 w hcell hown).mono ?_
   rintro e w' ⟨rfl,hb⟩
   obtain ⟨m1,m2⟩:=hW.below hb
   exact ⟨G,⟨_,rfl,.lit _⟩,m1,m2⟩
open Go.RowKit
theorem ck4 : Tryz.prog.follows .mixedOrders = true:=by kernel_rfl
theorem cfgOk : bW2 Tryz.prog:=⟨fun f hf v w=>by
 have hm : f ∈ sameL:=List.contains_iff_mem.1 hf
 simp only [sameL,List.mem_singleton] at hm
 subst hm
 have h1 : (Tryz.f153.name == "runtime.NumGoroutine") = false := by kernel_rfl
 have h2 : Tryz.f153.body.isNone = true:=by kernel_rfl
 have h3 : Extern.findNext Tryz.f153 = none:=by kernel_rfl
 have h4 : Extern.find Tryz.f153 = some Extern.AbiNoEscape.same:=by kernel_rfl
 have h5:=Go.Lib.run_noEscape (P:=Tryz.prog) w v
 have h6 : ¬ Tryz.f153.name = "runtime.NumGoroutine" := by simpa using h1
 simp [callFunc,Tryz.func153,h6,Option.isNone_iff_eq_none.1 h2,h3,h4,h5]⟩
def entered (P : Program) (f : FuncId) : Bool:=match P.funcs[f]? with
 | some fn => fn.body.isSome && !(fn.name == "runtime.NumGoroutine")
 | none=>false
theorem cP7 {P : Program} {f : FuncId} (h : entered P f = true) (args : List Value) (w : World) : (callFunc f args.toArray).run P w = .ok (.enter f args.toArray) w:=by
 unfold entered at h
 cases hf : P.funcs[f]? with
 | none=>rw [hf] at h; cases h
 | some fn =>
  rw [hf] at h
  simp only [Bool.and_eq_true,Bool.not_eq_true'] at h
  obtain ⟨c,hc⟩:=Option.isSome_iff_exists.1 h.1
  exact run_callFunc_enter hf hc h.2 _ w
theorem aR8 {P : Program} {f : FuncId} (h : entered P f = true) (args : Array Value) (w : World) : (callFunc f args).run P w = .ok (.enter f args) w:=by
 have:=cP7 h args.toList w
 simpa using this
theorem givenOk : b54 Tryz.prog where
 sound f h hf:=by
  by_cases h1 : a01.contains f = true
  ·have hm : f ∈ a01:=List.contains_iff_mem.1 h1
   simp only [a01,List.mem_singleton] at hm
   subst hm
   cases hf
   exact fun args S x r hx=>⟨fun args' w=>aR8 (by kernel_rfl) args' w,fun G w B args' hW ha=>b77 Tryz.lays169 Tryz.Builder_Extra_169 hx hW ha⟩
  ·by_cases h2 : bN2.contains f = true
   ·have hm : f ∈ bN2:=List.contains_iff_mem.1 h2
    simp only [bN2,List.mem_singleton] at hm
    subst hm
    cases hf
    exact fun args S x r hx=>⟨fun args' w=>aR8 (by kernel_rfl) args' w,fun G w B args' hW ha=>ce0 Tryz.mapsClone hx hW ha⟩
   ·by_cases h3 : tzL.contains f = true
    ·have hm : f ∈ tzL:=List.contains_iff_mem.1 h3
     simp only [tzL,List.mem_singleton] at hm
     subst hm
     cases hf
     exact fun args S x r hx=>⟨fun args' w=>aR8 (by kernel_rfl) args' w,fun G w B args' hW ha=>cS6 hx hW ha⟩
    ·by_cases h4 : splL.contains f = true
     ·have hm : f ∈ splL:=List.contains_iff_mem.1 h4
      simp only [splL,List.mem_singleton] at hm
      subst hm
      cases hf
      exact fun args S x r hx=>⟨fun args' w=>aR8 (by kernel_rfl) args' w,fun G w B args' hW ha=>cj8 hx hW ha⟩
     ·by_cases h5 : lstL.contains f = true
      ·have hm : f ∈ lstL:=List.contains_iff_mem.1 h5
       simp only [lstL,List.mem_singleton] at hm
       subst hm
       cases hf
       exact fun args S x r hx=>⟨fun args' w=>aR8 (by kernel_rfl) args' w,fun G w B args' hW ha=>cg9 hx hW ha⟩
      ·have : Cfg.given f = none:=by
        show (if a01.contains f then _ else if bN2.contains f then _ else if tzL.contains f then _ else if splL.contains f then _ else if lstL.contains f then _ else _) = _
        rw [if_neg h1,if_neg h2,if_neg h3,if_neg h4,if_neg h5]
       rw [this] at hf
       cases hf
 here f h hf args S x t l hx p hp:=by
  by_cases h1 : a01.contains f = true
  ·have hm : f ∈ a01:=List.contains_iff_mem.1 h1
   simp only [a01,List.mem_singleton] at hm
   subst hm
   cases hf
   exfalso
   unfold aB8 at hx
   split at hx
   ·split at hx
    ·split at hx
     ·split at hx
      ·obtain ⟨_,_,h3⟩:=Option.map_eq_some_iff.1 hx
       cases h3
      ·cases hx
     ·cases hx
    ·cases hx
    ·cases hx
   ·cases hx
  ·by_cases h2 : bN2.contains f = true
   ·have hm : f ∈ bN2:=List.contains_iff_mem.1 h2
    simp only [bN2,List.mem_singleton] at hm
    subst hm
    cases hf
    unfold aQ7 at hx
    split at hx
    ·split at hx
     ·split at hx
      ·cases hx
       rename_i pp g g' es ck hget hcond
       have:=AS.ah2 S (.map 0 es ck) (p:=⟨S.lvl,0,ap9 S.lvl S.tab⟩) (q:=p) (by simpa using hp)
       exact this
      ·cases hx
     ·cases hx
    ·cases hx
   ·by_cases h3 : tzL.contains f = true
    ·have hm : f ∈ tzL:=List.contains_iff_mem.1 h3
     simp only [tzL,List.mem_singleton] at hm
     subst hm
     cases hf
     exfalso
     unfold ck9 at hx
     split at hx
     ·split at hx
      ·cases hx
      ·cases hx
     ·cases hx
    ·by_cases h4 : splL.contains f = true
     ·have hm : f ∈ splL:=List.contains_iff_mem.1 h4
      simp only [splL,List.mem_singleton] at hm
      subst hm
      cases hf
      exfalso
      unfold aR0 at hx
      split at hx
      ·split at hx
       ·cases hx
       ·cases hx
      ·cases hx
     ·by_cases h5 : lstL.contains f = true
      ·have hm : f ∈ lstL:=List.contains_iff_mem.1 h5
       simp only [lstL,List.mem_singleton] at hm
       subst hm
       cases hf
       exfalso
       unfold aR1 at hx
       split at hx
       ·split at hx
        ·split at hx
         ·split at hx
          ·cases hx
          ·cases hx
         ·cases hx
        ·cases hx
       ·cases hx
      ·have : Cfg.given f = none:=by
        show (if a01.contains f then _ else if bN2.contains f then _ else if tzL.contains f then _ else if splL.contains f then _ else if lstL.contains f then _ else _) = _
        rw [if_neg h1,if_neg h2,if_neg h3,if_neg h4,if_neg h5]
       rw [this] at hf
       cases hf
open Go.RowKit
theorem cE1 : al9 Tryz.prog 400 F.aL2 [] .bare = some (.ret (.lit (.bool true)),none):=by kernel_rfl
open Go.RowKit
theorem cE5 : al9 Tryz.prog 400 F.aS0 [] .bare = some (.ret (.lit (.bool true)),none):=by kernel_rfl
open Go.RowKit
mutual
theorem as6 {l : Nat} : ∀ {a : AV},a.closed = true → AV.deep l a = []
 | .lit _,_=>rfl
 | .agg cs,h=>by simp only [AV.closed] at h; simp only [AV.deep]; exact aC1 h
 | .tup cs,h=>by simp only [AV.closed] at h; simp only [AV.deep]; exact aC1 h
 | .cref cs,h=>by simp only [AV.closed] at h; simp only [AV.deep]; exact aC1 h
 | .fn _ cs,h=>by simp only [AV.closed] at h; simp only [AV.deep]; exact aC1 h
 | .iface _ x,h=>by simp only [AV.closed] at h; simp only [AV.deep]; exact as6 h
 | .list sp _ es,h=>by
  simp only [AV.closed,Bool.and_eq_true] at h
  simp only [AV.deep,aq3 h.2,List.append_nil]
  cases sp with
  | own p g=>cases h.1
  | _=>rfl
 | .ptr ..,h=>by cases h
 | .row ..,h=>by cases h
 | .mref ..,h=>by cases h
theorem aC1 {l : Nat} : ∀ {a : List AV},AV.af2 a = true → AV.an2 l a = []
 | [],_=>rfl
 | a :: r,h=>by
  simp only [AV.af2,Bool.and_eq_true] at h
  simp only [AV.an2,as6 h.1,aC1 h.2,List.append_nil]
theorem aq3 {l : Nat} : ∀ {a : List (List AV)},AV.aj0 a = true → AV.cM5 l a = []
 | [],_=>rfl
 | a :: r,h=>by
  simp only [AV.aj0,Bool.and_eq_true] at h
  simp only [AV.cM5,aC1 h.1,aq3 h.2,List.append_nil]
end
mutual
theorem aX5 {l : Nat} {S : AS} {N : Names} : ∀ {a : AV},a.closed = true → ren l S N a = some a
 | .lit _,_=>by simp only [ren]
 | .agg cs,h=>by simp only [AV.closed] at h; simp only [ren,aJ4 h,Option.map_some]
 | .tup cs,h=>by simp only [AV.closed] at h; simp only [ren,aJ4 h,Option.map_some]
 | .cref cs,h=>by simp only [AV.closed] at h; simp only [ren,aJ4 h,Option.map_some]
 | .fn _ cs,h=>by simp only [AV.closed] at h; simp only [ren,aJ4 h,Option.map_some]
 | .iface _ x,h=>by simp only [AV.closed] at h; simp only [ren,aX5 h,Option.map_some]
 | .list sp _ es,h=>by
  simp only [AV.closed,Bool.and_eq_true] at h
  simp only [ren,aC9 h.2,Option.map_some]
  cases sp with
  | own p g=>cases h.1
  | _=>rfl
 | .ptr ..,h=>by cases h
 | .row ..,h=>by cases h
 | .mref ..,h=>by cases h
theorem aJ4 {l : Nat} {S : AS} {N : Names} : ∀ {a : List AV},AV.af2 a = true → renL l S N a = some a
 | [],_=>by simp only [renL]
 | a :: r,h=>by
  simp only [AV.af2,Bool.and_eq_true] at h
  simp only [renL,aX5 h.1,aJ4 h.2]
theorem aC9 {l : Nat} {S : AS} {N : Names} : ∀ {a : List (List AV)},AV.aj0 a = true → b06 l S N a = some a
 | [],_=>by simp only [b06]
 | a :: r,h=>by
  simp only [AV.aj0,Bool.and_eq_true] at h
  simp only [b06,aJ4 h.1,aC9 h.2]
end
theorem before_trans {a b c : Loc} (h : a.before b = true) (h' : b.before c = true) : a.before c = true:=by
 simp only [Loc.before,Bool.or_eq_true,Bool.and_eq_true,decide_eq_true_eq] at *
 omega
theorem cR4 {a b : Loc} (h : a ≠ b) (h' : ¬ a.before b = true) : b.before a = true:=by
 have hne : ¬ (a.l = b.l ∧ a.k = b.k ∧ a.i = b.i):=fun ⟨h1,h2,h3⟩=>h (by cases a; cases b; simp only at h1 h2 h3; subst h1; subst h2; subst h3; rfl)
 simp only [Loc.before,Bool.or_eq_true,Bool.and_eq_true,decide_eq_true_eq] at *
 omega
theorem cN4 {a : Loc} : ¬ a.before a = true:=by
 simp only [Loc.before,Bool.or_eq_true,Bool.and_eq_true,decide_eq_true_eq]
 omega
abbrev ar4 (l : List Loc) : Prop:=l.Pairwise fun a b=>a.before b = true
theorem ar4.put : ∀ {l : List Loc} {p : Loc},ar4 l → ar4 (av6 l p)
 | [],p,_=>by simp [av6,ar4]
 | q :: r,p,h=>by
  unfold av6
  split
  ·exact h
  ·rename_i hne
   have h:=List.pairwise_cons.1 h
   split
   ·rename_i hb
    refine List.pairwise_cons.2 ⟨fun x hx=>?_,ar4.put h.2⟩
    rcases af8.1 hx with hx | rfl
    ·exact h.1 x hx
    ·exact hb
   ·rename_i hb
    have hpq:=cR4 hne hb
    refine List.pairwise_cons.2 ⟨fun x hx=>?_,List.pairwise_cons.2 h⟩
    rcases List.mem_cons.1 hx with rfl | hx
    ·exact hpq
    ·exact before_trans hpq (h.1 x hx)
theorem ar4.merge : ∀ {m l : List Loc},ar4 l → ar4 (aP4 l m)
 | [],l,h=>h
 | p :: r,l,h=>ar4.merge (m:=r) h.put
theorem ar4.nodup {l : List Loc} (h : ar4 l) : l.Nodup:=List.Pairwise.imp (R:=fun a b=>a.before b = true) (S:=fun a b=>a ≠ b) (fun {a b} hab e=>by subst e; exact cN4 hab) h
theorem cw6 {α : Type} [DecidableEq α] : ∀ {l m : List α},l.Nodup → (∀ x ∈ l,x ∈ m) → l.length ≤ m.length
 | [],m,_,_=>Nat.zero_le _
 | a :: r,m,h,hs=>by
  have h:=List.nodup_cons.1 h
  have ha:=hs a (List.mem_cons_self ..)
  have:=cw6 (l:=r) (m:=m.erase a) h.2 fun x hx=>(List.mem_erase_of_ne (fun e=>by subst e; exact h.1 hx)).2 (hs x (List.mem_cons_of_mem _ hx))
  rw [List.length_erase_of_mem ha] at this
  have hm : 0 < m.length:=List.length_pos_of_mem ha
  simp only [List.length_cons]
  omega
theorem bn9 {l : Nat} {S : AS} : ∀ (n : Nat) (D seen : List Loc),D.length < n → (∀ d ∈ D,∃ h m sz e,S.get d = some (.tok h m sz e)) → ar4 seen → (∀ p,p ∈ reached l S n D seen ↔ p ∈ D ∨ p ∈ seen) ∧ ar4 (reached l S n D seen)
 | 0,D,seen,h,_,_=>by omega
 | n + 1,[],seen,_,_,hs=>by
  unfold reached
  exact ⟨fun p=>by simp,hs⟩
 | n + 1,d :: r,seen,h,hD,hs=>by
  simp only [List.length_cons] at h
  obtain ⟨g,m,sz,e,hd⟩:=hD d (List.mem_cons_self ..)
  have hr:=fun x hx=>hD x (List.mem_cons_of_mem _ hx)
  unfold reached
  split
  ·rename_i hc
   obtain ⟨k1,k2⟩:=bn9 n r seen (by omega) hr hs
   refine ⟨fun p=>?_,k2⟩
   rw [k1]
   have:=List.contains_iff_mem.1 hc
   simp only [List.mem_cons]
   constructor
   ·rintro (h | h)
    ·exact .inl (.inr h)
    ·exact .inr h
   ·rintro ((rfl | h) | h)
    ·exact .inr this
    ·exact .inl h
    ·exact .inr h
  ·simp only [hd,ae1.deep,List.nil_append]
   obtain ⟨k1,k2⟩:=bn9 n r (av6 seen d) (by omega) hr hs.put
   refine ⟨fun p=>?_,k2⟩
   rw [k1,af8]
   simp only [List.mem_cons]
   constructor
   ·rintro (h | h | rfl)
    ·exact .inl (.inr h)
    ·exact .inr h
    ·exact .inl (.inl rfl)
   ·rintro ((rfl | h) | h)
    ·exact .inr (.inr rfl)
    ·exact .inl h
    ·exact .inr (.inl h)
theorem aC2 (l : Nat) : ∀ t : Tab,1 ≤ ap9 l t
 | []=>Nat.le_refl _
 | (q,s) :: r=>by
  unfold ap9
  split
  ·exact Nat.le_trans (aC2 l r) (Nat.le_max_right ..)
  ·exact aC2 l r
theorem aE4 {l : Nat} : ∀ {t : Tab} {j : Nat},ap9 l (t.cut l) ≤ j → t.get ⟨l,0,j⟩ = none
 | [],j,_=>rfl
 | (q,s) :: r,j,h=>by
  unfold Tab.cut at h
  unfold Tab.get
  split at h
  ·rename_i hq
   unfold ap9 at h
   split at h
   ·rw [if_neg (fun e=>by subst e; simp only at h; omega)]
    exact aE4 (by omega)
   ·rename_i hk
    rw [if_neg (fun e=>hk (by subst e; exact ⟨rfl,rfl⟩))]
    exact aE4 h
  ·rename_i hq
   rw [if_neg (fun e=>hq (by subst e; exact Nat.le_refl _))]
   exact aE4 h
theorem a98 {l : Nat} : ∀ {D : List Loc} {j : Nat} {p q : Loc} {g : Nat},(p,q,g) ∈ aK4 l j D → p ∈ D ∧ g = 0 ∧ ∃ i,j ≤ i ∧ q = ⟨l,0,i⟩
 | [],_,_,_,_,h=>by cases h
 | d :: r,j,p,q,g,h=>by
  unfold aK4 at h
  rcases List.mem_cons.1 h with h | h
  ·cases h
   exact ⟨List.mem_cons_self ..,rfl,j,Nat.le_refl _,rfl⟩
  ·obtain ⟨h1,h2,i,h3,h4⟩:=a98 h
   exact ⟨List.mem_cons_of_mem _ h1,h2,i,by omega,h4⟩
theorem bB4 {l : Nat} : ∀ {D : List Loc} {j : Nat},(aK4 l j D).map (·.1) = D
 | [],_=>rfl
 | d :: r,j=>by simp [aK4,bB4]
theorem bq4 : ∀ {l : List Loc},l.Nodup → nodupB l = true
 | [],_=>rfl
 | p :: r,h=>by
  have h:=List.nodup_cons.1 h
  unfold nodupB
  rw [bq4 h.2,Bool.and_true,Bool.not_eq_true']
  cases hc : r.contains p with
  | false=>rfl
  | true=>exact absurd (List.contains_iff_mem.1 hc) h.1
theorem a00 {l : Nat} : ∀ {D : List Loc} {j : Nat},((aK4 l j D).map (·.2.1)).Nodup
 | [],_=>by simp [aK4]
 | d :: r,j=>by
  simp only [aK4,List.map_cons]
  refine List.nodup_cons.2 ⟨fun h=>?_,a00⟩
  obtain ⟨⟨p,q,g⟩,h1,h2⟩:=List.mem_map.1 h
  obtain ⟨_,_,i,h3,h4⟩:=a98 h1
  simp only at h2
  rw [h4] at h2
  have:=(Loc.mk.inj h2).2.2
  omega
theorem Names.get_of {N : Names} : ∀ {p : Loc},p ∈ N.map (·.1) → ∃ q g,N.get p = some (q,g):=by
 induction N with
 | nil=>intro p h; cases h
 | cons x r ih =>
  obtain ⟨a,b,c⟩:=x
  intro p h
  unfold Names.get
  by_cases e : a = p
  ·exact ⟨b,c,if_pos e⟩
  ·rw [if_neg e]
   simp only [List.map_cons,List.mem_cons] at h
   exact ih (h.resolve_left fun h=>e h.symm)
inductive Cl (S : AS) (l : Nat) : AV → Prop
 | c {a : AV} : a.closed = true → Cl S l a
 | p {p : Loc} {g n o : Nat} : p.l ≤ l → Cl S l (.ptr p g n o)
 | t {q : Loc} {h sz : Nat} {ys : List (List AV)} : AV.aj0 ys = true → q.l ≤ l → Cl S l (.list (.own q h) sz ys)
 | d {q : Loc} {h sz e : Nat} {ys : List (List AV)} : AV.aj0 ys = true → l < q.l → S.get q = some (.tok h ys.length sz e) → Cl S l (.list (.own q h) sz ys)
 | r {sp : Room} {p : Loc} {g n o len sz : Nat} : p.l ≤ l → Cl S l (.row sp p g n o len sz)
 | m {p : Loc} {g : Nat} : p.l ≤ l → Cl S l (.mref p g)
def renA (l : Nat) (ρ : Loc → Loc) : AV → AV
 | .list (.own q h) sz ys=>if q.l ≤ l then .list (.own q h) sz ys else .list (.own (ρ q) 0) sz ys
 | a=>a
theorem Cl.deep {S : AS} {l : Nat} {a : AV} (h : Cl S l a) : (∀ d ∈ AV.deep l a,l < d.l ∧ ∃ h m sz e,S.get d = some (.tok h m sz e)) ∧ (AV.deep l a).length ≤ 1:=by
 cases h with
 | c h=>rw [as6 h]; exact ⟨fun _ h=>(nomatch h),Nat.zero_le _⟩
 | p h=>simp only [AV.deep,if_pos h]; exact ⟨fun _ h=>(nomatch h),Nat.zero_le _⟩
 | r h=>simp only [AV.deep,if_pos h]; exact ⟨fun _ h=>(nomatch h),Nat.zero_le _⟩
 | m h=>simp only [AV.deep,if_pos h]; exact ⟨fun _ h=>(nomatch h),Nat.zero_le _⟩
 | t h h'=>simp only [AV.deep,if_pos h',aq3 h,List.append_nil]; exact ⟨fun _ h=>(nomatch h),Nat.zero_le _⟩
 | d h h' hs =>
  simp only [AV.deep,if_neg (Nat.not_le.2 h'),aq3 h,List.append_nil]
  exact ⟨fun d hd=>by
   rw [List.mem_singleton.1 hd]
   exact ⟨h',_,_,_,_,hs⟩,Nat.le_refl _⟩
theorem Cl.ren {S : AS} {l : Nat} {N : Names} {ρ : Loc → Loc} {a : AV} (h : Cl S l a) (hN : ∀ d ∈ AV.deep l a,N.get d = some (ρ d,0)) : ren l S N a = some (renA l ρ a):=by
 cases h with
 | c h =>
  rw [aX5 h]
  cases a with
  | list sp sz ys =>
   cases sp with
   | own p g=>cases h
   | _=>rfl
  | _=>rfl
 | p h=>simp only [YtbinfgmdamlkbaaGreatDoor.ren,if_pos h]; rfl
 | r h=>simp only [YtbinfgmdamlkbaaGreatDoor.ren,if_pos h]; rfl
 | m h=>simp only [YtbinfgmdamlkbaaGreatDoor.ren,if_pos h]; rfl
 | t h h'=>simp only [YtbinfgmdamlkbaaGreatDoor.ren,aC9 h,Option.map_some,renA,if_pos h']
 | d h h' hs =>
  rename_i q g sz e ys
  have hm : q ∈ AV.deep l (.list (.own q g) sz ys):=by
   simp only [AV.deep,if_neg (Nat.not_le.2 h'),aq3 h,List.append_nil,List.mem_singleton]
  have:=hN q hm
  simp only [YtbinfgmdamlkbaaGreatDoor.ren,aC9 h,Option.map_some,renA,if_neg (Nat.not_le.2 h'),this,hs,and_self,if_true]
theorem cg2 {S : AS} {l : Nat} : ∀ {cs : List AV},(∀ a ∈ cs,Cl S l a) → (∀ d ∈ AV.an2 l cs,l < d.l ∧ ∃ h m sz e,S.get d = some (.tok h m sz e)) ∧ (AV.an2 l cs).length ≤ cs.length
 | [],_=>⟨fun _ h=>(nomatch h),Nat.zero_le _⟩
 | a :: r,h=>by
  obtain ⟨k1,k2⟩:=(h a (List.mem_cons_self ..)).deep
  obtain ⟨k3,k4⟩:=cg2 (cs:=r) fun x hx=>h x (List.mem_cons_of_mem _ hx)
  simp only [AV.an2,List.length_append,List.length_cons]
  refine ⟨fun d hd=>?_,by omega⟩
  rcases List.mem_append.1 hd with hd | hd
  ·exact k1 d hd
  ·exact k3 d hd
theorem cX8 {S : AS} {l : Nat} {N : Names} {ρ : Loc → Loc} : ∀ {cs : List AV},(∀ a ∈ cs,Cl S l a) → (∀ d ∈ AV.an2 l cs,N.get d = some (ρ d,0)) → renL l S N cs = some (cs.map (renA l ρ))
 | [],_,_=>by simp only [renL,List.map_nil]
 | a :: r,h,hN=>by
  have k1:=(h a (List.mem_cons_self ..)).ren (N:=N) (ρ:=ρ) fun d hd=>hN d (by simp only [AV.an2,List.mem_append]; exact .inl hd)
  have k2:=cX8 (cs:=r) (fun x hx=>h x (List.mem_cons_of_mem _ hx)) fun d hd=>hN d (by simp only [AV.an2,List.mem_append]; exact .inr hd)
  simp only [renL,k1,k2,List.map_cons]
inductive cW6 (S : AS) (l : Nat) : ae1 → Prop
 | obj {g : Nat} {t : TypeId} {cs : List AV} : (∀ a ∈ cs,Cl S l a) → cs.length ≤ 1000 → cW6 S l (.obj g t cs)
 | tok {g n sz : Nat} {e : TypeId} : cW6 S l (.tok g n sz e)
def c73 (l : Nat) (ρ : Loc → Loc) : ae1 → ae1
 | .obj g t cs=>.obj g t (cs.map (renA l ρ))
 | s=>s
theorem cK9 {α β : Type} (f : α → List β) (k : Nat) : ∀ {l : List α},(∀ x ∈ l,(f x).length ≤ k) → (l.flatMap f).length ≤ l.length * k
 | [],_=>by simp
 | a :: r,h=>by
  have h1:=h a (List.mem_cons_self ..)
  have h2:=cK9 f k (l:=r) fun x hx=>h x (List.mem_cons_of_mem _ hx)
  simp only [List.flatMap_cons,List.length_append,List.length_cons,Nat.add_mul,Nat.one_mul]
  omega
theorem bm3 {f : Loc → ae1 → Option ae1} {S' : AS} : ∀ {ps : List Loc} {t : Tab},(∀ p ∈ ps,∃ s s',S'.get p = some s ∧ f p s = some s') → ∃ t',aE5 f S' ps t = some t'
 | [],t,_=>⟨t,rfl⟩
 | p :: r,t,h=>by
  obtain ⟨s,s',h1,h2⟩:=h p (List.mem_cons_self ..)
  unfold aE5
  simp only [h1,h2]
  exact bm3 fun x hx=>h x (List.mem_cons_of_mem _ hx)
theorem bM1 {l : Nat} {S' : AS} {N : Names} : ∀ {M : Names} {t : Tab},(∀ p q g,(p,q,g) ∈ M → ∃ h m sz e,S'.get p = some (.tok h m sz e)) → ∃ t',aD9 l S' N M t = some t'
 | [],t,_=>⟨t,rfl⟩
 | (p,q,g) :: r,t,h=>by
  obtain ⟨g',m,sz,e,h1⟩:=h p q g (List.mem_cons_self ..)
  unfold aD9
  simp only [h1,renS]
  exact bM1 fun p q g hx=>h p q g (List.mem_cons_of_mem _ hx)
theorem bZ5 [Cfg] {f : FuncId} {S S' : AS} {v : AV} (hup : Cfg.up f S.fn = true) (hv : v.closed = true) (hlog : ar4 S'.log) {W : List Loc} (hW : ∀ p ∈ S'.outs S.lvl,p ∈ W) (hWn : W.length ≤ 9)
  (hs : ∀ p ∈ S'.outs S.lvl,∃ s,S'.get p = some s ∧ cW6 S' S.lvl s) (hun : ∀ p,p.l ≤ S.lvl → p ∉ S'.outs S.lvl → S'.get p = S.get p) :
  ∃ (u : Upd) (ρ : Loc → Loc),ao2 f S S' v = some (v,u) ∧ (S.after u).lvl = S.lvl ∧ (S.after u).fn = S.fn ∧ (S.after u).dfr = S.dfr ∧
   (∀ q s,q ∈ S'.outs S.lvl → S'.get q = some s → (S.after u).get q = some (c73 S.lvl ρ s)) ∧
   (∀ q,q ∉ S'.outs S.lvl → q ∉ (u.getD ([],[])).2 → (S.after u).get q = S.get q) ∧
   (∀ q ∈ (u.getD ([],[])).2,q ∈ S'.outs S.lvl ∨ (q.l = S.lvl ∧ q.k = 0 ∧ q.i ≠ 0 ∧ S.get q = none)) ∧
   (∀ p g t cs,p ∈ S'.outs S.lvl → S'.get p = some (.obj g t cs) → ∀ q h sz ys,.list (.own q h) sz ys ∈ cs → S.lvl < q.l → ∀ m e,S'.get q = some (.tok h m sz e) →
    (ρ q).l = S.lvl ∧ (ρ q).k = 0 ∧ (ρ q).i ≠ 0 ∧ S.get (ρ q) = none ∧ (S.after u).get (ρ q) = some (.tok 0 m sz e)):=by
 have hvd:=as6 (l:=S.lvl) hv
 -- the names
 obtain ⟨D,hD⟩ : ∃ D,D = v.deep S.lvl ++ (S'.outs S.lvl).flatMap fun p=>match S'.get p with
  | some s=>s.deep S.lvl
  | none=>[]:=⟨_,rfl⟩
 have hDd : ∀ d ∈ D,S.lvl < d.l ∧ ∃ h m sz e,S'.get d = some (.tok h m sz e):=by
  intro d hd
  rw [hD,hvd,List.nil_append] at hd
  obtain ⟨p,hp,hd⟩:=List.mem_flatMap.1 hd
  obtain ⟨s,h1,h2⟩:=hs p hp
  simp only [h1] at hd
  cases h2 with
  | obj h2 _=>exact (cg2 h2).1 d hd
  | tok=>cases hd
 have hDl : D.length ≤ 9000:=by
  have h1 : (S'.outs S.lvl).length ≤ 9:=Nat.le_trans (cw6 (ar4.nodup (hlog.filter _)) hW) hWn
  have h2:=cK9 (fun p=>match S'.get p with
   | some s=>s.deep S.lvl
   | none=>[]) 1000 (l:=S'.outs S.lvl) fun p hp=>by
    obtain ⟨s,h1,h2⟩:=hs p hp
    simp only [h1]
    cases h2 with
    | obj h2 h3=>exact Nat.le_trans (cg2 h2).2 h3
    | tok=>exact Nat.zero_le _
  rw [hD,hvd,List.nil_append]
  omega
 obtain ⟨R,hR⟩ : ∃ R,R = reached S.lvl S' (D.length + S'.tab.weight S.lvl + 1) D []:=⟨_,rfl⟩
 obtain ⟨r1,r2⟩:=bn9 (l:=S.lvl) (S:=S') (D.length + S'.tab.weight S.lvl + 1) D [] (by omega) (fun d hd=>(hDd d hd).2) List.Pairwise.nil
 rw [← hR] at r1 r2
 have hRD : ∀ p,p ∈ R ↔ p ∈ D:=fun p=>by rw [r1]; simp
 obtain ⟨N,hN⟩ : ∃ N,N = aK4 S.lvl (ap9 S.lvl (S'.tab.cut S.lvl)) R:=⟨_,rfl⟩
 have hfst : N.map (·.1) = R:=by rw [hN]; exact bB4
 have hmem : ∀ p q g,(p,q,g) ∈ N → p ∈ D ∧ g = 0 ∧ q.l = S.lvl ∧ q.k = 0 ∧ q.i ≠ 0 ∧ S'.get q = none:=by
  intro p q g h
  rw [hN] at h
  obtain ⟨h1,h2,i,h3,rfl⟩:=a98 h
  have hp:=aC2 S.lvl (S'.tab.cut S.lvl)
  exact ⟨(hRD p).1 h1,h2,rfl,rfl,by simp only; omega,aE4 h3⟩
 have hok : aS1 S.lvl S' N = true:=by
  unfold aS1
  simp only [Bool.and_eq_true]
  refine ⟨⟨List.all_eq_true.2 fun x hx=>?_,?_⟩,?_⟩
  ·obtain ⟨p,q,g⟩:=x
   obtain ⟨h1,h2,h3,_,_,h4⟩:=hmem p q g hx
   obtain ⟨k1,h,m,sz,e,k2⟩:=hDd p h1
   simp [k1,h2,h3,h4,k2,ae1.live]
  ·rw [hfst]; exact bq4 r2.nodup
  ·rw [hN]; exact bq4 a00
 refine ?_
 obtain ⟨ρ,hρ⟩ : ∃ ρ : Loc → Loc,∀ d ∈ D,N.get d = some (ρ d,0):=by
  refine ⟨fun d=>((N.get d).getD (d,0)).1,fun d hd=>?_⟩
  obtain ⟨q,g,h⟩:=Names.get_of (N:=N) (p:=d) (by rw [hfst]; exact (hRD d).2 hd)
  obtain ⟨_,h2,_⟩:=hmem _ _ _ (Names.get_mem h)
  subst h2
  simp [h]
 have hsub : ∀ p ∈ S'.outs S.lvl,∀ g t cs,S'.get p = some (.obj g t cs) → ∀ d ∈ AV.an2 S.lvl cs,d ∈ D:=fun p hp g t cs h1 d hd=>by
  rw [hD]
  exact List.mem_append.2 (.inr (List.mem_flatMap.2 ⟨p,hp,by simp only [h1]; exact hd⟩))
 have hturn : ∀ p s,p ∈ S'.outs S.lvl → S'.get p = some s → renS S.lvl S' N s.gen s = some (c73 S.lvl ρ s):=by
  intro p s hp h1
  obtain ⟨s',h1',h2⟩:=hs p hp
  rw [h1] at h1'
  cases h1'
  cases h2 with
  | obj h2 _ =>
   have:=cX8 (N:=N) (ρ:=ρ) h2 fun d hd=>hρ d (hsub p hp _ _ _ h1 d hd)
   simp only [renS,this,Option.map_some,c73,ae1.gen]
  | tok=>rfl
 obtain ⟨t,ht⟩:=bm3 (f:=fun _ s=>renS S.lvl S' N s.gen s) (S':=S') (ps:=S'.outs S.lvl) (t:=S.tab) fun p hp=>by
  obtain ⟨s,h1,_⟩:=hs p hp
  exact ⟨s,_,h1,hturn p s hp h1⟩
 obtain ⟨t2,ht2⟩:=bM1 (l:=S.lvl) (S':=S') (N:=N) (M:=N) (t:=t) fun p q g h=>(hDd p (hmem p q g h).1).2
 have hT:=aB9 ht
 have hRs:=aO7 ht2 (by rw [hN]; exact a00)
 have hhu : ao2 f S S' v = some (v,if S'.outs S.lvl = [] ∧ N = [] then none else some (t2,S'.outs S.lvl ++ N.map fun x=>x.2.1)):=by
  unfold ao2
  simp only [hup,if_true]
  generalize hD' : AV.deep S.lvl v ++ List.flatMap _ _ = D'
  have eD : D' = D:=by rw [← hD',hD]; rfl
  subst eD
  rw [← hR,← hN,hok,aX5 hv]
  simp only [Bool.not_true,Bool.false_eq_true,if_false]
  cases ho : S'.outs S.lvl with
  | nil =>
   cases hn : N with
   | nil=>simp
   | cons x r =>
    rw [ho] at ht
    rw [hn] at ht2
    simp only [aE5,Option.some.injEq] at ht
    subst ht
    simp only [hn] at ht2 ⊢
    simp [aE5,ht2]
  | cons p ps =>
   rw [ho] at ht
   simp only [ht,ht2]
   simp
 have hlvl : ∀ q,q ∈ S'.outs S.lvl → q.l ≤ S.lvl:=fun q hq=>(ar8.1 hq).2
 have hnone : ∀ p q g,(p,q,g) ∈ N → S.get q = none:=fun p q g h=>by
  obtain ⟨_,_,h3,_,_,h4⟩:=hmem p q g h
  have : q ∉ S'.outs S.lvl:=fun hq=>by
   obtain ⟨s,h5,_⟩:=hs q hq
   rw [h4] at h5; cases h5
  rw [← hun q (Nat.le_of_eq h3) this]
  exact h4
 refine ⟨_,ρ,hhu,?_⟩
 by_cases hem : S'.outs S.lvl = [] ∧ N = []
 ·rw [if_pos hem]
  refine ⟨rfl,rfl,rfl,?_,fun _ _ _=>rfl,?_,?_⟩
  ·intro q s hq; rw [hem.1] at hq; cases hq
  ·intro q hq; cases hq
  ·intro p g t cs hp; rw [hem.1] at hp; cases hp
 ·rw [if_neg hem]
  refine ⟨rfl,rfl,rfl,?_,?_,?_,?_⟩
  ·intro q s hq hqs
   show t2.get q = _
   rw [hRs.1 q fun p0 g0 hm=>by
    obtain ⟨_,_,_,_,_,h4⟩:=hmem _ _ _ hm
    rw [hqs] at h4; cases h4]
   obtain ⟨s1,s2,h1,h2,h3⟩:=(hT q).2 hq
   rw [hqs] at h1; cases h1
   rw [hturn q s hq hqs] at h2; cases h2
   exact h3
  ·intro q hq hq2
   show t2.get q = S.tab.get q
   simp only [Option.getD_some,List.mem_append,not_or] at hq2
   rw [hRs.1 q fun p0 g0 hm=>hq2.2 (List.mem_map.2 ⟨_,hm,rfl⟩)]
   exact (hT q).1 hq
  ·intro q hq
   simp only [Option.getD_some,List.mem_append] at hq
   rcases hq with hq | hq
   ·exact .inl hq
   ·obtain ⟨⟨p,q',g⟩,h1,h2⟩:=List.mem_map.1 hq
    simp only at h2
    subst h2
    obtain ⟨_,_,h3,h4,h5,_⟩:=hmem _ _ _ h1
    exact .inr ⟨h3,h4,h5,hnone _ _ _ h1⟩
  ·intro p g ty cs hp hps q h sz ys hc hl m e hq
   have hdq : q ∈ D:=by
    refine hsub p hp g ty cs hps q ?_
    clear hp hps
    induction cs with
    | nil=>cases hc
    | cons a r ih =>
     simp only [AV.an2,List.mem_append]
     rcases List.mem_cons.1 hc with rfl | hc
     ·left
      simp only [AV.deep,if_neg (Nat.not_le.2 hl)]
      exact List.mem_append.2 (.inl (List.mem_singleton.2 rfl))
     ·exact .inr (ih hc)
   have hm:=Names.get_mem (hρ q hdq)
   obtain ⟨_,_,h3,h4,h5,h6⟩:=hmem _ _ _ hm
   refine ⟨h3,h4,h5,hnone _ _ _ hm,?_⟩
   obtain ⟨s',k1,k2⟩:=hRs.2 _ _ _ hm _ hq
   simp only [renS,Option.some.injEq] at k1
   subst k1
   exact k2
open Go.RowKit
theorem bY4 : ∀ {xs ys : List AV},AV.af2 (xs ++ ys) = (AV.af2 xs && AV.af2 ys)
 | [],ys=>by simp [AV.af2]
 | x :: r,ys=>by simp [AV.af2,bY4 (xs:=r),Bool.and_assoc]
theorem au4.aD6 {sp : au4} {l : Nat} (h : sp.closed = true) : sp.lv l = true:=by cases sp <;> first | rfl | cases h
mutual
theorem aD6 : ∀ {a : AV},a.closed = true → ∀ l,a.lv l = true
 | .lit _,_,_=>rfl
 | .agg cs,h,l=>by simp only [AV.closed] at h; simp only [AV.lv]; exact aQ8 h l
 | .tup cs,h,l=>by simp only [AV.closed] at h; simp only [AV.lv]; exact aQ8 h l
 | .cref cs,h,l=>by simp only [AV.closed] at h; simp only [AV.lv]; exact aQ8 h l
 | .fn _ cs,h,l=>by simp only [AV.closed] at h; simp only [AV.lv]; exact aQ8 h l
 | .iface _ a,h,l=>by simp only [AV.closed] at h; simp only [AV.lv]; exact aD6 h l
 | .list sp _ es,h,l=>by
  simp only [AV.closed,Bool.and_eq_true] at h
  simp only [AV.lv,Bool.and_eq_true]
  exact ⟨au4.aD6 h.1,b38 h.2 l⟩
 | .ptr ..,h,_=>by cases h
 | .row ..,h,_=>by cases h
 | .mref ..,h,_=>by cases h
theorem aQ8 : ∀ {cs : List AV},AV.af2 cs = true → ∀ l,AV.lvL l cs = true
 | [],_,_=>rfl
 | a :: r,h,l=>by
  simp only [AV.af2,Bool.and_eq_true] at h
  simp only [AV.lvL,Bool.and_eq_true]
  exact ⟨aD6 h.1 l,aQ8 h.2 l⟩
theorem b38 : ∀ {es : List (List AV)},AV.aj0 es = true → ∀ l,AV.lvLL l es = true
 | [],_,_=>rfl
 | a :: r,h,l=>by
  simp only [AV.aj0,Bool.and_eq_true] at h
  simp only [AV.lvLL,Bool.and_eq_true]
  exact ⟨aQ8 h.1 l,b38 h.2 l⟩
end
inductive V where
 | int (k : IntKind) (n : Int)
 | bool (b : Bool)
 | str (l : List UInt8)
 | sl (sz : Nat) (es : List (List V))
 | nilp
 | ref (cs : List V)
 | nili
 | ifc (t : TypeId) (agg : Bool) (cs : List V)
 | nilf
 | fnv (f : FuncId) (cs : List V)
def fnC (f : FuncId) (ys : List AV) (a : AV) : Prop:=a = .fn f ys ∨ (ys = [] ∧ a = .lit (.func (.func f) #[] #[]))
mutual
def RelC : V → AV → Prop
 | .int k n,a=>a = .lit (.int k n)
 | .bool b,a=>a = .lit (.bool b)
 | .str l,a=>a = .lit (.string (bs l))
 | .sl sz es,a=>(es = [] ∧ ∃ p,a = .lit (.slice p 0 0)) ∨ ∃ sp ys,a = .list sp sz ys ∧ au4.closed sp = true ∧ ae5 es ys
 | .nilp,a=>a = .lit (.pointer none)
 | .ref cs,a=>∃ ys zs,a = .cref (ys ++ zs) ∧ ab7 cs ys ∧ AV.af2 zs = true
 | .nili,a=>a = .lit .nilIface
 | .ifc t b cs,a=>∃ ys,ab7 cs ys ∧ ((b = true ∧ a = .iface t (.agg ys)) ∨ (b = false ∧ ∃ y,ys = [y] ∧ a = .iface t y))
 | .nilf,a=>a = .lit .nilFunc
 | .fnv f cs,a=>∃ ys,ab7 cs ys ∧ fnC f ys a
def ab7 : List V → List AV → Prop
 | [],l=>l = []
 | v :: r,l=>∃ a t,l = a :: t ∧ RelC v a ∧ ab7 r t
def ae5 : List (List V) → List (List AV) → Prop
 | [],l=>l = []
 | v :: r,l=>∃ a t,l = a :: t ∧ ab7 v a ∧ ae5 r t
end
def au4.at (L : Nat) (sp : au4) : Prop:=sp.closed = true ∨ ∃ p g,sp = .own p g ∧ p.l = L
def RelS (L : Nat) : V → AV → Prop
 | .int k n,a=>a = .lit (.int k n)
 | .bool b,a=>a = .lit (.bool b)
 | .str l,a=>a = .lit (.string (bs l))
 | .sl sz es,a=>(es = [] ∧ ∃ p,a = .lit (.slice p 0 0)) ∨ ∃ sp ys,a = .list sp sz ys ∧ sp.at L ∧ ae5 es ys
 | .nilp,a=>a = .lit (.pointer none)
 | .ref cs,a=>∃ ys zs,a = .cref (ys ++ zs) ∧ ab7 cs ys ∧ AV.af2 zs = true
 | .nili,a=>a = .lit .nilIface
 | .ifc t b cs,a=>∃ ys,ab7 cs ys ∧ ((b = true ∧ a = .iface t (.agg ys)) ∨ (b = false ∧ ∃ y,ys = [y] ∧ a = .iface t y))
 | .nilf,a=>a = .lit .nilFunc
 | .fnv f cs,a=>∃ ys,ab7 cs ys ∧ fnC f ys a
def aq5 (L : Nat) : List V → List AV → Prop
 | [],l=>l = []
 | v :: r,l=>∃ a t,l = a :: t ∧ RelS L v a ∧ aq5 L r t
theorem RelC.toS {L : Nat} {v : V} {a : AV} (h : RelC v a) : RelS L v a:=by
 cases v with
 | sl sz es =>
  unfold RelC at h
  rcases h with h | ⟨sp,ys,h,hc,h'⟩
  ·exact .inl h
  ·exact .inr ⟨sp,ys,h,.inl hc,h'⟩
 | _=>unfold RelC at h; exact h
theorem ab7.toS {L : Nat} : ∀ {vs : List V} {ys : List AV},ab7 vs ys → aq5 L vs ys
 | [],ys,h=>by unfold ab7 at h; exact h
 | v :: r,ys,h=>by
  unfold ab7 at h
  obtain ⟨a,t,rfl,h1,h2⟩:=h
  exact ⟨a,t,rfl,h1.toS,h2.toS⟩
mutual
theorem RelC.closed : ∀ {v : V} {a : AV},RelC v a → a.closed = true
 | .nilp,a,h=>by unfold RelC at h; subst h; rfl
 | .nili,a,h=>by unfold RelC at h; subst h; rfl
 | .ref cs,a,h=>by
  unfold RelC at h
  obtain ⟨ys,zs,rfl,h,hz⟩:=h
  simp [AV.closed,bY4,ab7.closed h,hz]
 | .nilf,a,h=>by unfold RelC at h; subst h; rfl
 | .fnv f cs,a,h=>by
  unfold RelC at h
  obtain ⟨ys,h,rfl | ⟨_,rfl⟩⟩:=h
  ·simp [AV.closed,ab7.closed h]
  ·rfl
 | .ifc t b cs,a,h=>by
  unfold RelC at h
  obtain ⟨ys,h,⟨_,rfl⟩ | ⟨_,y,rfl,rfl⟩⟩:=h
  ·simp [AV.closed,ab7.closed h]
  ·have:=ab7.closed h
   simp only [AV.af2,Bool.and_true] at this
   simp [AV.closed,this]
 | .int _ _,a,h=>by unfold RelC at h; subst h; rfl
 | .bool _,a,h=>by unfold RelC at h; subst h; rfl
 | .str _,a,h=>by unfold RelC at h; subst h; rfl
 | .sl sz es,a,h=>by
  unfold RelC at h
  rcases h with ⟨_,p,rfl⟩ | ⟨sp,ys,rfl,h1,h2⟩
  ·rfl
  ·simp [AV.closed,h1,ae5.closed h2]
theorem ab7.closed : ∀ {vs : List V} {ys : List AV},ab7 vs ys → AV.af2 ys = true
 | [],ys,h=>by unfold ab7 at h; subst h; rfl
 | v :: r,ys,h=>by
  unfold ab7 at h
  obtain ⟨a,t,rfl,h1,h2⟩:=h
  simp [AV.af2,RelC.closed h1,ab7.closed h2]
theorem ae5.closed : ∀ {vs : List (List V)} {ys : List (List AV)},ae5 vs ys → AV.aj0 ys = true
 | [],ys,h=>by unfold ae5 at h; subst h; rfl
 | v :: r,ys,h=>by
  unfold ae5 at h
  obtain ⟨a,t,rfl,h1,h2⟩:=h
  simp [AV.aj0,ab7.closed h1,ae5.closed h2]
end
mutual
theorem RelC.lv : ∀ {v : V} {a : AV},RelC v a → ∀ l,a.lv l = true
 | .nilp,a,h,l=>by unfold RelC at h; subst h; rfl
 | .nili,a,h,l=>by unfold RelC at h; subst h; rfl
 | .ref cs,a,h,l=>aD6 (RelC.closed h) l
 | .nilf,a,h,l=>aD6 (RelC.closed h) l
 | .fnv f cs,a,h,l=>aD6 (RelC.closed h) l
 | .ifc t b cs,a,h,l=>by
  unfold RelC at h
  obtain ⟨ys,h,⟨_,rfl⟩ | ⟨_,y,rfl,rfl⟩⟩:=h
  ·simp [AV.lv,ab7.lv h]
  ·have:=ab7.lv h l
   simp only [AV.lvL,Bool.and_true] at this
   simp [AV.lv,this]
 | .int _ _,a,h,l=>by unfold RelC at h; subst h; rfl
 | .bool _,a,h,l=>by unfold RelC at h; subst h; rfl
 | .str _,a,h,l=>by unfold RelC at h; subst h; rfl
 | .sl sz es,a,h,l=>by
  unfold RelC at h
  rcases h with ⟨_,p,rfl⟩ | ⟨sp,ys,rfl,h1,h2⟩
  ·rfl
  ·simp [AV.lv,au4.aD6 h1,ae5.lv h2]
theorem ab7.lv : ∀ {vs : List V} {ys : List AV},ab7 vs ys → ∀ l,AV.lvL l ys = true
 | [],ys,h,l=>by unfold ab7 at h; subst h; rfl
 | v :: r,ys,h,l=>by
  unfold ab7 at h
  obtain ⟨a,t,rfl,h1,h2⟩:=h
  simp [AV.lvL,RelC.lv h1,ab7.lv h2]
theorem ae5.lv : ∀ {vs : List (List V)} {ys : List (List AV)},ae5 vs ys → ∀ l,AV.lvLL l ys = true
 | [],ys,h,l=>by unfold ae5 at h; subst h; rfl
 | v :: r,ys,h,l=>by
  unfold ae5 at h
  obtain ⟨a,t,rfl,h1,h2⟩:=h
  simp [AV.lvLL,ab7.lv h1,ae5.lv h2]
end
theorem RelS.cells {L : Nat} {v : V} {a : AV} (h : RelS L v a) : a.cells = [a]:=by
 cases v with
 | sl sz es =>
  rcases h with ⟨_,p,rfl⟩ | ⟨sp,ys,rfl,_,h2⟩ <;> rfl
 | ref cs=>obtain ⟨ys,zs,rfl,_⟩:=h; rfl
 | ifc t b cs=>obtain ⟨ys,_,⟨_,rfl⟩ | ⟨_,y,rfl,rfl⟩⟩:=h <;> rfl
 | fnv f cs=>obtain ⟨ys,_,rfl | ⟨_,rfl⟩⟩:=h <;> rfl
 | _=>cases h; rfl
theorem RelS.one {L : Nat} {v : V} {a : AV} (h : RelS L v a) : a.one = true:=by
 cases v with
 | sl sz es =>
  rcases h with ⟨_,p,rfl⟩ | ⟨sp,ys,rfl,_,h2⟩ <;> rfl
 | ref cs=>obtain ⟨ys,zs,rfl,_⟩:=h; rfl
 | ifc t b cs=>obtain ⟨ys,_,⟨_,rfl⟩ | ⟨_,y,rfl,rfl⟩⟩:=h <;> rfl
 | fnv f cs=>obtain ⟨ys,_,rfl | ⟨_,rfl⟩⟩:=h <;> rfl
 | _=>cases h; rfl
theorem aq5.ones {L : Nat} : ∀ {vs : List V} {ys : List AV},aq5 L vs ys → ys.all AV.one = true
 | [],ys,h=>by cases h; rfl
 | v :: r,ys,h=>by
  obtain ⟨a,t,rfl,h1,h2⟩:=h
  simp [RelS.one h1]
  simpa using h2.ones
theorem aq5.length {L : Nat} : ∀ {vs : List V} {ys : List AV},aq5 L vs ys → ys.length = vs.length
 | [],ys,h=>by cases h; rfl
 | v :: r,ys,h=>by
  obtain ⟨a,t,rfl,h1,h2⟩:=h
  simp [h2.length]
theorem ae5.length : ∀ {vs : List (List V)} {ys : List (List AV)},ae5 vs ys → ys.length = vs.length
 | [],ys,h=>by unfold ae5 at h; cases h; rfl
 | v :: r,ys,h=>by
  unfold ae5 at h
  obtain ⟨a,t,rfl,h1,h2⟩:=h
  simp [h2.length]
theorem ae5.append : ∀ {vs us : List (List V)} {ys cs : List (List AV)},ae5 vs ys → ae5 us cs → ae5 (vs ++ us) (ys ++ cs)
 | [],us,ys,cs,h,h'=>by unfold ae5 at h; subst h; exact h'
 | v :: r,us,ys,cs,h,h'=>by
  unfold ae5 at h
  obtain ⟨a,t,rfl,h1,h2⟩:=h
  show ae5 (v :: (r ++ us)) _
  unfold ae5
  exact ⟨a,t ++ cs,rfl,h1,h2.append h'⟩
theorem ae5.get : ∀ {vs : List (List V)} {ys : List (List AV)} {i : Nat} {v : List V},ae5 vs ys → vs[i]? = some v → ∃ a,ys[i]? = some a ∧ ab7 v a
 | [],_,_,_,_,h=>by cases h
 | u :: r,ys,0,v,h,hi=>by
  unfold ae5 at h
  obtain ⟨a,t,rfl,h1,h2⟩:=h
  simp only [List.getElem?_cons_zero,Option.some.injEq] at hi
  subst hi
  exact ⟨a,rfl,h1⟩
 | u :: r,ys,i + 1,v,h,hi=>by
  unfold ae5 at h
  obtain ⟨a,t,rfl,h1,h2⟩:=h
  simp only [List.getElem?_cons_succ] at hi ⊢
  exact h2.get hi
theorem ae5.take : ∀ {vs : List (List V)} {ys : List (List AV)} (n : Nat),ae5 vs ys → ae5 (vs.take n) (ys.take n)
 | [],ys,n,h=>by unfold ae5 at h; subst h; simp [ae5]
 | v :: r,ys,0,h=>by simp [ae5]
 | v :: r,ys,n + 1,h=>by
  unfold ae5 at h
  obtain ⟨a,t,rfl,h1,h2⟩:=h
  simp only [List.take_succ_cons]
  unfold ae5
  exact ⟨a,_,rfl,h1,h2.take n⟩
theorem ae5.drop : ∀ {vs : List (List V)} {ys : List (List AV)} (n : Nat),ae5 vs ys → ae5 (vs.drop n) (ys.drop n)
 | [],ys,n,h=>by unfold ae5 at h; subst h; simp [ae5]
 | v :: r,ys,0,h=>h
 | v :: r,ys,n + 1,h=>by
  unfold ae5 at h
  obtain ⟨a,t,rfl,h1,h2⟩:=h
  exact h2.drop n
theorem aq5.drop {L : Nat} : ∀ {vs : List V} {ys : List AV} (n : Nat),aq5 L vs ys → aq5 L (vs.drop n) (ys.drop n)
 | vs,ys,0,h=>h
 | [],ys,n + 1,h=>by cases h; rfl
 | v :: r,ys,n + 1,h=>by
  obtain ⟨a,t,rfl,h1,h2⟩:=h
  exact h2.drop n
theorem aq5.take {L : Nat} : ∀ {vs : List V} {ys : List AV} (n : Nat),aq5 L vs ys → aq5 L (vs.take n) (ys.take n)
 | vs,ys,0,h=>rfl
 | [],ys,n + 1,h=>by cases h; rfl
 | v :: r,ys,n + 1,h=>by
  obtain ⟨a,t,rfl,h1,h2⟩:=h
  exact ⟨a,_,rfl,h1,h2.take n⟩
theorem ab7.drop : ∀ {vs : List V} {ys : List AV} (n : Nat),ab7 vs ys → ab7 (vs.drop n) (ys.drop n)
 | vs,ys,0,h=>h
 | [],ys,n + 1,h=>by unfold ab7 at h; cases h; simp [ab7]
 | v :: r,ys,n + 1,h=>by
  unfold ab7 at h
  obtain ⟨a,t,rfl,h1,h2⟩:=h
  exact h2.drop n
theorem ab7.take : ∀ {vs : List V} {ys : List AV} (n : Nat),ab7 vs ys → ab7 (vs.take n) (ys.take n)
 | vs,ys,0,h=>by simp [ab7]
 | [],ys,n + 1,h=>by unfold ab7 at h; cases h; simp [ab7]
 | v :: r,ys,n + 1,h=>by
  unfold ab7 at h
  obtain ⟨a,t,rfl,h1,h2⟩:=h
  simp only [List.take_succ_cons]
  unfold ab7
  exact ⟨a,_,rfl,h1,h2.take n⟩
theorem aq5.append {L : Nat} : ∀ {vs us : List V} {ys cs : List AV},aq5 L vs ys → aq5 L us cs → aq5 L (vs ++ us) (ys ++ cs)
 | [],us,ys,cs,h,h'=>by cases h; exact h'
 | v :: r,us,ys,cs,h,h'=>by
  obtain ⟨a,t,rfl,h1,h2⟩:=h
  exact ⟨a,t ++ cs,rfl,h1,h2.append h'⟩
def RelP (M : List V) (ws : List AV) : Prop:=∃ ys zs,ws = ys ++ zs ∧ ab7 M ys ∧ AV.af2 zs = true
theorem ab7.getC : ∀ {M : List V} {ys : List AV} {i : Nat} {v : V},ab7 M ys → M[i]? = some v → ∃ c,ys[i]? = some c ∧ RelC v c
 | [],_,_,_,_,h=>by cases h
 | u :: r,ys,0,v,h,hi=>by
  unfold ab7 at h
  obtain ⟨a,t,rfl,h1,_⟩:=h
  simp only [List.getElem?_cons_zero,Option.some.injEq] at hi
  subst hi
  exact ⟨a,rfl,h1⟩
 | u :: r,ys,i + 1,v,h,hi=>by
  unfold ab7 at h
  obtain ⟨a,t,rfl,_,h2⟩:=h
  simp only [List.getElem?_cons_succ] at hi ⊢
  exact h2.getC hi
theorem RelP.get {M : List V} {ws : List AV} {i : Nat} {v : V} (h : RelP M ws) (hv : M[i]? = some v) : ∃ c,ws[i]? = some c ∧ RelC v c:=by
 obtain ⟨ys,zs,rfl,h,_⟩:=h
 obtain ⟨c,h1,h2⟩:=h.getC hv
 exact ⟨c,by rw [List.getElem?_append_left (List.getElem?_eq_some_iff.1 h1).1]; exact h1,h2⟩
theorem bT6 : ∀ {zs : List AV} (n : Nat),AV.af2 zs = true → AV.af2 (zs.drop n) = true
 | _,0,h=>h
 | [],_ + 1,h=>h
 | a :: r,n + 1,h=>by
  simp only [AV.af2,Bool.and_eq_true] at h
  exact bT6 n h.2
theorem RelP.drop {M : List V} {ws : List AV} (n : Nat) (h : RelP M ws) : RelP (M.drop n) (ws.drop n):=by
 obtain ⟨ys,zs,rfl,h,hz⟩:=h
 rw [List.drop_append]
 exact ⟨ys.drop n,zs.drop (n - ys.length),rfl,h.drop n,bT6 _ hz⟩
theorem RelP.take {M : List V} {ws : List AV} {n : Nat} (h : RelP M ws) (hn : n ≤ M.length) : ab7 (M.take n) (ws.take n) ∧ n ≤ ws.length:=by
 obtain ⟨ys,zs,rfl,h,hz⟩:=h
 have hl : ys.length = M.length:=(h.toS (L:=0)).length
 rw [List.take_append_of_le_length (by omega),List.length_append]
 exact ⟨h.take n,by omega⟩
theorem ab7.toP {M : List V} {ws : List AV} (h : ab7 M ws) : RelP M ws:=⟨ws,[],by simp,h,rfl⟩
def bC7 (cs : List V) (off : Nat) (xs : List V) : List V:=cs.take off ++ xs ++ cs.drop (off + xs.length)
theorem aq5.spl {L : Nat} {vs xs : List V} {as1 ys : List AV} (off : Nat) (h : aq5 L vs as1) (h' : aq5 L xs ys) : aq5 L (bC7 vs off xs) (splice as1 off ys):=by
 unfold bC7 splice
 rw [h'.length]
 exact ((h.take off).append h').append (h.drop _)
theorem RelC.nil (sz : Nat) (p : Option Addr) : RelC (.sl sz []) (.lit (.slice p 0 0)):=by unfold RelC; exact .inl ⟨rfl,p,rfl⟩
theorem RelS.list {L : Nat} {sz : Nat} {es : List (List V)} {ys : List (List AV)} {sp : au4} (hs : sp.at L) (h : ae5 es ys) : RelS L (.sl sz es) (.list sp sz ys):=.inr ⟨sp,ys,rfl,hs,h⟩
theorem RelC.list {sz : Nat} {es : List (List V)} {ys : List (List AV)} {sp : au4} (hs : sp.closed = true) (h : ae5 es ys) : RelC (.sl sz es) (.list sp sz ys):=by unfold RelC; exact .inr ⟨sp,ys,rfl,hs,h⟩
theorem RelS.len {L : Nat} {sz : Nat} {es : List (List V)} {a : AV} (h : RelS L (.sl sz es) a) : llV a = some (.lit (.int .i64 es.length)):=by
 rcases h with ⟨rfl,p,rfl⟩ | ⟨sp,ys,rfl,hat,h⟩
 ·rfl
 ·show some _ = _
  rw [h.length]
theorem RelS.elems {L : Nat} {sz : Nat} {es : List (List V)} {a : AV} (S : AS) (h : RelS L (.sl sz es) a) : ∃ ys,ao5 S sz a = some ys ∧ ae5 es ys:=by
 rcases h with ⟨rfl,p,rfl⟩ | ⟨sp,ys,rfl,hat,h⟩
 ·exact ⟨[],rfl,by unfold ae5; rfl⟩
 ·exact ⟨ys,a94 sz sp ys,h⟩
theorem RelS.norm {L : Nat} {v : V} {a : AV} (h : RelS L v a) : RelC v a.av9:=by
 cases v with
 | sl sz es =>
  rcases h with ⟨rfl,p,rfl⟩ | ⟨sp,ys,rfl,hat,h⟩
  ·exact RelC.nil sz p
  ·exact RelC.list rfl h
 | int k n=>cases h; unfold RelC; rfl
 | bool b=>cases h; unfold RelC; rfl
 | str l=>cases h; unfold RelC; rfl
 | nilp=>cases h; unfold RelC; rfl
 | nili=>cases h; unfold RelC; rfl
 | ref cs =>
  obtain ⟨ys,zs,rfl,h⟩:=h
  unfold RelC
  exact ⟨ys,zs,rfl,h⟩
 | nilf=>cases h; unfold RelC; rfl
 | fnv f cs =>
  obtain ⟨ys,h,rfl | ⟨h',rfl⟩⟩:=h
  ·unfold RelC; exact ⟨ys,h,.inl rfl⟩
  ·unfold RelC; exact ⟨ys,h,.inr ⟨h',rfl⟩⟩
 | ifc t b cs =>
  obtain ⟨ys,h,⟨hb,rfl⟩ | ⟨hb,y,rfl,rfl⟩⟩:=h
  ·unfold RelC; exact ⟨ys,h,.inl ⟨hb,rfl⟩⟩
  ·unfold RelC; exact ⟨_,h,.inr ⟨hb,y,rfl,rfl⟩⟩
theorem aq5.norm {L : Nat} : ∀ {vs : List V} {ys : List AV},aq5 L vs ys → ab7 vs (ys.map AV.av9)
 | [],ys,h=>by cases h; unfold ab7; rfl
 | v :: r,ys,h=>by
  obtain ⟨a,t,rfl,h1,h2⟩:=h
  unfold ab7
  exact ⟨_,_,rfl,h1.norm,h2.norm⟩
theorem RelS.frz {l : Nat} {v : V} {a : AV} (h : RelS (l + 1) v a) (S : AS) (n : Nat) : ∃ b,frz l S (n + 2) a = some b ∧ RelC v b:=by
 cases v with
 | sl sz es =>
  rcases h with ⟨rfl,p,rfl⟩ | ⟨sp,ys,rfl,hat,h⟩
  ·exact ⟨_,ag4 rfl,RelC.nil sz p⟩
  ·rcases hat with hc | ⟨p,g,rfl,hp⟩
   ·exact ⟨_,ag4 (by simp [AV.lv,au4.aD6 hc,h.lv]),RelC.list hc h⟩
   ·exact ⟨_,bT3 p g sz ys (h.lv l) (by omega),RelC.list rfl h⟩
 | int k n=>cases h; exact ⟨_,ag4 rfl,by unfold RelC; rfl⟩
 | bool b=>cases h; exact ⟨_,ag4 rfl,by unfold RelC; rfl⟩
 | str l=>cases h; exact ⟨_,ag4 rfl,by unfold RelC; rfl⟩
 | nilp=>cases h; exact ⟨_,ag4 rfl,by unfold RelC; rfl⟩
 | nili=>cases h; exact ⟨_,ag4 rfl,by unfold RelC; rfl⟩
 | ref cs =>
  have hc : RelC (.ref cs) a:=by unfold RelC; exact h
  exact ⟨_,ag4 (hc.lv l),hc⟩
 | nilf =>
  have hc : RelC .nilf a:=by unfold RelC; exact h
  exact ⟨_,ag4 (hc.lv l),hc⟩
 | fnv f cs =>
  have hc : RelC (.fnv f cs) a:=by unfold RelC; exact h
  exact ⟨_,ag4 (hc.lv l),hc⟩
 | ifc t b cs =>
  have hc : RelC (.ifc t b cs) a:=by unfold RelC; exact h
  exact ⟨_,ag4 (hc.lv l),hc⟩
theorem aq5.frz {l : Nat} (S : AS) : ∀ {vs : List V} {ys : List AV} (n : Nat),aq5 (l + 1) vs ys → vs.length + 2 ≤ n → ∃ bs,frzL l S n ys = some bs ∧ ab7 vs bs
 | [],ys,n,h,hn=>by
  cases h
  obtain ⟨m,rfl⟩ : ∃ m,n = m + 1:=⟨n - 1,by omega⟩
  exact ⟨[],rfl,by unfold ab7; rfl⟩
 | v :: r,ys,n,h,hn=>by
  obtain ⟨a,t,rfl,h1,h2⟩:=h
  simp only [List.length_cons] at hn
  obtain ⟨m,rfl⟩ : ∃ m,n = m + 3:=⟨n - 3,by omega⟩
  obtain ⟨b,k1,k2⟩:=h1.frz S m
  obtain ⟨bs,k3,k4⟩:=aq5.frz S (m + 2) h2 (by omega)
  refine ⟨b :: bs,?_,?_⟩
  ·rw [b46,k1,k3]
   rfl
  ·unfold ab7
   exact ⟨b,bs,rfl,k2,k4⟩
inductive RV where
 | int (k : IntKind) (n : Int)
 | bool (b : Bool)
 | str (l : List UInt8)
 | sl (sz : Nat) (es : List (List V))
 | agg (M : List V)
 | v (x : V)
def RV.S (L : Nat) : RV → AV → Prop
 | .int k n,a=>a = .lit (.int k n)
 | .bool b,a=>a = .lit (.bool b)
 | .str l,a=>a = .lit (.string (bs l))
 | .sl sz es,a=>RelS L (.sl sz es) a
 | .agg M,a=>∃ cs,a = .agg cs ∧ aq5 L M cs
 | .v x,a=>RelC x a
def RV.C : RV → AV → Prop
 | .int k n,a=>a = .lit (.int k n)
 | .bool b,a=>a = .lit (.bool b)
 | .str l,a=>a = .lit (.string (bs l))
 | .sl sz es,a=>RelC (.sl sz es) a
 | .agg M,a=>∃ cs,a = .agg cs ∧ ab7 M cs
 | .v x,a=>RelC x a
def RVL (L : Nat) : List RV → List AV → Prop
 | [],l=>l = []
 | r :: rs,l=>∃ a t,l = a :: t ∧ r.S L a ∧ RVL L rs t
def RVLC : List RV → List AV → Prop
 | [],l=>l = []
 | r :: rs,l=>∃ a t,l = a :: t ∧ r.C a ∧ RVLC rs t
def ResC : List RV → AV → Prop
 | [r],v=>r.C v
 | rs,v=>∃ l,v = .tup l ∧ RVLC rs l
theorem RV.C.toS {L : Nat} {r : RV} {a : AV} (h : r.C a) : r.S L a:=by
 cases r with
 | sl sz es=>exact RelC.toS h
 | agg M =>
  obtain ⟨cs,rfl,h⟩:=h
  exact ⟨cs,rfl,h.toS⟩
 | _=>exact h
theorem RV.S.norm {L : Nat} {r : RV} {a : AV} (h : r.S L a) : r.C a.ag0:=by
 cases r with
 | sl sz es =>
  have h1 : a.ag0 = a.av9:=by rcases h with ⟨_,p,rfl⟩ | ⟨sp,ys,rfl,_,h2⟩ <;> rfl
  show RelC (.sl sz es) a.ag0
  rw [h1]
  exact RelS.norm h
 | int k n=>cases h; rfl
 | bool b=>cases h; rfl
 | str l=>cases h; rfl
 | agg M =>
  obtain ⟨cs,rfl,h⟩:=h
  exact ⟨_,rfl,aq5.norm h⟩
 | v x =>
  have h1 : a.ag0 = a.av9:=by
   have:=(RelC.toS (L:=0) h).one
   cases a with
   | agg=>cases this
   | _=>rfl
  show RelC x a.ag0
  rw [h1]
  exact (RelC.toS (L:=0) h).norm
theorem RVL.norm {L : Nat} : ∀ {rs : List RV} {ys : List AV},RVL L rs ys → RVLC rs (ys.map AV.ag0)
 | [],ys,h=>by cases h; rfl
 | r :: rs,ys,h=>by
  obtain ⟨a,t,rfl,h1,h2⟩:=h
  exact ⟨_,_,rfl,h1.norm,h2.norm⟩
theorem RVL.length {L : Nat} : ∀ {rs : List RV} {ys : List AV},RVL L rs ys → ys.length = rs.length
 | [],ys,h=>by cases h; rfl
 | r :: rs,ys,h=>by
  obtain ⟨a,t,rfl,h1,h2⟩:=h
  simp [h2.length]
def RV.size : RV → Nat
 | .agg M=>M.length
 | _=>0
theorem RV.S.frz {l : Nat} {r : RV} {a : AV} (h : r.S (l + 1) a) (S : AS) (n : Nat) (hn : r.size + 3 ≤ n) : ∃ b,frz l S n a = some b ∧ r.C b:=by
 obtain ⟨m,rfl⟩ : ∃ m,n = m + 2:=⟨n - 2,by omega⟩
 cases r with
 | int k n=>cases h; exact ⟨_,ag4 rfl,rfl⟩
 | bool b=>cases h; exact ⟨_,ag4 rfl,rfl⟩
 | str t=>cases h; exact ⟨_,ag4 rfl,rfl⟩
 | sl sz es=>exact RelS.frz (l:=l) (v:=.sl sz es) h S m
 | v x=>exact ⟨_,ag4 (RelC.lv h l),h⟩
 | agg M =>
  obtain ⟨cs,rfl,h⟩:=h
  simp only [RV.size] at hn
  obtain ⟨bs,k1,k2⟩:=aq5.frz S (m + 1) h (by omega)
  refine ⟨.agg bs,?_,bs,rfl,k2⟩
  rw [cZ9 cs (by have:=h.length; omega),k1]
  rfl
theorem RVL.frz {l : Nat} (S : AS) : ∀ {rs : List RV} {ys : List AV} (n : Nat),RVL (l + 1) rs ys → rs.length + (rs.map RV.size).sum + 4 ≤ n → ∃ bs,frzL l S n ys = some bs ∧ RVLC rs bs
 | [],ys,n,h,hn=>by
  cases h
  obtain ⟨m,rfl⟩ : ∃ m,n = m + 1:=⟨n - 1,by omega⟩
  exact ⟨[],rfl,rfl⟩
 | r :: rs,ys,n,h,hn=>by
  obtain ⟨a,t,rfl,h1,h2⟩:=h
  simp only [List.length_cons,List.map_cons,List.sum_cons] at hn
  obtain ⟨m,rfl⟩ : ∃ m,n = m + 1:=⟨n - 1,by omega⟩
  obtain ⟨b,k1,k2⟩:=h1.frz S m (by omega)
  obtain ⟨bs,k3,k4⟩:=RVL.frz S m h2 (by omega)
  refine ⟨b :: bs,?_,b,bs,rfl,k2,k4⟩
  rw [b46,k1,k3]
  rfl
theorem cZ7 {l : Nat} (S : AS) {rs : List RV} {ys : List AV} (h : RVL (l + 1) rs ys) (hn : rs.length + (rs.map RV.size).sum + 5 ≤ 100000) : ∃ v,frz l S 100000 (aA2 ys) = some v ∧ ResC rs v:=by
 have tup : ∀ {rs : List RV} {ys : List AV},RVL (l + 1) rs ys → rs.length + (rs.map RV.size).sum + 5 ≤ 100000 → ∃ v,YtbinfgmdamlkbaaGreatDoor.frz l S 100000 (.tup ys) = some v ∧ ∃ l,v = .tup l ∧ RVLC rs l:=by
  intro rs ys h hn
  obtain ⟨bs,k1,k2⟩:=RVL.frz S 99999 h (by omega)
  refine ⟨.tup bs,?_,bs,rfl,k2⟩
  rw [show (100000 : Nat) = 99999 + 1 from rfl,db1 ys (by have:=h.length; omega),k1]
  rfl
 match rs,h,hn with
 | [],h,hn =>
  cases h
  exact tup (rs:=[]) (ys:=[]) rfl hn
 | [r],h,hn =>
  obtain ⟨a,t,rfl,h1,h2⟩:=h
  cases h2
  exact h1.frz S 100000 (by simp at hn; omega)
 | r :: r' :: rs,h,hn =>
  obtain ⟨a,t,rfl,h1,a',t',rfl,h2⟩:=h
  exact tup (rs:=r :: r' :: rs) (ys:=a :: a' :: t') ⟨a,_,rfl,h1,a',t',rfl,h2⟩ hn
open Go.RowKit
inductive Co (l : Nat) : AV → Prop
 | c {a : AV} : a.closed = true → Co l a
 | p {p : Loc} {g n o : Nat} : p.l ≤ l → Co l (.ptr p g n o)
 | t {q : Loc} {h sz : Nat} {ys : List (List AV)} : AV.aj0 ys = true → q.l ≤ l → Co l (.list (.own q h) sz ys)
 | r {sp : Room} {p : Loc} {g n o len sz : Nat} : p.l ≤ l → Co l (.row sp p g n o len sz)
 | m {p : Loc} {g : Nat} : p.l ≤ l → Co l (.mref p g)
theorem Co.cl {S : AS} {l : Nat} {a : AV} (h : Co l a) : Cl S l a:=by
 cases h with
 | c h=>exact .c h
 | p h=>exact .p h
 | t h h'=>exact .t h h'
 | r h=>exact .r h
 | m h=>exact .m h
theorem Co.up {l : Nat} {a : AV} (h : Co l a) : Co (l + 1) a:=by
 cases h with
 | c h=>exact .c h
 | p h=>exact .p (Nat.le_succ_of_le h)
 | t h h'=>exact .t h (Nat.le_succ_of_le h')
 | r h=>exact .r (Nat.le_succ_of_le h)
 | m h=>exact .m (Nat.le_succ_of_le h)
theorem Co.ren {l : Nat} {ρ : Loc → Loc} {a : AV} (h : Co l a) : renA l ρ a = a:=by
 cases h with
 | c h =>
  cases a with
  | list sp sz ys =>
   cases sp with
   | own p g=>cases h
   | _=>rfl
  | _=>rfl
 | p h=>rfl
 | t h h'=>simp only [renA,if_pos h']
 | r h=>rfl
 | m h=>rfl
theorem co_map {l : Nat} {ρ : Loc → Loc} : ∀ {cs : List AV},(∀ a ∈ cs,Co l a) → cs.map (renA l ρ) = cs
 | [],_=>rfl
 | a :: r,h=>by rw [List.map_cons,(h a (List.mem_cons_self ..)).ren,co_map fun x hx=>h x (List.mem_cons_of_mem _ hx)]
theorem cC9 {cs : List AV} {off : Nat} {x a : AV} (h : a ∈ splice cs off [x]) : a ∈ cs ∨ a = x:=by
 unfold splice at h
 simp only [List.mem_append,List.mem_singleton] at h
 rcases h with (h | h) | h
 ·exact .inl (List.mem_of_mem_take h)
 ·exact .inr h
 ·exact .inl (List.mem_of_mem_drop h)
theorem bE6 {cs : List AV} {off i : Nat} {x : AV} (h : off < cs.length) : (splice cs off [x])[i]? = if i = off then some x else cs[i]?:=by
 unfold splice
 rw [List.append_assoc]
 have hl : (cs.take off).length = off:=by rw [List.length_take]; omega
 by_cases h1 : i < off
 ·rw [List.getElem?_append_left (by omega),List.getElem?_take,if_pos h1,if_neg (by omega)]
 ·rw [List.getElem?_append_right (by omega),hl]
  by_cases h2 : i = off
  ·subst h2; simp
  ·rw [if_neg h2]
   obtain ⟨k,rfl⟩ : ∃ k,i = off + 1 + k:=⟨i - off - 1,by omega⟩
   rw [show off + 1 + k - off = k + 1 by omega]
   simp only [List.cons_append,List.nil_append,List.getElem?_cons_succ,List.length_singleton,List.getElem?_drop]
theorem bB9 {cs : List AV} {off : Nat} {x : AV} (h : off < cs.length) : (splice cs off [x]).length = cs.length:=by
 unfold splice
 simp only [List.length_append,List.length_take,List.length_singleton,List.length_drop]
 omega
theorem aq6 {cs : List AV} {i : Nat} {a : AV} (h : cs[i]? = some a) : i < cs.length:=by
 rcases Nat.lt_or_ge i cs.length with h' | h'
 ·exact h'
 ·rw [List.getElem?_eq_none h'] at h; cases h
theorem bk9 {S : AS} {p : Loc} {g off : Nat} {t : TypeId} {cs : List AV} {v : AV} (h : S.get p = some (.obj g t cs)) (hv : cs[off]? = some v) : ld1V S (.ptr p g 0 off) = some v:=by
 rw [cf6 h,List.head?_drop,hv]
def Kcc (tp tu fne tz : Nat) : BFn:=⟨20,[],
  .seq (.ops [⟨(some 2),none,.none,.mv (.t 0)⟩,
   ⟨(some 3),none,.none,.nc (.t 2)⟩,
   ⟨(some 4),none,.none,.fa 0 (.t 3)⟩,
   ⟨(some 5),none,(.at (.t 4)),.ld1 (.t 4)⟩,
   ⟨(some 6),none,.none,.gen (.binOp .eql tp (.tmp 5) (.const (.pointer none)) tp) tz⟩])
  (.cond (.t 6)
   (.ops [⟨(some 7),none,.none,.mv (.t 0)⟩,
    ⟨(some 8),none,.none,.mv (.t 0)⟩,
    ⟨(some 9),none,(.at (.t 8)),.gen (.convert tp tu (.tmp 8)) tu⟩,
    ⟨(some 10),none,.none,.gen (.call ⟨(.value (.func fne)),#[(.tmp 9)],#[tu]⟩) tu⟩,
    ⟨(some 11),none,(.at (.t 10)),.gen (.convert tu tp (.tmp 10)) tp⟩,
    ⟨(some 12),none,.none,.nc (.t 7)⟩,
    ⟨(some 13),none,.none,.fa 0 (.t 12)⟩,
    ⟨none,none,(.at (.t 13)),.st 1 (.t 13) (.t 11)⟩])
   (.seq
    (.ops [⟨(some 14),none,.none,.mv (.t 0)⟩,
     ⟨(some 15),none,.none,.nc (.t 14)⟩,
     ⟨(some 16),none,.none,.fa 0 (.t 15)⟩,
     ⟨(some 17),none,(.at (.t 16)),.ld1 (.t 16)⟩,
     ⟨(some 18),none,.none,.mv (.t 0)⟩,
     ⟨(some 19),none,.none,.gen (.binOp .neq tp (.tmp 17) (.tmp 18) tp) tz⟩])
    (.cond (.t 19) .bad .skip)))⟩
def Kws (fcc te : Nat) : BFn:=⟨19,[.t 4,.t 5],
  .seq (.ops [⟨(some 4),none,.none,.mv (.c (.lit (.int .i64 0)))⟩,
   ⟨(some 5),none,.none,.mv (.c (.lit .nilIface))⟩])
  (.seq (.ops [⟨(some 6),none,.none,.mv (.t 0)⟩,
    ⟨(some 7),none,.none,.cl fcc [(.t 6)]⟩])
  (.seq (.ops [⟨(some 8), none, .none, .mv (.t 0)⟩,
     ⟨(some 9),none,.none,.mv (.t 0)⟩,
     ⟨(some 10),none,.none,.nc (.t 9)⟩,
     ⟨(some 11),none,.none,.fa 1 (.t 10)⟩,
     ⟨(some 12),none,(.at (.t 11)),.ld1 (.t 11)⟩,
     ⟨(some 13),none,.none,.mv (.t 1)⟩,
     ⟨(some 14),none,(.app (.t 12) (.t 13)),.ap te 1 1 (.t 12) (.t 13)⟩,
     ⟨(some 15),none,.none,.nc (.t 8)⟩,
     ⟨(some 16),none,.none,.fa 1 (.t 15)⟩,
     ⟨none,none,(.at (.t 16)),.st 1 (.t 16) (.t 14)⟩])
  (.seq (.ops [⟨(some 17), none, .none, .mv (.t 1)⟩,
      ⟨(some 18),none,(.at (.t 17)),.ls (.t 17)⟩,
      ⟨(some 4),none,.none,.mv (.t 18)⟩,
      ⟨(some 5),none,.none,.mv (.c (.lit .nilIface))⟩])
   .ret)))⟩
def Kwb (fcc te : Nat) : BFn:=⟨17,[.t 4],
  .seq (.ops [⟨(some 4),none,.none,.mv (.c (.lit .nilIface))⟩])
  (.seq (.ops [⟨(some 5),none,.none,.mv (.t 0)⟩,
    ⟨(some 6),none,.none,.cl fcc [(.t 5)]⟩])
  (.seq (.ops [⟨(some 7), none, .none, .mv (.t 0)⟩,
     ⟨(some 8),none,.none,.mv (.t 0)⟩,
     ⟨(some 9),none,.none,.nc (.t 8)⟩,
     ⟨(some 10),none,.none,.fa 1 (.t 9)⟩,
     ⟨(some 11),none,(.at (.t 10)),.ld1 (.t 10)⟩,
     ⟨(some 12),none,.none,.mv (.t 1)⟩,
     ⟨(some 13),none,.here,.bsl te 1 [(.t 12)]⟩,
     ⟨(some 14),none,(.app (.t 11) (.t 13)),.ap te 1 1 (.t 11) (.t 13)⟩,
     ⟨(some 15),none,.none,.nc (.t 7)⟩,
     ⟨(some 16),none,.none,.fa 1 (.t 15)⟩,
     ⟨none,none,(.at (.t 16)),.st 1 (.t 16) (.t 14)⟩])
  (.seq (.ops [⟨(some 4),none,.none,.mv (.c (.lit .nilIface))⟩])
   .ret)))⟩
def ulog (u : Upd) : List Loc:=(u.getD ([],[])).2
theorem ct6 (S : AS) (u : Upd) : (S.after u).log = aP4 S.log (ulog u):=by
 cases u with
 | none=>rfl
 | some x=>rfl
theorem c88 (l : List UInt8) : (u8s l).all (fun e=>e.all AV.one) = true:=by
 unfold u8s
 rw [List.all_map]
 exact List.all_eq_true.2 fun x _=>rfl
theorem u8s_app (a b : List UInt8) : u8s a ++ u8s b = u8s (a ++ b):=by simp [u8s]
theorem aR3 (l : List UInt8) : (u8s l).length = l.length:=by simp [u8s]
structure Mid (S S2 : AS) (f : FuncId) (p : Loc) (g : Nat) (t : TypeId) (cs2 : List AV) : Prop where
 lvl : S2.lvl = S.lvl + 1
 fn : S2.fn = f
 dfr : S2.dfr = []
 srt : ar4 S2.log
 log : ∀ r ∈ S2.log,r = p ∨ (r.l = S.lvl + 1 ∧ r.k = 0)
 frame : ∀ r,r ∉ S2.log → S2.get r = S.get r
 get : S2.get p = some (.obj g t cs2)
theorem mid {S : AS} {p : Loc} {g : Nat} {t : TypeId} {f : FuncId} {u : Upd} {cs2 : List AV} (h1 : ((S.enter f).after u).lvl = S.lvl + 1) (h2 : ((S.enter f).after u).fn = f) (h3 : ((S.enter f).after u).dfr = []) (h4 : ((S.enter f).after u).get p = some (.obj g t cs2))
  (h5 : ∀ r ∈ ulog u,r = p ∨ (r.l = (S.enter f).lvl ∧ r.k = 0 ∧ r.i ≠ 0 ∧ (S.enter f).get r = none)) (h6 : ∀ r,r ∉ ulog u → ((S.enter f).after u).get r = (S.enter f).get r) : Mid S ((S.enter f).after u) f p g t cs2:=by
 have e : ((S.enter f).after u).log = aP4 [] (ulog u):=ct6 _ _
 refine ⟨h1,h2,h3,by rw [e]; exact ar4.merge List.Pairwise.nil,fun r hr=>?_,fun r hr=>h6 r fun hu=>hr ?_,h4⟩
 ·rw [e,ax0] at hr
  rcases hr with hr | hr
  ·cases hr
  ·rcases h5 r hr with h | h
   ·exact .inl h
   ·exact .inr ⟨h.1,h.2.1⟩
 ·rw [e,ax0]; exact .inr hu
section
variable [Cfg] {P : Program} {tp tb tu tz te fne fcc fws fwb : Nat}
structure aY7 (P : Program) (tp tb tu tz fne : Nat) : Prop where
 up : P.underlying tp = some (.pointer tb)
 uu : P.underlying tu = some .unsafePointer
 ib : ∃ i,P.info? tb = some i ∧ i.size ≠ 0
 ne : ∃ fn,P.funcs[fne]? = some fn ∧ fn.body.isNone = true
 same : Cfg.same fne = true
 nil : ∀ (T : BT) (S : AS), aop P S (aevF (BT.put T (some 5) (.lit (.pointer none)))) ⟨some 6, .binOp .eql tp (.tmp 5) (.const (.pointer none)) tp, tz, "", #[], none⟩ = some (.val (.lit (.bool true)))
variable {S : AS} {T : BT} {p : Loc} {g off : Nat} {t : TypeId} {cs : List AV}
theorem gen_nil (F : aY7 P tp tb tu tz fne) (h : T 5 = .lit (.pointer none)) : aop P S (aevF T) ⟨some 6, .binOp .eql tp (.tmp 5) (.const (.pointer none)) tp, tz, "", #[], none⟩ = some (.val (.lit (.bool true))) := by
 have:=F.nil T S
 have e : BT.put T (some 5) (.lit (.pointer none)) = T:=by
  funext k
  rw [put_at]
  split
  ·rename_i hk; subst hk; exact h.symm
  ·rfl
 rw [e] at this
 exact this
theorem gen_ptr (F : aY7 P tp tb tu tz fne) (h : T 5 = .ptr p g 0 off) : aop P S (aevF T) ⟨some 6, .binOp .eql tp (.tmp 5) (.const (.pointer none)) tp, tz, "", #[], none⟩ = some (.val (.lit (.bool false))) := by
 have h1 : aevF T (.tmp 5) = .ptr p g 0 off:=h
 have h2 : aevF T (.const (.pointer none)) = .lit (.pointer none):=rfl
 simp only [aop,h1,h2,acmp,aO2,F.up,bj4,if_true,Option.map_some,as2]
theorem gen_self (F : aY7 P tp tb tu tz fne) (h : T 17 = .ptr p g 0 off) (h' : T 18 = .ptr p g 0 off) : aop P S (aevF T) ⟨some 19, .binOp .neq tp (.tmp 17) (.tmp 18) tp, tz, "", #[], none⟩ = some (.val (.lit (.bool false))) := by
 have h1 : aevF T (.tmp 17) = .ptr p g 0 off:=h
 have h2 : aevF T (.tmp 18) = .ptr p g 0 off:=h'
 obtain ⟨i,hi,hz⟩:=F.ib
 simp only [aop,h1,h2,acmp,aO2,F.up,hi,Option.map_some,Option.getD_some,true_and,hz,ne_eq,not_false_eq_true,if_true,decide_true,as2,Bool.not_true]
theorem gen_conv (F : aY7 P tp tb tu tz fne) (h : T 8 = .ptr p g 0 off) (hS : S.get p = some (.obj g t cs)) (ho : off < cs.length) : aop P S (aevF T) ⟨some 9, .convert tp tu (.tmp 8), tu, "", #[], none⟩ = some (.val (.ptr p g 0 off)) := by
 have h1 : aevF T (.tmp 8) = .ptr p g 0 off:=h
 obtain ⟨i,hi,hz⟩:=F.ib
 simp only [aop,h1,aE1,F.up,F.uu,orA,aD7,hS,hi,ho,hz,ne_eq,not_false_eq_true,and_self,if_true,as2]
theorem gen_ne (F : aY7 P tp tb tu tz fne) (h : T 9 = .ptr p g 0 off) : aop P S (aevF T) ⟨some 10, .call ⟨(.value (.func fne)), #[(.tmp 9)], #[tu]⟩, tu, "", #[], none⟩ = some (.val (.ptr p g 0 off)) := by
 have h1 : aevF T (.tmp 9) = .ptr p g 0 off:=h
 have h2 : aR5 (aevF T (.func fne)) = some (fne,[]):=rfl
 obtain ⟨fn,hf,hb⟩:=F.ne
 simp only [aop,h2,hf,hb,F.same,if_true,List.map_cons,List.map_nil,h1,List.append_nil]
theorem gen_back (F : aY7 P tp tb tu tz fne) (h : T 10 = .ptr p g 0 off) (hS : S.get p = some (.obj g t cs)) (hl : liesAt P P.depth t (cs.length / P.cellsOf t) off tb 1 = true) : aop P S (aevF T) ⟨some 11, .convert tu tp (.tmp 10), tp, "", #[], none⟩ = some (.val (.ptr p g 0 off)) := by
 have h1 : aevF T (.tmp 10) = .ptr p g 0 off:=h
 obtain ⟨i,hi,hz⟩:=F.ib
 simp only [aop,h1,aE1,F.up,F.uu,orA,aD7,hS,hi,hl,and_self,if_true,as2]
theorem cc_nil (F : aY7 P tp tb tu tz fne) (hS : S.get p = some (.obj g t cs)) (hl : liesAt P P.depth t (cs.length / P.cellsOf t) off tb 1 = true) (hc : cs[off]? = some (.lit (.pointer none))) :
  ∃ T',aw8 P (Kcc tp tu fne tz).code (bF8 [.ptr p g 0 off]) S = some (.normal,T',S.set p (.obj g t (splice cs off [.ptr p g 0 off]))):=by
 have ho:=aq6 hc
 have hld:=bk9 hS hc
 have g1:=fun T h=>gen_nil (S:=S) (T:=T) F h
 have g2:=fun T h=>gen_conv (S:=S) (T:=T) (p:=p) (g:=g) (off:=off) F h hS ho
 have g3:=fun T h=>gen_ne (S:=S) (T:=T) (p:=p) (g:=g) (off:=off) F h
 have g4:=fun T h=>gen_back (S:=S) (T:=T) (p:=p) (g:=g) (off:=off) F h hS hl
 have st:=bh8 (S:=S) (p:=p) (g:=g) (off:=off) (n:=1) (t:=t) (cs:=cs) (xs:=[.ptr p g 0 off]) hS rfl (by simp only [List.length_singleton]; omega) rfl
 have ho' : off + 1 ≤ cs.length:=ho
 refine Exists.intro ?T ?run
 case run =>
  unfold Kcc
  simp (disch:=first | omega | with_unfolding_all exact id rfl | (simp only [ay4,List.length_cons,List.length_nil,List.length_append,List.length_map,List.length_drop,List.drop_succ_cons,List.drop_zero,Nat.reduceAdd,Nat.reduceLeDiff,Nat.le_refl] <;> omega)) only [go_sem,↓reduceIte,Nat.reduceEqDiff,Option.map_some,Nat.add_zero,hld,g1,g2,g3,g4,st]
  rfl
theorem cc_self (F : aY7 P tp tb tu tz fne) (hS : S.get p = some (.obj g t cs)) (hc : cs[off]? = some (.ptr p g 0 off)) :
  ∃ T',aw8 P (Kcc tp tu fne tz).code (bF8 [.ptr p g 0 off]) S = some (.normal,T',S):=by
 have ho:=aq6 hc
 have hld:=bk9 hS hc
 have g1:=fun T h=>gen_ptr (S:=S) (T:=T) (p:=p) (g:=g) (off:=off) F h
 have g2:=fun T h h'=>gen_self (S:=S) (T:=T) (p:=p) (g:=g) (off:=off) F h h'
 refine Exists.intro ?T ?run
 case run =>
  unfold Kcc
  simp (disch:=first | omega | with_unfolding_all exact id rfl | (simp only [ay4,List.length_cons,List.length_nil,List.length_append,List.length_map,List.length_drop,List.drop_succ_cons,List.drop_zero,Nat.reduceAdd,Nat.reduceLeDiff,Nat.le_refl] <;> omega)) only [go_sem,↓reduceIte,Nat.reduceEqDiff,Nat.add_zero,hld,g1,g2]
  rfl
structure BLD (te : TypeId) (S : AS) (p : Loc) (g : Nat) (t : TypeId) (off : Nat) (cs : List AV) (l : List UInt8) (q : Option Loc) : Prop where
 get : S.get p = some (.obj g t cs)
 co : ∀ a ∈ cs,Co S.lvl a
 len : cs.length ≤ 1000
 lv : p.l ≤ S.lvl
 addr : cs[off]? = some (.lit (.pointer none)) ∨ cs[off]? = some (.ptr p g 0 off)
 buf : (l = [] ∧ q = none ∧ cs[off + 1]? = some (.lit (.slice none 0 0))) ∨ ∃ q' h,l ≠ [] ∧ q = some q' ∧ cs[off + 1]? = some (.list (.own q' h) 1 (u8s l)) ∧ S.get q' = some (.tok h l.length 1 te) ∧ q'.l ≤ S.lvl
structure Wrote (te : TypeId) (S : AS) (u : Upd) (p : Loc) (g : Nat) (t : TypeId) (off : Nat) (cs cs' : List AV) (l' : List UInt8) (q q' : Option Loc) : Prop where
 lvl : (S.after u).lvl = S.lvl
 fn : (S.after u).fn = S.fn
 dfr : (S.after u).dfr = S.dfr
 bld : BLD te (S.after u) p g t off cs' l' q'
 len : cs'.length = cs.length
 others : ∀ i,i ≠ off → i ≠ off + 1 → cs'[i]? = cs[i]?
 room : q' = q ∨ ∃ q1,q' = some q1 ∧ q = none ∧ q1.l = S.lvl ∧ q1.k = 0 ∧ q1.i ≠ 0 ∧ S.get q1 = none
 log : ∀ r ∈ ulog u,r = p ∨ some r = q ∨ (r.l = S.lvl ∧ r.k = 0 ∧ r.i ≠ 0 ∧ S.get r = none)
 frame : ∀ r,r ∉ ulog u → (S.after u).get r = S.get r
theorem up_args {f h : FuncId} (_hup : Cfg.up f h = true) (args : List AV) : aT0 f h args = args.map AV.ag0:=rfl
theorem au6 {f : FuncId} {S S' : AS} {v x : AV} {u : Upd} (h : ao2 f S S' v = some (x,u)) : ∀ r,r ∉ ulog u → (S.after u).get r = S.get r:=by
 cases u with
 | none=>exact fun _ _=>rfl
 | some y=>exact fun r hr=>bg7 h r hr
theorem cc_ok (F : aY7 P tp tb tu tz fne) (hg : Cfg.given fcc = none) (hf : aq2 P fcc = some (Kcc tp tu fne tz)) (hup : Cfg.up fcc S.fn = true) (hS : S.get p = some (.obj g t cs)) (hl : liesAt P P.depth t (cs.length / P.cellsOf t) off tb 1 = true)
  (hpl : p.l ≤ S.lvl) (hco : ∀ a ∈ cs,Co S.lvl a) (hlen : cs.length ≤ 1000) (hc : cs[off]? = some (.lit (.pointer none)) ∨ cs[off]? = some (.ptr p g 0 off)) :
  ∃ u,ak5 P fcc [.ptr p g 0 off] S = some (.ret (.tup []),u) ∧ (S.after u).lvl = S.lvl ∧ (S.after u).fn = S.fn ∧ (S.after u).dfr = S.dfr ∧ (S.after u).get p = some (.obj g t (splice cs off [.ptr p g 0 off])) ∧
   (∀ r ∈ ulog u,r = p ∨ (r.l = S.lvl ∧ r.k = 0 ∧ r.i ≠ 0 ∧ S.get r = none)) ∧ ∀ r,r ∉ ulog u → (S.after u).get r = S.get r:=by
 have ho : off < cs.length:=by rcases hc with hc | hc <;> exact aq6 hc
 rcases hc with hc | hc
 ·obtain ⟨T',hx⟩:=cc_nil (S:=S.enter fcc) F hS hl hc
  have hlog : ((S.enter fcc).set p (.obj g t (splice cs off [.ptr p g 0 off]))).log = [p]:=rfl
  have hmem : ∀ r,r ∈ ((S.enter fcc).set p (.obj g t (splice cs off [.ptr p g 0 off]))).outs S.lvl ↔ r = p:=fun r=>by
   rw [ar8,hlog,List.mem_singleton]
   exact ⟨fun h=>h.1,fun h=>⟨h,by subst h; exact hpl⟩⟩
  have hco' : ∀ a ∈ splice cs off [AV.ptr p g 0 off],Co S.lvl a:=fun a ha=>by
   rcases cC9 ha with ha | rfl
   ·exact hco a ha
   ·exact .p hpl
  obtain ⟨u,ρ,k1,k2,k3,k4,k5,k6,k7,_⟩:=bZ5 (f:=fcc) (S:=S) (S':=(S.enter fcc).set p (.obj g t (splice cs off [.ptr p g 0 off]))) (v:=.tup []) hup rfl (by rw [hlog]; exact List.pairwise_singleton ..) (W:=[p]) (fun r hr=>List.mem_singleton.2 ((hmem r).1 hr)) (by simp)
   (fun r hr=>by
    obtain rfl:=(hmem r).1 hr
    exact ⟨_,AS.get_set_same ..,.obj (fun a ha=>(hco' a ha).cl) (by rw [bB9 ho]; exact hlen)⟩)
   (fun r hr hno=>by rw [aZ9,if_neg fun e=>hno ((hmem r).2 e)]; rfl)
  refine ⟨u,aY9 hg hf (Nat.le_of_ble_eq_true rfl) ?_,k2,k3,k4,?_,fun r hr=>?_,au6 k1⟩
  ·rw [show aT0 fcc S.fn [AV.ptr p g 0 off] = [AV.ptr p g 0 off] from rfl,hx,aS6 rfl]
   show bret fcc S _ (some []) = _
   unfold bret
   simp only [cc9,k1,Option.map_some]
  ·rw [k5 p _ ((hmem p).2 rfl) (AS.get_set_same ..)]
   simp only [c73,co_map hco']
  ·rcases k7 r hr with h | h
   ·exact .inl ((hmem r).1 h)
   ·exact .inr h
 ·obtain ⟨T',hx⟩:=cc_self (S:=S.enter fcc) F hS hc
  obtain ⟨u,ρ,k1,k2,k3,k4,_,k6,k7,_⟩:=bZ5 (f:=fcc) (S:=S) (S':=S.enter fcc) (v:=.tup []) hup rfl List.Pairwise.nil (W:=[]) (fun r hr=>by rw [aY4] at hr; cases hr) (by simp)
   (fun r hr=>by rw [aY4] at hr; cases hr) (fun r hr hno=>rfl)
  have e : splice cs off [AV.ptr p g 0 off] = cs:=by
   apply List.ext_getElem?
   intro i
   rw [bE6 ho]
   split
   ·rename_i hi; subst hi; exact hc.symm
   ·rfl
  refine ⟨u,aY9 hg hf (Nat.le_of_ble_eq_true rfl) ?_,k2,k3,k4,?_,fun r hr=>?_,au6 k1⟩
  ·rw [show aT0 fcc S.fn [AV.ptr p g 0 off] = [AV.ptr p g 0 off] from rfl,hx,aS6 rfl]
   show bret fcc S _ (some []) = _
   unfold bret
   simp only [cc9,k1,Option.map_some]
  ·rw [e,au6 k1 p fun hp=>?_]
   ·exact hS
   ·rcases k7 p hp with h | h
    ·rw [aY4] at h; cases h
    ·rw [hS] at h; exact nomatch h.2.2.2
  ·rcases k7 r hr with h | h
   ·rw [aY4] at h; cases h
   ·exact .inr h
theorem bld_fin {f : FuncId} {S4 : AS} {cs4 : List AV} {l4 : List UInt8} {q : Option Loc} {v : AV} (hup : Cfg.up f S.fn = true) (hv : v.closed = true) (hpl : p.l ≤ S.lvl) (hqp : ∀ r,some r = q → r.l ≤ S.lvl ∧ r ≠ p) (hlog : ar4 S4.log) (hm : ∀ r ∈ S4.log,r = p ∨ some r = q ∨ S.lvl < r.l)
  (hfr : ∀ r,r.l ≤ S.lvl → r ∉ S4.log → S4.get r = S.get r) (hp : p ∈ S4.log) (h4 : S4.get p = some (.obj g t cs4)) (hlen : cs4.length = cs.length) (hcl : cs.length ≤ 1000) (hoth : ∀ i,i ≠ off → i ≠ off + 1 → cs4[i]? = cs[i]?)
  (hco : ∀ i a,i ≠ off + 1 → cs4[i]? = some a → Co S.lvl a) (haddr : cs4[off]? = some (.ptr p g 0 off))
  (hbuf : (l4 = [] ∧ q = none ∧ cs4[off + 1]? = some (.lit (.slice none 0 0))) ∨ ∃ q1 h,l4 ≠ [] ∧ cs4[off + 1]? = some (.list (.own q1 h) 1 (u8s l4)) ∧ S4.get q1 = some (.tok h l4.length 1 te) ∧ ((q = some q1 ∧ q1.l ≤ S.lvl) ∨ (q = none ∧ S.lvl < q1.l)))
  (hq : ∀ r,some r = q → ∃ h m sz e,S4.get r = some (.tok h m sz e)) :
  ∃ u cs' q',ao2 f S S4 v = some (v,u) ∧ Wrote te S u p g t off cs cs' l4 q q':=by
 have hclo : AV.aj0 (u8s l4) = true:=by
  have : ∀ l : List UInt8,AV.aj0 (u8s l) = true:=fun l=>by
   induction l with
   | nil=>rfl
   | cons a r ih=>simp only [u8s,List.map_cons,AV.aj0,AV.af2,AV.closed,Bool.true_and]; exact ih
  exact this l4
 have hmem : ∀ r,r ∈ S4.outs S.lvl → r = p ∨ some r = q:=fun r hr=>by
  obtain ⟨h1,h2⟩:=ar8.1 hr
  rcases hm r h1 with h | h | h
  ·exact .inl h
  ·exact .inr h
  ·omega
 have hpo : p ∈ S4.outs S.lvl:=ar8.2 ⟨hp,hpl⟩
 have hcl4 : ∀ a ∈ cs4,Cl S4 S.lvl a:=fun a ha=>by
  obtain ⟨i,hi⟩:=List.getElem?_of_mem ha
  by_cases e : i = off + 1
  ·subst e
   rcases hbuf with ⟨_,_,h⟩ | ⟨q1,h,_,h2,h3,h4⟩
   ·rw [h] at hi; cases hi; exact .c rfl
   ·rw [h2] at hi; cases hi
    rcases h4 with ⟨_,h4⟩ | ⟨_,h4⟩
    ·exact .t hclo h4
    ·exact .d (e:=te) hclo h4 (by rw [h3]; simp [u8s])
  ·exact (hco i a e hi).cl
 obtain ⟨u,ρ,k1,k2,k3,k4,k5,k6,k7,k8⟩:=bZ5 (f:=f) (S:=S) (S':=S4) (v:=v) hup hv hlog (W:=p :: q.toList) (fun r hr=>by
   rcases hmem r hr with h | h
   ·exact List.mem_cons.2 (.inl h)
   ·refine List.mem_cons.2 (.inr ?_)
    rw [← h]; simp) (by cases q <;> simp)
  (fun r hr=>by
   rcases hmem r hr with rfl | h
   ·exact ⟨_,h4,.obj hcl4 (by omega)⟩
   ·obtain ⟨h,m,sz,e,hs⟩:=hq r h
    exact ⟨_,hs,.tok⟩)
  (fun r hr hno=>hfr r hr fun hl=>hno (ar8.2 ⟨hl,hr⟩))
 have hget:=k5 p _ hpo h4
 simp only [c73] at hget
 have hcell : ∀ i a,i ≠ off + 1 → cs4[i]? = some a → (cs4.map (renA S.lvl ρ))[i]? = some a:=fun i a hi ha=>by
  rw [List.getElem?_map,ha,Option.map_some,(hco i a hi ha).ren]
 have hlv : (S.after u).lvl = S.lvl:=k2
 have hold : ∀ r,some r = q → r ∉ S4.outs S.lvl → S.get r = S4.get r:=fun r hr hno=>(hfr r (hqp r hr).1 fun hl=>hno (ar8.2 ⟨hl,(hqp r hr).1⟩)).symm
 have hnew : ∀ r,some r = q → (S.after u).get r = S4.get r:=fun r hr=>by
  obtain ⟨h,m,sz,e,hs⟩:=hq r hr
  by_cases ho : r ∈ S4.outs S.lvl
  ·rw [k5 r _ ho hs,hs]; rfl
  ·by_cases hu : r ∈ ulog u
   ·rcases k7 r hu with h' | h'
    ·exact absurd h' ho
    ·rw [hold r hr ho,hs] at h'
     exact nomatch h'.2.2.2
   ·rw [au6 k1 r hu,hold r hr ho]
 have hoths : ∀ i,i ≠ off → i ≠ off + 1 → (cs4.map (renA S.lvl ρ))[i]? = cs[i]?:=fun i h1 h2=>by
  rw [← hoth i h1 h2]
  cases hi : cs4[i]? with
  | none=>rw [List.getElem?_map,hi]; rfl
  | some a=>exact hcell i a h2 hi
 have hlogs : ∀ r ∈ ulog u,r = p ∨ some r = q ∨ (r.l = S.lvl ∧ r.k = 0 ∧ r.i ≠ 0 ∧ S.get r = none):=fun r hr=>by
  rcases k7 r hr with h | h
  ·rcases hmem r h with h | h
   ·exact .inl h
   ·exact .inr (.inl h)
  ·exact .inr (.inr h)
 rcases hbuf with ⟨hl,hqn,hb⟩ | ⟨q1,h,hl,hb,htok,hside⟩
 ·refine ⟨u,_,none,k1,hlv,k3,k4,⟨hget,?_,by rw [List.length_map]; omega,by rw [hlv]; exact hpl,.inr (hcell _ _ (by omega) haddr),.inl ⟨hl,rfl,?_⟩⟩,by rw [List.length_map]; exact hlen,hoths,.inl hqn.symm,hlogs,au6 k1⟩
  ·intro a ha
   obtain ⟨i,hi⟩:=List.getElem?_of_mem ha
   rw [List.getElem?_map] at hi
   obtain ⟨b,hb1,rfl⟩:=Option.map_eq_some_iff.1 hi
   rw [hlv]
   by_cases e : i = off + 1
   ·subst e
    rw [hb] at hb1; cases hb1
    exact .c rfl
   ·rw [(hco i b e hb1).ren]; exact hco i b e hb1
  ·rw [List.getElem?_map,hb]; rfl
 ·rcases hside with ⟨rfl,hql⟩ | ⟨rfl,hql⟩
  ·have hren : renA S.lvl ρ (.list (.own q1 h) 1 (u8s l4)) = .list (.own q1 h) 1 (u8s l4):=by simp only [renA,if_pos hql]
   refine ⟨u,_,some q1,k1,hlv,k3,k4,⟨hget,?_,by rw [List.length_map]; omega,by rw [hlv]; exact hpl,.inr (hcell _ _ (by omega) haddr),.inr ⟨q1,h,hl,rfl,?_,?_,by rw [hlv]; exact hql⟩⟩,by rw [List.length_map]; exact hlen,hoths,.inl rfl,hlogs,au6 k1⟩
   ·intro a ha
    obtain ⟨i,hi⟩:=List.getElem?_of_mem ha
    rw [List.getElem?_map] at hi
    obtain ⟨b,hb1,rfl⟩:=Option.map_eq_some_iff.1 hi
    rw [hlv]
    by_cases e : i = off + 1
    ·subst e
     rw [hb] at hb1; cases hb1
     rw [hren]
     exact .t hclo hql
    ·rw [(hco i b e hb1).ren]; exact hco i b e hb1
   ·rw [List.getElem?_map,hb,Option.map_some,hren]
   ·rw [hnew q1 rfl]; exact htok
  ·have hren : renA S.lvl ρ (.list (.own q1 h) 1 (u8s l4)) = .list (.own (ρ q1) 0) 1 (u8s l4):=by simp only [renA,if_neg (Nat.not_le.2 hql)]
   obtain ⟨m1,m2,m3,m4,m5⟩:=k8 p g t cs4 hpo h4 q1 h 1 (u8s l4) (List.mem_of_getElem? hb) hql _ _ htok
   refine ⟨u,_,some (ρ q1),k1,hlv,k3,k4,⟨hget,?_,by rw [List.length_map]; omega,by rw [hlv]; exact hpl,.inr (hcell _ _ (by omega) haddr),.inr ⟨ρ q1,0,hl,rfl,?_,m5,by rw [hlv]; exact Nat.le_of_eq m1⟩⟩,by rw [List.length_map]; exact hlen,hoths,.inr ⟨_,rfl,rfl,m1,m2,m3,m4⟩,hlogs,au6 k1⟩
   ·intro a ha
    obtain ⟨i,hi⟩:=List.getElem?_of_mem ha
    rw [List.getElem?_map] at hi
    obtain ⟨b,hb1,rfl⟩:=Option.map_eq_some_iff.1 hi
    rw [hlv]
    by_cases e : i = off + 1
    ·subst e
     rw [hb] at hb1; cases hb1
     rw [hren]
     exact .t hclo (Nat.le_of_eq m1)
    ·rw [(hco i b e hb1).ren]; exact hco i b e hb1
   ·rw [List.getElem?_map,hb,Option.map_some,hren]
theorem lay {f : FuncId} {S2 : AS} {l x : List UInt8} {q : Option Loc} {d : Nat} {v : AV} (hup : Cfg.up f S.fn = true) (hv : v.closed = true) (hlive : Cfg.live f d = false) (hB : BLD te S p g t off cs l q) (hsz : l.length + x.length ≤ 1000000000)
  (hM : Mid S S2 f p g t (splice cs off [.ptr p g 0 off])) :
  ∃ b c S3,(splice cs off [.ptr p g 0 off])[off + 1]? = some b ∧ (appB S2 d te 1 1 b (u8s x) = some (.val c) ∧ S3 = S2 ∨ ∃ r s,appB S2 d te 1 1 b (u8s x) = some (.chg c r s) ∧ S3 = S2.set r s) ∧ c.cells = [c] ∧ c.one = true ∧ S3.lvl = S2.lvl ∧ S3.fn = f ∧ S3.dfr = [] ∧
   S3.get p = some (.obj g t (splice cs off [.ptr p g 0 off])) ∧
   ∃ u cs' q',ao2 f S (S3.set p (.obj g t (splice (splice cs off [.ptr p g 0 off]) (off + 1) [c]))) v = some (v,u) ∧ Wrote te S u p g t off cs cs' (l ++ x) q q':=by
 have ho : off < cs.length:=by rcases hB.addr with h | h <;> exact aq6 h
 have ho1 : off + 1 < cs.length:=by rcases hB.buf with ⟨_,_,h⟩ | ⟨_,_,_,_,h,_⟩ <;> exact aq6 h
 obtain ⟨cs2,e2⟩ : ∃ cs2,cs2 = splice cs off [AV.ptr p g 0 off]:=⟨_,rfl⟩
 have hg2 : ∀ i,cs2[i]? = if i = off then some (.ptr p g 0 off) else cs[i]?:=fun i=>by rw [e2]; exact bE6 ho
 have hl2 : cs2.length = cs.length:=by rw [e2]; exact bB9 ho
 rw [← e2] at hM ⊢
 have hb2 : cs2[off + 1]? = cs[off + 1]?:=by rw [hg2,if_neg (by omega)]
 have hco2 : ∀ i a,cs2[i]? = some a → Co S.lvl a:=fun i a ha=>by
  rw [hg2] at ha
  split at ha
  ·cases ha; exact .p hB.lv
  ·exact hB.co a (List.mem_of_getElem? ha)
 -- what is common
 have fin : ∀ (S3 : AS) (c : AV),(∀ i,(splice cs2 (off + 1) [c])[i]? = if i = off + 1 then some c else cs2[i]?) → ar4 S3.log → (∀ r ∈ S3.log,r = p ∨ some r = q ∨ S.lvl < r.l) → (∀ r,r.l ≤ S.lvl → r ∉ S3.log → S3.get r = S.get r) → (∀ r,r ≠ p → some r = q → ∃ h m sz e,S3.get r = some (.tok h m sz e)) →
   (((l ++ x) = [] ∧ q = none ∧ c = .lit (.slice none 0 0)) ∨ ∃ q1 h,l ++ x ≠ [] ∧ c = .list (.own q1 h) 1 (u8s (l ++ x)) ∧ q1 ≠ p ∧ S3.get q1 = some (.tok h (l ++ x).length 1 te) ∧ ((q = some q1 ∧ q1.l ≤ S.lvl) ∨ (q = none ∧ S.lvl < q1.l))) →
   ∃ u cs' q',ao2 f S (S3.set p (.obj g t (splice cs2 (off + 1) [c]))) v = some (v,u) ∧ Wrote te S u p g t off cs cs' (l ++ x) q q':=by
  intro S3 c hc hs hm hfr hq hbuf
  have hqp : ∀ r,some r = q → r.l ≤ S.lvl ∧ r ≠ p:=fun r hr=>by
   rcases hB.buf with ⟨_,hqn,_⟩ | ⟨q',h,_,hqs,_,htok,hql⟩
   ·rw [hqn] at hr; cases hr
   ·rw [hqs] at hr; cases hr
    exact ⟨hql,fun e=>by rw [e,hB.get] at htok; cases htok⟩
  refine bld_fin (cs4:=splice cs2 (off + 1) [c]) hup hv hB.lv hqp hs.put ?_ ?_ ?_ (AS.get_set_same ..) ?_ hB.len ?_ ?_ ?_ ?_ ?_
  ·intro r hr
   rcases af8.1 hr with hr | rfl
   ·exact hm r hr
   ·exact .inl rfl
  ·intro r hr hno
   have hne : r ≠ p:=fun e=>hno (af8.2 (.inr e))
   rw [aZ9,if_neg hne]
   exact hfr r hr fun hl=>hno (af8.2 (.inl hl))
  ·exact af8.2 (.inr rfl)
  ·rw [bB9 (by omega)]; exact hl2
  ·intro i h1 h2
   rw [hc,if_neg h2,hg2,if_neg h1]
  ·intro i a h1 ha
   rw [hc,if_neg h1] at ha
   exact hco2 i a ha
  ·rw [hc,if_neg (by omega),hg2,if_pos rfl]
  ·rcases hbuf with ⟨h1,h2,rfl⟩ | ⟨q1,h,h1,rfl,h2,h3,h4⟩
   ·exact .inl ⟨h1,h2,by rw [hc,if_pos rfl]⟩
   ·exact .inr ⟨q1,h,h1,by rw [hc,if_pos rfl],by rw [aZ9,if_neg h2]; exact h3,h4⟩
  ·intro r hr
   have hne:=(hqp r hr).2
   obtain ⟨h,m,sz,e,hs⟩:=hq r hne hr
   exact ⟨h,m,sz,e,by rw [aZ9,if_neg hne]; exact hs⟩
 have hspl : ∀ c : AV,∀ i,(splice cs2 (off + 1) [c])[i]? = if i = off + 1 then some c else cs2[i]?:=fun c i=>bE6 (by omega)
 have hlogM : ∀ r ∈ S2.log,r = p ∨ some r = q ∨ S.lvl < r.l:=fun r hr=>by
  rcases hM.log r hr with h | h
  ·exact .inl h
  ·exact .inr (.inr (by omega))
 have hqM : ∀ r,r ≠ p → some r = q → S2.get r = S.get r:=fun r hne hr=>by
  refine hM.frame r fun hl=>?_
  rcases hM.log r hl with h | h
  ·exact hne h
  ·rcases hB.buf with ⟨_,hqn,_⟩ | ⟨q',_,_,hqs,_,_,hql⟩
   ·rw [hqn] at hr; cases hr
   ·rw [hqs] at hr; cases hr; omega
 rcases hB.buf with ⟨hl,hqn,hb⟩ | ⟨q1,h,hl,hqs,hb,htok,hql⟩
 ·subst hl
  cases x with
  | nil =>
   refine ⟨_,.lit (.slice none 0 0),S2,by rw [hb2,hb],.inl ⟨rfl,rfl⟩,rfl,rfl,rfl,hM.fn,hM.dfr,hM.get,fin S2 _ (hspl _) hM.srt hlogM (fun r _ h=>hM.frame r h) (fun r hne hr=>by rw [hqn] at hr; cases hr) (.inl ⟨rfl,hqn,rfl⟩)⟩
  | cons a x =>
   have happ:=cM4 (S:=S2) (d0:=d) (e:=te) (n:=1) (bytes:=1) (news:=u8s (a :: x)) (by rw [hM.fn]; exact hlive) (c88 _) (by rw [aR3]; simp) (by omega) (by rw [aR3]; simp only [List.length_nil] at hsz; omega)
   have hhp : S2.here d ≠ p:=fun e=>by
    have:=hB.lv
    rw [← e] at this
    simp only [AS.here,hM.lvl] at this
    omega
   refine ⟨_,_,S2.set (S2.here d) (.tok (S2.fresh (S2.here d)) (u8s (a :: x)).length 1 te),by rw [hb2,hb],.inr ⟨_,_,happ,rfl⟩,rfl,rfl,rfl,hM.fn,hM.dfr,by rw [aZ9,if_neg (Ne.symm hhp)]; exact hM.get,fin _ _ (hspl _) hM.srt.put ?_ ?_ ?_ (.inr ⟨S2.here d,S2.fresh (S2.here d),by simp,rfl,hhp,by rw [AS.get_set_same,aR3]; rfl,.inr ⟨hqn,by simp only [AS.here,hM.lvl]; omega⟩⟩)⟩
   ·intro r hr
    rcases af8.1 hr with hr | rfl
    ·exact hlogM r hr
    ·exact .inr (.inr (by simp only [AS.here,hM.lvl]; omega))
   ·intro r hr hno
    rw [aZ9,if_neg fun e=>by subst e; simp only [AS.here,hM.lvl] at hr; omega]
    exact hM.frame r fun hl=>hno (af8.2 (.inl hl))
   ·intro r _ hr; rw [hqn] at hr; cases hr
 ·have hqp : q1 ≠ p:=fun e=>by rw [e,hB.get] at htok; cases htok
  have hq2 : S2.get q1 = some (.tok h l.length 1 te):=by rw [hqM q1 hqp hqs.symm]; exact htok
  cases x with
  | nil =>
   refine ⟨_,.list (.own q1 h) 1 (u8s l),S2,by rw [hb2,hb],.inl ⟨rfl,rfl⟩,rfl,rfl,rfl,hM.fn,hM.dfr,hM.get,fin S2 _ (hspl _) hM.srt hlogM (fun r _ h=>hM.frame r h) (fun r hne hr=>?_) (.inr ⟨q1,h,by simpa using hl,by rw [List.append_nil],hqp,by rw [List.append_nil]; exact hq2,.inl ⟨hqs,hql⟩⟩)⟩
   rw [hqs] at hr; cases hr
   exact ⟨_,_,_,_,hq2⟩
  | cons a x =>
   have happ:=bX0 (S:=S2) (d0:=d) (e:=te) (n:=1) (bytes:=1) (news:=u8s (a :: x)) (es:=u8s l) (p:=q1) (g:=h) (by rw [aR3]; exact hq2) (c88 _) (by rw [aR3]; simp) (by omega) (by rw [aR3,aR3]; exact hsz)
   refine ⟨_,_,S2.set q1 (.tok h ((u8s l).length + (u8s (a :: x)).length) 1 te),by rw [hb2,hb],.inr ⟨_,_,happ,rfl⟩,rfl,rfl,rfl,hM.fn,hM.dfr,by rw [aZ9,if_neg (Ne.symm hqp)]; exact hM.get,fin _ _ (hspl _) hM.srt.put ?_ ?_ ?_ (.inr ⟨q1,h,by simp,by rw [u8s_app],hqp,by rw [AS.get_set_same,aR3,aR3,List.length_append],.inl ⟨hqs,hql⟩⟩)⟩
   ·intro r hr
    rcases af8.1 hr with hr | rfl
    ·exact hlogM r hr
    ·exact .inr (.inl hqs.symm)
   ·intro r hr hno
    rw [aZ9,if_neg fun e=>hno (af8.2 (.inr e))]
    exact hM.frame r fun hl=>hno (af8.2 (.inl hl))
   ·intro r _ hr
    rw [hqs] at hr; cases hr
    exact ⟨_,_,_,_,AS.get_set_same ..⟩
theorem ws_ok {l x : List UInt8} {q : Option Loc} (F : aY7 P tp tb tu tz fne) (hgc : Cfg.given fcc = none) (hfc : aq2 P fcc = some (Kcc tp tu fne tz)) (hg : Cfg.given fws = none) (hf : aq2 P fws = some (Kws fcc te)) (hupc : Cfg.up fcc fws = true) (hup : Cfg.up fws S.fn = true)
  (hlive : Cfg.live fws 14 = false) (hl : liesAt P P.depth t (cs.length / P.cellsOf t) off tb 1 = true) (hB : BLD te S p g t off cs l q) (hsz : l.length + x.length ≤ 1000000000) :
  ∃ u v cs' q',ak5 P fws [.ptr p g 0 off,.lit (.string (bs x))] S = some (.ret v,u) ∧ Wrote te S u p g t off cs cs' (l ++ x) q q':=by
 obtain ⟨u,k1,k2,k3,k4,k5,k6,k7⟩:=cc_ok (S:=S.enter fws) (p:=p) (g:=g) (off:=off) (t:=t) (cs:=cs) F hgc hfc hupc hB.get hl (Nat.le_succ_of_le hB.lv) (fun a ha=>(hB.co a ha).up) hB.len hB.addr
 have hM:=mid k2 k3 k4 k5 k6 k7
 obtain ⟨b,c,S3,h1,h2,h3,h4,h5,h6,h7,h8,u2,cs',q',h9,h10⟩:=lay (v:=.tup [.lit (.int .i64 x.length),.lit .nilIface]) (x:=x) hup rfl hlive hB hsz hM
 have hld:=bk9 hM.get h1
 have hne : ao5 ((S.enter fws).after u) 1 (.lit (.string (bs x))) = some (u8s x):=by
  simp [ao5,bs,u8s]
 have ho1 : off + 1 + 1 ≤ (splice cs off [AV.ptr p g 0 off]).length:=aq6 h1
 have st:=bh8 (S:=S3) (p:=p) (g:=g) (off:=off + 1) (n:=1) (t:=t) (cs:=splice cs off [AV.ptr p g 0 off]) (xs:=[c]) h8 rfl ho1 (by simp [h4])
 have hfn : (S.enter fws).fn = fws:=rfl
 refine ⟨u2,_,cs',q',aY9 hg hf (Nat.le_of_ble_eq_true rfl) (?run : bfin fws [.t 4,.t 5] S _ = some (.ret (.tup [.lit (.int .i64 x.length),.lit .nilIface]),u2)),h10⟩
 rw [show aT0 fws S.fn [AV.ptr p g 0 off,.lit (.string (bs x))] = [AV.ptr p g 0 off,.lit (.string (bs x))] from rfl]
 unfold Kws
 rcases h2 with ⟨h2,rfl⟩ | ⟨r,s,h2,rfl⟩
 ·simp (disch:=first | omega | with_unfolding_all exact id rfl | (simp only [ay4,List.length_cons,List.length_nil,List.length_append,List.length_map,List.length_drop,List.drop_succ_cons,List.drop_zero,Nat.reduceAdd,Nat.reduceLeDiff,Nat.le_refl] <;> omega)) only [go_sem,↓reduceIte,Nat.reduceEqDiff,Option.map_some,List.map_cons,List.map_nil,AV.af2,AV.closed,Bool.not_true,Bool.and_true,Bool.and_false,hfn,hupc,k1,hld,hne,h2,h3,st]
  rw [aZ1 (by exact h7)]
  simp (disch:=first | omega | with_unfolding_all exact id rfl | (simp only [ay4,List.length_cons,List.length_nil,List.length_append,List.length_map,List.length_drop,List.drop_succ_cons,List.drop_zero,Nat.reduceAdd,Nat.reduceLeDiff,Nat.le_refl] <;> omega)) only [go_sem,↓reduceIte,Nat.reduceEqDiff,Option.map_some,bret,h9]
 ·simp (disch:=first | omega | with_unfolding_all exact id rfl | (simp only [ay4,List.length_cons,List.length_nil,List.length_append,List.length_map,List.length_drop,List.drop_succ_cons,List.drop_zero,Nat.reduceAdd,Nat.reduceLeDiff,Nat.le_refl] <;> omega)) only [go_sem,↓reduceIte,Nat.reduceEqDiff,Option.map_some,List.map_cons,List.map_nil,AV.af2,AV.closed,Bool.not_true,Bool.and_true,Bool.and_false,hfn,hupc,k1,hld,hne,h2,h3,st]
  rw [aZ1 (by exact h7)]
  simp (disch:=first | omega | with_unfolding_all exact id rfl | (simp only [ay4,List.length_cons,List.length_nil,List.length_append,List.length_map,List.length_drop,List.drop_succ_cons,List.drop_zero,Nat.reduceAdd,Nat.reduceLeDiff,Nat.le_refl] <;> omega)) only [go_sem,↓reduceIte,Nat.reduceEqDiff,Option.map_some,bret,h9]
theorem wb_ok {l : List UInt8} {x : UInt8} {q : Option Loc} (F : aY7 P tp tb tu tz fne) (hgc : Cfg.given fcc = none) (hfc : aq2 P fcc = some (Kcc tp tu fne tz)) (hg : Cfg.given fwb = none) (hf : aq2 P fwb = some (Kwb fcc te)) (hupc : Cfg.up fcc fwb = true) (hup : Cfg.up fwb S.fn = true)
  (hlive : Cfg.live fwb 14 = false) (hlive2 : Cfg.live fwb 13 = false) (hl : liesAt P P.depth t (cs.length / P.cellsOf t) off tb 1 = true) (hB : BLD te S p g t off cs l q) (hsz : l.length + 1 ≤ 1000000000) :
  ∃ u v cs' q',ak5 P fwb [.ptr p g 0 off,.lit (.int .u8 x.toNat)] S = some (.ret v,u) ∧ Wrote te S u p g t off cs cs' (l ++ [x]) q q':=by
 obtain ⟨u,k1,k2,k3,k4,k5,k6,k7⟩:=cc_ok (S:=S.enter fwb) (p:=p) (g:=g) (off:=off) (t:=t) (cs:=cs) F hgc hfc hupc hB.get hl (Nat.le_succ_of_le hB.lv) (fun a ha=>(hB.co a ha).up) hB.len hB.addr
 have hM:=mid k2 k3 k4 k5 k6 k7
 obtain ⟨b,c,S3,h1,h2,h3,h4,h5,h6,h7,h8,u2,cs',q',h9,h10⟩:=lay (v:=.lit .nilIface) (x:=[x]) hup rfl hlive hB hsz hM
 have hld:=bk9 hM.get h1
 have hne : ao5 ((S.enter fwb).after u) 1 (.list .full 1 [[.lit (.int .u8 x.toNat)]]) = some (u8s [x]):=by
  simp [ao5,u8s]
 have ho1 : off + 1 + 1 ≤ (splice cs off [AV.ptr p g 0 off]).length:=aq6 h1
 have st:=bh8 (S:=S3) (p:=p) (g:=g) (off:=off + 1) (n:=1) (t:=t) (cs:=splice cs off [AV.ptr p g 0 off]) (xs:=[c]) h8 rfl ho1 (by simp [h4])
 have hfn : (S.enter fwb).fn = fwb:=rfl
 have hfn2 : ((S.enter fwb).after u).fn = fwb:=hM.fn
 refine ⟨u2,_,cs',q',aY9 hg hf (Nat.le_of_ble_eq_true rfl) (?run : bfin fwb [.t 4] S _ = some (.ret (.lit .nilIface),u2)),h10⟩
 rw [show aT0 fwb S.fn [AV.ptr p g 0 off,.lit (.int .u8 x.toNat)] = [AV.ptr p g 0 off,.lit (.int .u8 x.toNat)] from rfl]
 unfold Kwb
 rcases h2 with ⟨h2,rfl⟩ | ⟨r,s,h2,rfl⟩
 ·simp (disch:=first | omega | with_unfolding_all exact id rfl | (simp only [ay4,List.length_cons,List.length_nil,List.length_append,List.length_map,List.length_drop,List.drop_succ_cons,List.drop_zero,Nat.reduceAdd,Nat.reduceLeDiff,Nat.le_refl] <;> omega)) only [go_sem,↓reduceIte,Nat.reduceEqDiff,Option.map_some,List.map_cons,List.map_nil,AV.af2,AV.closed,Bool.not_true,Bool.and_true,Bool.and_false,hfn,hfn2,hlive2,hupc,k1,hld,hne,h2,h3,st]
  rw [aZ1 (by exact h7)]
  simp (disch:=first | omega | with_unfolding_all exact id rfl | (simp only [ay4,List.length_cons,List.length_nil,List.length_append,List.length_map,List.length_drop,List.drop_succ_cons,List.drop_zero,Nat.reduceAdd,Nat.reduceLeDiff,Nat.le_refl] <;> omega)) only [go_sem,↓reduceIte,Option.map_some,bret,h9]
 ·simp (disch:=first | omega | with_unfolding_all exact id rfl | (simp only [ay4,List.length_cons,List.length_nil,List.length_append,List.length_map,List.length_drop,List.drop_succ_cons,List.drop_zero,Nat.reduceAdd,Nat.reduceLeDiff,Nat.le_refl] <;> omega)) only [go_sem,↓reduceIte,Nat.reduceEqDiff,Option.map_some,List.map_cons,List.map_nil,AV.af2,AV.closed,Bool.not_true,Bool.and_true,Bool.and_false,hfn,hfn2,hlive2,hupc,k1,hld,hne,h2,h3,st]
  rw [aZ1 (by exact h7)]
  simp (disch:=first | omega | with_unfolding_all exact id rfl | (simp only [ay4,List.length_cons,List.length_nil,List.length_append,List.length_map,List.length_drop,List.drop_succ_cons,List.drop_zero,Nat.reduceAdd,Nat.reduceLeDiff,Nat.le_refl] <;> omega)) only [go_sem,↓reduceIte,Option.map_some,bret,h9]
end
open Go.RowKit
inductive Cx (S : AS) (l : Nat) : AV → Prop
 | c {a : AV} : a.closed = true → Cx S l a
 | p {p : Loc} {g n o : Nat} : p.l ≤ l → Cx S l (.ptr p g n o)
 | pd {p : Loc} {g n o : Nat} {s : ae1} : l < p.l → S.get p = some s → s.live = true → s.gen = g → s.ext = n → Cx S l (.ptr p g n o)
 | m {p : Loc} {g : Nat} : p.l ≤ l → Cx S l (.mref p g)
 | md {p : Loc} {g : Nat} {s : ae1} : l < p.l → S.get p = some s → s.live = true → s.gen = g → s.ext = 0 → Cx S l (.mref p g)
 | r {sp : Room} {p : Loc} {g n o len sz : Nat} : p.l ≤ l → Cx S l (.row sp p g n o len sz)
 | rd {sp : Room} {p : Loc} {g n o len sz : Nat} {s : ae1} : l < p.l → S.get p = some s → s.live = true → s.gen = g → s.ext = n → Cx S l (.row sp p g n o len sz)
 | t {q : Loc} {h sz : Nat} {ys : List (List AV)} : AV.aj0 ys = true → q.l ≤ l → Cx S l (.list (.own q h) sz ys)
 | d {q : Loc} {h sz e : Nat} {ys : List (List AV)} : AV.aj0 ys = true → l < q.l → S.get q = some (.tok h ys.length sz e) → Cx S l (.list (.own q h) sz ys)
def Cy (S : AS) (l : Nat) (a : AV) : Prop:=Cx S l a ∨ ∃ cs,a = .agg cs ∧ ∀ x ∈ cs,Cx S l x
def aK3 (l : Nat) (ρ : Loc → Loc) : AV → AV
 | .list (.own q h) sz ys=>if q.l ≤ l then .list (.own q h) sz ys else .list (.own (ρ q) 0) sz ys
 | .ptr p g n o=>if p.l ≤ l then .ptr p g n o else .ptr (ρ p) 0 n o
 | .mref p g=>if p.l ≤ l then .mref p g else .mref (ρ p) 0
 | .row sp p g n o len sz=>if p.l ≤ l then .row sp p g n o len sz else .row sp (ρ p) 0 n o len sz
 | a=>a
def renX (l : Nat) (ρ : Loc → Loc) : AV → AV
 | .agg cs=>.agg (cs.map (aK3 l ρ))
 | a=>aK3 l ρ a
theorem bp6 {l : Nat} {ρ : Loc → Loc} {a : AV} (h : a.closed = true) : aK3 l ρ a = a:=by
 cases a with
 | list sp sz ys =>
  cases sp with
  | own p g=>cases h
  | _=>rfl
 | ptr=>cases h
 | mref=>cases h
 | row=>cases h
 | _=>rfl
theorem am8 : ∀ {cs : List AV},AV.af2 cs = true → ∀ a ∈ cs,a.closed = true
 | [],_,a,h=>by cases h
 | c :: r,h,a,hm=>by
  simp only [AV.af2,Bool.and_eq_true] at h
  rcases List.mem_cons.1 hm with rfl | hm
  ·exact h.1
  ·exact am8 h.2 a hm
theorem ay0 {l : Nat} {ρ : Loc → Loc} {a : AV} (h : a.closed = true) : renX l ρ a = a:=by
 cases a with
 | agg cs =>
  simp only [AV.closed] at h
  simp only [renX]
  congr 1
  refine Eq.trans (List.map_congr_left fun x hx=>bp6 (am8 h x hx)) (List.map_id' cs)
 | _=>exact bp6 (l:=l) (ρ:=ρ) h
theorem Cx.rx {S : AS} {l : Nat} {ρ : Loc → Loc} {a : AV} (h : Cx S l a) : renX l ρ a = aK3 l ρ a:=by
 cases h with
 | c h=>rw [ay0 h,bp6 h]
 | _=>rfl
theorem Cx.ren {S : AS} {l : Nat} {N : Names} {ρ : Loc → Loc} {a : AV} (h : Cx S l a) (hN : ∀ d ∈ AV.deep l a,N.get d = some (ρ d,0)) : ren l S N a = some (renX l ρ a):=by
 cases h with
 | c h=>rw [aX5 h,ay0 h]
 | p h=>simp only [YtbinfgmdamlkbaaGreatDoor.ren,renX,aK3,if_pos h]
 | @pd p g n o s h hs hl hg hn =>
  have hm : p ∈ AV.deep l (.ptr p g n o):=by simp only [AV.deep,if_neg (Nat.not_le.2 h),List.mem_singleton]
  simp only [YtbinfgmdamlkbaaGreatDoor.ren,renX,aK3,if_neg (Nat.not_le.2 h),hN p hm,hs,hl,hg,hn,beq_self_eq_true,Bool.and_self,if_true]
 | m h=>simp only [YtbinfgmdamlkbaaGreatDoor.ren,renX,aK3,if_pos h]
 | @md p g s h hs hl hg hn =>
  have hm : p ∈ AV.deep l (.mref p g):=by simp only [AV.deep,if_neg (Nat.not_le.2 h),List.mem_singleton]
  simp only [YtbinfgmdamlkbaaGreatDoor.ren,renX,aK3,if_neg (Nat.not_le.2 h),hN p hm,hs,hl,hg,hn,beq_self_eq_true,Bool.and_self,if_true]
 | r h=>simp only [YtbinfgmdamlkbaaGreatDoor.ren,renX,aK3,if_pos h]
 | @rd sp p g n o len sz s h hs hl hg hn =>
  have hm : p ∈ AV.deep l (.row sp p g n o len sz):=by simp only [AV.deep,if_neg (Nat.not_le.2 h),List.mem_singleton]
  simp only [YtbinfgmdamlkbaaGreatDoor.ren,renX,aK3,if_neg (Nat.not_le.2 h),hN p hm,hs,hl,hg,hn,beq_self_eq_true,Bool.and_self,if_true]
 | t h h'=>simp only [YtbinfgmdamlkbaaGreatDoor.ren,aC9 h,Option.map_some,renX,aK3,if_pos h']
 | @d q g sz e ys h h' hs =>
  have hm : q ∈ AV.deep l (.list (.own q g) sz ys):=by
   simp only [AV.deep,if_neg (Nat.not_le.2 h'),aq3 h,List.append_nil,List.mem_singleton]
  have:=hN q hm
  simp only [YtbinfgmdamlkbaaGreatDoor.ren,aC9 h,Option.map_some,renX,aK3,if_neg (Nat.not_le.2 h'),this,hs,and_self,if_true]
theorem b48 {S : AS} {l : Nat} {N : Names} {ρ : Loc → Loc} : ∀ {cs : List AV},(∀ a ∈ cs,Cx S l a) → (∀ d ∈ AV.an2 l cs,N.get d = some (ρ d,0)) → renL l S N cs = some (cs.map (renX l ρ))
 | [],_,_=>by simp only [renL,List.map_nil]
 | a :: r,h,hN=>by
  have k1:=(h a (List.mem_cons_self ..)).ren (N:=N) (ρ:=ρ) fun d hd=>hN d (by simp only [AV.an2,List.mem_append]; exact .inl hd)
  have k2:=b48 (cs:=r) (fun x hx=>h x (List.mem_cons_of_mem _ hx)) fun d hd=>hN d (by simp only [AV.an2,List.mem_append]; exact .inr hd)
  simp only [renL,k1,k2,List.map_cons]
theorem Cy.ren {S : AS} {l : Nat} {N : Names} {ρ : Loc → Loc} {a : AV} (h : Cy S l a) (hN : ∀ d ∈ AV.deep l a,N.get d = some (ρ d,0)) : YtbinfgmdamlkbaaGreatDoor.ren l S N a = some (renX l ρ a):=by
 rcases h with h | ⟨cs,rfl,h⟩
 ·exact h.ren hN
 ·simp only [AV.deep] at hN
  simp only [YtbinfgmdamlkbaaGreatDoor.ren,b48 h hN,Option.map_some]
  show some (AV.agg _) = some (AV.agg _)
  congr 2
  exact List.map_congr_left fun x hx=>(h x hx).rx
theorem c63 {S : AS} {l : Nat} {N : Names} {ρ : Loc → Loc} : ∀ {cs : List AV},(∀ a ∈ cs,Cy S l a) → (∀ d ∈ AV.an2 l cs,N.get d = some (ρ d,0)) → renL l S N cs = some (cs.map (renX l ρ))
 | [],_,_=>by simp only [renL,List.map_nil]
 | a :: r,h,hN=>by
  have k1:=(h a (List.mem_cons_self ..)).ren (N:=N) (ρ:=ρ) fun d hd=>hN d (by simp only [AV.an2,List.mem_append]; exact .inl hd)
  have k2:=c63 (cs:=r) (fun x hx=>h x (List.mem_cons_of_mem _ hx)) fun d hd=>hN d (by simp only [AV.an2,List.mem_append]; exact .inr hd)
  simp only [renL,k1,k2,List.map_cons]
inductive Vx (S : AS) (l : Nat) : AV → Prop
 | one {a : AV} : Cy S l a → Vx S l a
 | tup {cs : List AV} : (∀ a ∈ cs,Cy S l a) → Vx S l (.tup cs)
def cl8 (l : Nat) (ρ : Loc → Loc) : AV → AV
 | .tup cs=>.tup (cs.map (renX l ρ))
 | a=>renX l ρ a
theorem Vx.ren {S : AS} {l : Nat} {N : Names} {ρ : Loc → Loc} {a : AV} (h : Vx S l a) (hN : ∀ d ∈ AV.deep l a,N.get d = some (ρ d,0)) : ren l S N a = some (cl8 l ρ a):=by
 cases h with
 | one h =>
  rcases h with h | ⟨cs,rfl,h⟩
  case inr =>
   simp only [AV.deep] at hN
   simp only [YtbinfgmdamlkbaaGreatDoor.ren,b48 h hN,Option.map_some]
   show some (AV.agg _) = some (AV.agg _)
   congr 2
   exact List.map_congr_left fun x hx=>(h x hx).rx
  rw [h.ren hN]
  cases a with
  | tup cs =>
   cases h with
   | c h =>
    simp only [renX,aK3,cl8]
    congr 2
    refine (List.map_id' cs).symm.trans ?_
    exact List.map_congr_left fun x hx=>(ay0 (am8 (by simpa only [AV.closed] using h) x hx)).symm
  | _=>rfl
 | tup h =>
  simp only [AV.deep] at hN
  simp only [YtbinfgmdamlkbaaGreatDoor.ren,c63 h hN,Option.map_some,cl8]
inductive bx5 (S : AS) (l : Nat) : ae1 → Prop
 | obj {g : Nat} {t : TypeId} {cs : List AV} : (∀ a ∈ cs,Cx S l a) → bx5 S l (.obj g t cs)
 | tok {g n sz : Nat} {e : TypeId} : bx5 S l (.tok g n sz e)
 | map {g ck : Nat} {es : List al6} : (∀ e ∈ es,Cx S l e.val) → bx5 S l (.map g es ck)
 | row {g n sz : Nat} {e : TypeId} {cs : List AV} : (∀ a ∈ cs,Cx S l a) → bx5 S l (.row g n sz e cs)
 | itr {g pos : Nat} {s : ByteArray} : bx5 S l (.iter g s pos)
def cG4 (l : Nat) (ρ : Loc → Loc) (e : al6) : al6:=⟨e.key,renX l ρ e.val,e.born⟩
def bx4 (l : Nat) (ρ : Loc → Loc) (h : Nat) : ae1 → ae1
 | .obj _ t cs=>.obj h t (cs.map (renX l ρ))
 | .tok _ n sz e=>.tok h n sz e
 | .map _ es ck=>.map h (es.map (cG4 l ρ)) ck
 | .row _ n sz e cs=>.row h n sz e (cs.map (renX l ρ))
 | .iter _ s pos=>.iter h s pos
 | s=>s
theorem bx5.live {S : AS} {l : Nat} {s : ae1} (h : bx5 S l s) : s.live = true:=by cases h <;> rfl
theorem cL8 {l : Nat} {S : AS} {N : Names} {ρ : Loc → Loc} : ∀ {es : List al6},(∀ e ∈ es,Cx S l e.val) → (∀ d ∈ (es.flatMap fun e=>AV.deep l e.val),N.get d = some (ρ d,0)) → renE l S N es = some (es.map (cG4 l ρ))
 | [],_,_=>rfl
 | e :: r,h,hN=>by
  have k1:=(h e (List.mem_cons_self ..)).ren (N:=N) (ρ:=ρ) fun d hd=>hN d (by rw [List.flatMap_cons]; exact List.mem_append.2 (.inl hd))
  have k2:=cL8 (N:=N) (ρ:=ρ) (fun x hx=>h x (List.mem_cons_of_mem _ hx)) fun d hd=>hN d (by rw [List.flatMap_cons]; exact List.mem_append.2 (.inr hd))
  simp only [renE,k1,k2,List.map_cons,cG4]
theorem bx5.ren {S : AS} {l : Nat} {N : Names} {ρ : Loc → Loc} {s : ae1} (h : bx5 S l s) (k : Nat) (hN : ∀ d ∈ s.deep l,N.get d = some (ρ d,0)) : renS l S N k s = some (bx4 l ρ k s):=by
 cases h with
 | obj h=>simp only [renS,b48 h hN,Option.map_some,bx4]
 | tok=>rfl
 | map h=>simp only [renS,cL8 h hN,Option.map_some,bx4]
 | row h=>simp only [renS,b48 h hN,Option.map_some,bx4]
 | itr=>rfl
def uw (l : Nat) (seen : List Loc) (t : Tab) : Nat:=(t.map fun x=>if seen.contains x.1 then 0 else (x.2.deep l).length).sum
theorem uw_nil (l : Nat) (t : Tab) : uw l [] t = t.weight l:=by
 unfold uw Tab.weight
 simp
theorem cW5 {l : Nat} {seen seen' : List Loc} (h : ∀ x ∈ seen,x ∈ seen') : ∀ t : Tab,uw l seen' t ≤ uw l seen t
 | []=>Nat.le_refl _
 | (q,s) :: r=>by
  have ih:=cW5 (l:=l) h r
  unfold uw at ih ⊢
  simp only [List.map_cons,List.sum_cons]
  cases hq : seen.contains q with
  | true=>rw [List.contains_iff_mem.2 (h _ (List.contains_iff_mem.1 hq))]; simp only [if_true]; omega
  | false =>
   cases hq' : seen'.contains q with
   | true=>simp only [if_true,Bool.false_eq_true,if_false]; omega
   | false=>simp only [Bool.false_eq_true,if_false]; omega
theorem uw_put {l : Nat} {seen : List Loc} {d : Loc} {s : ae1} (hd : seen.contains d = false) : ∀ {t : Tab},t.get d = some s → uw l (av6 seen d) t + (s.deep l).length ≤ uw l seen t
 | [],h=>by cases h
 | (q,s') :: r,h=>by
  have hm:=cW5 (l:=l) (seen:=seen) (seen':=av6 seen d) (fun x hx=>af8.2 (.inl hx)) r
  unfold Tab.get at h
  unfold uw at hm ⊢
  simp only [List.map_cons,List.sum_cons]
  by_cases e : q = d
  ·subst e
   rw [if_pos rfl] at h
   cases h
   rw [hd,List.contains_iff_mem.2 (af8.2 (.inr rfl))]
   simp only [if_true,Bool.false_eq_true,if_false]
   omega
  ·rw [if_neg e] at h
   have ih:=uw_put (l:=l) hd h
   unfold uw at ih
   cases hq : seen.contains q with
   | true=>rw [List.contains_iff_mem.2 (af8.2 (.inl (List.contains_iff_mem.1 hq)))]; simp only [if_true]; omega
   | false =>
    have : (av6 seen d).contains q = false:=by
     cases hc : (av6 seen d).contains q with
     | false=>rfl
     | true =>
      rcases af8.1 (List.contains_iff_mem.1 hc) with h1 | h1
      ·rw [List.contains_iff_mem.2 h1] at hq; cases hq
      ·exact absurd h1 e
    rw [this]
    simp only [Bool.false_eq_true,if_false]
    omega
theorem bO9 {l : Nat} {S : AS} {W : List Loc} (hW : ∀ d ∈ W,∃ s,S.get d = some s ∧ ∀ x ∈ s.deep l,x ∈ W) : ∀ (n : Nat) (D seen : List Loc),(∀ d ∈ D,d ∈ W) → (∀ d ∈ seen,d ∈ W) → ar4 seen →
  uw l seen S.tab + D.length < n → (∀ p ∈ seen,∀ s,S.get p = some s → ∀ x ∈ s.deep l,x ∈ seen ∨ x ∈ D) →
  (∀ p ∈ reached l S n D seen,p ∈ W) ∧ ar4 (reached l S n D seen) ∧ (∀ p ∈ D,p ∈ reached l S n D seen) ∧ (∀ p ∈ seen,p ∈ reached l S n D seen) ∧ ∀ p ∈ reached l S n D seen,∀ s,S.get p = some s → ∀ x ∈ s.deep l,x ∈ reached l S n D seen
 | 0,D,seen,_,_,_,h,_=>by omega
 | n + 1,[],seen,_,hs,hso,_,hc=>by
  unfold reached
  exact ⟨hs,hso,fun p h=>(nomatch h),fun p h=>h,fun p hp s hps x hx=>(hc p hp s hps x hx).resolve_right fun h=>(nomatch h)⟩
 | n + 1,d :: r,seen,hD,hs,hso,h,hc=>by
  simp only [List.length_cons] at h
  have hr:=fun x hx=>hD x (List.mem_cons_of_mem _ hx)
  have hd:=hD d (List.mem_cons_self ..)
  unfold reached
  split
  ·rename_i hcon
   have hds:=List.contains_iff_mem.1 hcon
   obtain ⟨k1,k2,k3,k4,k5⟩:=bO9 hW n r seen hr hs hso (by omega) fun p hp s hps x hx=>by
    rcases hc p hp s hps x hx with k | k
    ·exact .inl k
    ·rcases List.mem_cons.1 k with rfl | k
     ·exact .inl hds
     ·exact .inr k
   refine ⟨k1,k2,fun p hp=>?_,k4,k5⟩
   rcases List.mem_cons.1 hp with rfl | hp
   ·exact k4 _ hds
   ·exact k3 p hp
  ·rename_i hcon
   have hcon : seen.contains d = false:=by simpa using hcon
   obtain ⟨s,hg,hsub⟩:=hW d hd
   simp only [hg]
   have hlt:=uw_put (l:=l) hcon (show S.tab.get d = some s from hg)
   obtain ⟨k1,k2,k3,k4,k5⟩:=bO9 hW n (s.deep l ++ r) (av6 seen d) (fun x hx=>by
     rcases List.mem_append.1 hx with hx | hx
     ·exact hsub x hx
     ·exact hr x hx) (fun x hx=>by
     rcases af8.1 hx with hx | rfl
     ·exact hs x hx
     ·exact hd) hso.put (by
     simp only [List.length_append]
     omega) fun p hp s' hps x hx=>by
     rcases af8.1 hp with hp | rfl
     ·rcases hc p hp s' hps x hx with k | k
      ·exact .inl (af8.2 (.inl k))
      ·rcases List.mem_cons.1 k with rfl | k
       ·exact .inl (af8.2 (.inr rfl))
       ·exact .inr (List.mem_append.2 (.inr k))
     ·rw [hg] at hps; cases hps
      exact .inr (List.mem_append.2 (.inl hx))
   refine ⟨k1,k2,fun p hp=>?_,fun p hp=>k4 p (af8.2 (.inl hp)),k5⟩
   rcases List.mem_cons.1 hp with rfl | hp
   ·exact k4 _ (af8.2 (.inr rfl))
   ·exact k3 p (List.mem_append.2 (.inr hp))
theorem bZ8 {α β : Type} {f : α → β} : ∀ {l : List α},(l.map f).Nodup → ∀ a ∈ l,∀ b ∈ l,f a = f b → a = b
 | [],_,a,h,_,_,_=>by cases h
 | c :: r,hn,a,ha,b,hb,e=>by
  simp only [List.map_cons] at hn
  have hn:=List.nodup_cons.1 hn
  rcases List.mem_cons.1 ha with ea | ha1
  ·rcases List.mem_cons.1 hb with eb | hb1
   ·rw [ea,eb]
   ·exact absurd (List.mem_map.2 ⟨b,hb1,by rw [← ea]; exact e.symm⟩) hn.1
  ·rcases List.mem_cons.1 hb with eb | hb1
   ·exact absurd (List.mem_map.2 ⟨a,ha1,by rw [← eb]; exact e⟩) hn.1
   ·exact bZ8 hn.2 a ha1 b hb1 e
theorem bz8 {l : Nat} {S' : AS} {N : Names} : ∀ {M : Names} {t : Tab},(∀ p q g,(p,q,g) ∈ M → ∃ s s',S'.get p = some s ∧ renS l S' N g s = some s') → ∃ t',aD9 l S' N M t = some t'
 | [],t,_=>⟨t,rfl⟩
 | (p,q,g) :: r,t,h=>by
  obtain ⟨s,s',h1,h2⟩:=h p q g (List.mem_cons_self ..)
  unfold aD9
  simp only [h1,h2]
  exact bz8 fun p q g hx=>h p q g (List.mem_cons_of_mem _ hx)
structure Handed (S S' : AS) (v : AV) (u : Upd) (ρ : Loc → Loc) (R : List Loc) : Prop where
 lvl : (S.after u).lvl = S.lvl
 fn : (S.after u).fn = S.fn
 dfr : (S.after u).dfr = S.dfr
 outs : ∀ q s,q ∈ S'.outs S.lvl → S'.get q = some s → (S.after u).get q = some (bx4 S.lvl ρ s.gen s)
 frame : ∀ q,q ∉ S'.outs S.lvl → q ∉ (u.getD ([],[])).2 → (S.after u).get q = S.get q
 log : ∀ q ∈ (u.getD ([],[])).2,q ∈ S'.outs S.lvl ∨ ∃ p ∈ R,q = ρ p
 new : ∀ p ∈ R,(ρ p).l = S.lvl ∧ (ρ p).k = 0 ∧ (ρ p).i ≠ 0 ∧ S.get (ρ p) = none ∧ ∀ s,S'.get p = some s → (S.after u).get (ρ p) = some (bx4 S.lvl ρ 0 s)
 val : ∀ d ∈ AV.deep S.lvl v,d ∈ R
 out : ∀ p ∈ S'.outs S.lvl,∀ s,S'.get p = some s → ∀ d ∈ s.deep S.lvl,d ∈ R
 own : ∀ p ∈ R,∀ s,S'.get p = some s → ∀ d ∈ s.deep S.lvl,d ∈ R
 inj : ∀ p ∈ R,∀ p' ∈ R,ρ p = ρ p' → p = p'
theorem handUp_x [Cfg] {f : FuncId} {S S' : AS} {v : AV} (hup : Cfg.up f S.fn = true) (hv : Vx S' S.lvl v)
  (hs : ∀ p ∈ S'.outs S.lvl,∃ s,S'.get p = some s ∧ bx5 S' S.lvl s) (hun : ∀ p,p.l ≤ S.lvl → p ∉ S'.outs S.lvl → S'.get p = S.get p)
  {D : List Loc} (hD : ∀ d ∈ D,S.lvl < d.l ∧ ∃ s,S'.get d = some s ∧ bx5 S' S.lvl s ∧ ∀ x ∈ s.deep S.lvl,x ∈ D) (hvD : ∀ d ∈ AV.deep S.lvl v,d ∈ D) (hoD : ∀ p ∈ S'.outs S.lvl,∀ s,S'.get p = some s → ∀ d ∈ s.deep S.lvl,d ∈ D) :
  ∃ (u : Upd) (ρ : Loc → Loc) (R : List Loc),ao2 f S S' v = some (cl8 S.lvl ρ v,u) ∧ (∀ p ∈ R,p ∈ D) ∧ Handed S S' v u ρ R:=by
 obtain ⟨D0,hD0⟩ : ∃ D0,D0 = v.deep S.lvl ++ (S'.outs S.lvl).flatMap fun p=>match S'.get p with
  | some s=>s.deep S.lvl
  | none=>[]:=⟨_,rfl⟩
 have hD0d : ∀ d ∈ D0,d ∈ D:=by
  intro d hd
  rw [hD0] at hd
  rcases List.mem_append.1 hd with hd | hd
  ·exact hvD d hd
  ·obtain ⟨p,hp,hd⟩:=List.mem_flatMap.1 hd
   obtain ⟨s,h1,h2⟩:=hs p hp
   simp only [h1] at hd
   exact hoD p hp s h1 d hd
 have hDc : ∀ d ∈ D,∃ s,S'.get d = some s ∧ ∀ x ∈ s.deep S.lvl,x ∈ D:=fun d hd=>by
  obtain ⟨_,s,h1,h2,h3⟩:=hD d hd
  exact ⟨s,h1,h3⟩
 obtain ⟨R,hR⟩ : ∃ R,R = reached S.lvl S' (D0.length + S'.tab.weight S.lvl + 1) D0 []:=⟨_,rfl⟩
 obtain ⟨r1,r2,r3,_,r5⟩:=bO9 (l:=S.lvl) (S:=S') (W:=D) hDc (D0.length + S'.tab.weight S.lvl + 1) D0 [] hD0d (fun _ h=>(nomatch h)) List.Pairwise.nil (by
  rw [uw_nil]
  omega) (fun _ h=>(nomatch h))
 rw [← hR] at r1 r2 r3 r5
 obtain ⟨N,hN⟩ : ∃ N,N = aK4 S.lvl (ap9 S.lvl (S'.tab.cut S.lvl)) R:=⟨_,rfl⟩
 have hfst : N.map (·.1) = R:=by rw [hN]; exact bB4
 have hsnd : (N.map (·.2.1)).Nodup:=by rw [hN]; exact a00
 have hmem : ∀ p q g,(p,q,g) ∈ N → p ∈ R ∧ g = 0 ∧ q.l = S.lvl ∧ q.k = 0 ∧ q.i ≠ 0 ∧ S'.get q = none:=by
  intro p q g h
  rw [hN] at h
  obtain ⟨h1,h2,i,h3,rfl⟩:=a98 h
  have hp:=aC2 S.lvl (S'.tab.cut S.lvl)
  exact ⟨h1,h2,rfl,rfl,by simp only; omega,aE4 h3⟩
 have hok : aS1 S.lvl S' N = true:=by
  unfold aS1
  simp only [Bool.and_eq_true]
  refine ⟨⟨List.all_eq_true.2 fun x hx=>?_,?_⟩,bq4 hsnd⟩
  ·obtain ⟨p,q,g⟩:=x
   obtain ⟨h1,h2,h3,_,_,h4⟩:=hmem p q g hx
   obtain ⟨k1,s,k2,k3,_⟩:=hD p (r1 p h1)
   simp [k1,h2,h3,h4,k2,k3.live]
  ·rw [hfst]; exact bq4 r2.nodup
 obtain ⟨ρ,hρ⟩ : ∃ ρ : Loc → Loc,∀ d ∈ R,N.get d = some (ρ d,0):=by
  refine ⟨fun d=>((N.get d).getD (d,0)).1,fun d hd=>?_⟩
  obtain ⟨q,g,h⟩:=Names.get_of (N:=N) (p:=d) (by rw [hfst]; exact hd)
  obtain ⟨_,h2,_⟩:=hmem _ _ _ (Names.get_mem h)
  subst h2
  simp [h]
 have hsubv : ∀ d ∈ AV.deep S.lvl v,d ∈ R:=fun d hd=>r3 d (by rw [hD0]; exact List.mem_append.2 (.inl hd))
 have hsubo : ∀ p ∈ S'.outs S.lvl,∀ s,S'.get p = some s → ∀ d ∈ s.deep S.lvl,d ∈ R:=fun p hp s h1 d hd=>r3 d (by
  rw [hD0]
  exact List.mem_append.2 (.inr (List.mem_flatMap.2 ⟨p,hp,by simp only [h1]; exact hd⟩)))
 have hturn : ∀ p s,p ∈ S'.outs S.lvl → S'.get p = some s → renS S.lvl S' N s.gen s = some (bx4 S.lvl ρ s.gen s):=by
  intro p s hp h1
  obtain ⟨s',h1',h2⟩:=hs p hp
  rw [h1] at h1'; cases h1'
  exact h2.ren _ fun d hd=>hρ d (hsubo p hp s h1 d hd)
 have hraise : ∀ p s,p ∈ R → S'.get p = some s → renS S.lvl S' N 0 s = some (bx4 S.lvl ρ 0 s):=by
  intro p s hp h1
  obtain ⟨_,s',h1',h2,_⟩:=hD p (r1 p hp)
  rw [h1] at h1'; cases h1'
  exact h2.ren _ fun d hd=>hρ d (r5 p hp s h1 d hd)
 obtain ⟨t,ht⟩:=bm3 (f:=fun _ s=>renS S.lvl S' N s.gen s) (S':=S') (ps:=S'.outs S.lvl) (t:=S.tab) fun p hp=>by
  obtain ⟨s,h1,_⟩:=hs p hp
  exact ⟨s,_,h1,hturn p s hp h1⟩
 obtain ⟨t2,ht2⟩:=bz8 (l:=S.lvl) (S':=S') (N:=N) (M:=N) (t:=t) fun p q g h=>by
  obtain ⟨h1,rfl,_⟩:=hmem p q g h
  obtain ⟨_,s,k1,_⟩:=hD p (r1 p h1)
  exact ⟨s,_,k1,hraise p s h1 k1⟩
 have hT:=aB9 ht
 have hRs:=aO7 ht2 hsnd
 have hhu : ao2 f S S' v = some (cl8 S.lvl ρ v,if S'.outs S.lvl = [] ∧ N = [] then none else some (t2,S'.outs S.lvl ++ N.map fun x=>x.2.1)):=by
  unfold ao2
  simp only [hup,if_true]
  generalize hD' : AV.deep S.lvl v ++ List.flatMap _ _ = D'
  have eD : D' = D0:=by rw [← hD',hD0]; rfl
  subst eD
  rw [← hR,← hN,hok,hv.ren fun d hd=>hρ d (hsubv d hd)]
  simp only [Bool.not_true,Bool.false_eq_true,if_false]
  cases ho : S'.outs S.lvl with
  | nil =>
   cases hn : N with
   | nil=>simp
   | cons x r =>
    rw [ho] at ht
    rw [hn] at ht2
    simp only [aE5,Option.some.injEq] at ht
    subst ht
    simp only [hn] at ht2 ⊢
    simp [aE5,ht2]
  | cons p ps =>
   rw [ho] at ht
   simp only [ht,ht2]
   simp
 have hnone : ∀ p q g,(p,q,g) ∈ N → S.get q = none:=fun p q g h=>by
  obtain ⟨_,_,h3,_,_,h4⟩:=hmem p q g h
  have : q ∉ S'.outs S.lvl:=fun hq=>by
   obtain ⟨s,h5,_⟩:=hs q hq
   rw [h4] at h5; cases h5
  rw [← hun q (Nat.le_of_eq h3) this]
  exact h4
 have hinj : ∀ p ∈ R,∀ p' ∈ R,ρ p = ρ p' → p = p':=fun p hp p' hp' e=>by
  have h1:=Names.get_mem (hρ p hp)
  have h2:=Names.get_mem (hρ p' hp')
  have:=bZ8 hsnd _ h1 _ h2 e
  exact (Prod.mk.inj this).1
 have hkey : ∀ p q g,(p,q,g) ∈ N → q = ρ p:=fun p q g h=>by
  obtain ⟨h1,_⟩:=hmem p q g h
  have h2:=Names.get_mem (hρ p h1)
  have:=bZ8 (f:=fun x : Loc × Loc × Nat=>x.1) (by rw [hfst]; exact r2.nodup) _ h _ h2 rfl
  exact (Prod.mk.inj (Prod.mk.inj this).2).1
 refine ⟨_,ρ,R,hhu,r1,?_⟩
 by_cases hem : S'.outs S.lvl = [] ∧ N = []
 ·rw [if_pos hem]
  have hR0 : R = []:=by rw [← hfst,hem.2]; rfl
  refine ⟨rfl,rfl,rfl,?_,fun _ _ _=>rfl,?_,?_,hsubv,hsubo,r5,hinj⟩
  ·intro q s hq; rw [hem.1] at hq; cases hq
  ·intro q hq; cases hq
  ·intro p hp; rw [hR0] at hp; cases hp
 ·rw [if_neg hem]
  refine ⟨rfl,rfl,rfl,?_,?_,?_,?_,hsubv,hsubo,r5,hinj⟩
  ·intro q s hq hqs
   show t2.get q = _
   rw [hRs.1 q fun p0 g0 hm=>by
    obtain ⟨_,_,_,_,_,h4⟩:=hmem _ _ _ hm
    rw [hqs] at h4; cases h4]
   obtain ⟨s1,s2,h1,h2,h3⟩:=(hT q).2 hq
   rw [hqs] at h1; cases h1
   rw [hturn q s hq hqs] at h2; cases h2
   exact h3
  ·intro q hq hq2
   show t2.get q = S.tab.get q
   simp only [Option.getD_some,List.mem_append,not_or] at hq2
   rw [hRs.1 q fun p0 g0 hm=>hq2.2 (List.mem_map.2 ⟨_,hm,rfl⟩)]
   exact (hT q).1 hq
  ·intro q hq
   simp only [Option.getD_some,List.mem_append] at hq
   rcases hq with hq | hq
   ·exact .inl hq
   ·obtain ⟨⟨p,q',g⟩,h1,h2⟩:=List.mem_map.1 hq
    simp only at h2
    subst h2
    exact .inr ⟨p,(hmem _ _ _ h1).1,hkey _ _ _ h1⟩
  ·intro p hp
   have hm:=Names.get_mem (hρ p hp)
   obtain ⟨_,_,h3,h4,h5,h6⟩:=hmem _ _ _ hm
   refine ⟨h3,h4,h5,hnone _ _ _ hm,fun s hps=>?_⟩
   obtain ⟨s',k1,k2⟩:=hRs.2 _ _ _ hm _ hps
   rw [hraise p s hp hps] at k1
   cases k1
   exact k2
open Go.RowKit
inductive OV where
 | c (v : V)
 | self
 | bb (te : TypeId) (l : List UInt8)
 | gs (n : Nat) (e : TypeId) (es : List (List V))
 | li (n : Nat) (e : TypeId) (es : List (List V))
 | rw (x : Bool) (n : Nat) (e : TypeId) (es : List (List V))
 | it (s : List UInt8) (pos : Nat)
 | ptr (t : TypeId) (os : List OV)
 | mp (ks : List Value) (vs : List OV)
def Gs (S : AS) (n : Nat) (e : TypeId) (es : List (List V)) (a : AV) (F : List Loc) : Prop :=
 (es = [] ∧ (∃ p,a = .lit (.slice p 0 0)) ∧ F = []) ∨ (∃ ys,a = .list .full n ys ∧ ae5 es ys ∧ F = []) ∨
  ∃ q h ys,a = .list (.own q h) n ys ∧ ae5 es ys ∧ S.get q = some (.tok h ys.length n e) ∧ F = [q]
def Li (S : AS) (n : Nat) (e : TypeId) (es : List (List V)) (a : AV) (F : List Loc) : Prop :=
 Gs S n e es a F ∨ ∃ ys,a = .list .no n ys ∧ ae5 es ys ∧ F = []
def Bb (S : AS) (te : TypeId) (l : List UInt8) (a : AV) (F : List Loc) : Prop :=
 (l = [] ∧ a = .lit (.slice none 0 0) ∧ F = []) ∨ ∃ q h,(l ≠ [] ∧ l.length ≤ 1000000000) ∧ a = .list (.own q h) 1 (u8s l) ∧ S.get q = some (.tok h l.length 1 te) ∧ F = [q]
def c_u8 (b : UInt8) : List V:=[.int .u8 b.toNat]
theorem relU8 : ∀ l : List UInt8,ae5 (l.map c_u8) (u8s l)
 | []=>by unfold ae5; rfl
 | b :: r=>by
  rw [List.map_cons]
  unfold ae5
  exact ⟨[.lit (.int .u8 b.toNat)],u8s r,rfl,by unfold c_u8 ab7; exact ⟨_,[],rfl,by unfold RelC; rfl,by unfold ab7; rfl⟩,relU8 r⟩
theorem Bb.gs {S : AS} {te : TypeId} {l : List UInt8} {a : AV} {F : List Loc} (h : Bb S te l a F) : Gs S 1 te (l.map c_u8) a F:=by
 rcases h with ⟨rfl,rfl,rfl⟩ | ⟨q,k,_,rfl,h2,rfl⟩
 ·exact .inl ⟨rfl,⟨none,rfl⟩,rfl⟩
 ·exact .inr (.inr ⟨q,k,u8s l,rfl,relU8 l,by rw [aR3]; exact h2,rfl⟩)
def Rw (S : AS) (x : Bool) (n : Nat) (e : TypeId) (es : List (List V)) (a : AV) (F : List Loc) : Prop :=
 (es = [] ∧ Gs S n e [] a F) ∨
  ∃ q h ys zs,a = .row .room q h (ys.length + zs.length) 0 ys.length n ∧ (ae5 es ys ∧ (∀ y ∈ es,y.length = n) ∧ AV.aj0 zs = true ∧ (∀ z ∈ zs,z.length = n) ∧ (x = false → zs = []) ∧ es ≠ []) ∧ S.get q = some (.row h (ys.length + zs.length) n e (ys ++ zs).flatten) ∧ F = [q]
mutual
def AtO (S : AS) (p : Loc) (g i : Nat) : OV → AV → List Loc → Prop
 | .c v,a,F=>RelC v a ∧ F = []
 | .self,a,F=>(a = .lit (.pointer none) ∨ a = .ptr p g 0 i) ∧ F = []
 | .bb te l,a,F=>Bb S te l a F
 | .gs n e es,a,F=>Gs S n e es a F
 | .li n e es,a,F=>Li S n e es a F
 | .rw x n e es,a,F=>Rw S x n e es a F
 | .it s pos,a,F=>∃ q h,a = .ptr q h 0 0 ∧ F = [q] ∧ S.get q = some (.iter h (bs s) pos)
 | .ptr t os,a,F=>∃ q h cs F',a = .ptr q h 0 0 ∧ F = q :: F' ∧ S.get q = some (.obj h t cs) ∧ AtL S q h 0 os cs F'
 | .mp ks vs,a,F=>∃ q h es ck F',a = .mref q h ∧ F = q :: F' ∧ S.get q = some (.map h es ck) ∧ es.map (·.key) = ks ∧ (es.map (·.born)).Nodup ∧ (∀ e ∈ es,e.born < ck) ∧ AtL S q h 0 vs (es.map (·.val)) F'
def AtL (S : AS) (p : Loc) (g i : Nat) : List OV → List AV → List Loc → Prop
 | [],cs,F=>cs = [] ∧ F = []
 | o :: r,cs,F=>∃ a t F1 F2,cs = a :: t ∧ F = F1 ++ F2 ∧ AtO S p g i o a F1 ∧ AtL S p g (i + 1) r t F2
end
theorem Gs.local {S S' : AS} {n : Nat} {e : TypeId} {es : List (List V)} {a : AV} {F : List Loc} (h : Gs S n e es a F) (hF : ∀ q ∈ F,S'.get q = S.get q) : Gs S' n e es a F:=by
 rcases h with h | h | ⟨q,k,ys,h1,h2,h3,rfl⟩
 ·exact .inl h
 ·exact .inr (.inl h)
 ·exact .inr (.inr ⟨q,k,ys,h1,h2,by rw [hF q (List.mem_singleton.2 rfl)]; exact h3,rfl⟩)
theorem Bb.local {S S' : AS} {te : TypeId} {l : List UInt8} {a : AV} {F : List Loc} (h : Bb S te l a F) (hF : ∀ q ∈ F,S'.get q = S.get q) : Bb S' te l a F:=by
 rcases h with h | ⟨q,k,h1,h2,h3,rfl⟩
 ·exact .inl h
 ·exact .inr ⟨q,k,h1,h2,by rw [hF q (List.mem_singleton.2 rfl)]; exact h3,rfl⟩
theorem Li.local {S S' : AS} {n : Nat} {e : TypeId} {es : List (List V)} {a : AV} {F : List Loc} (h : Li S n e es a F) (hF : ∀ q ∈ F,S'.get q = S.get q) : Li S' n e es a F:=by
 rcases h with h | h
 ·exact .inl (h.local hF)
 ·exact .inr h
theorem Rw.local {S S' : AS} {x : Bool} {n : Nat} {e : TypeId} {es : List (List V)} {a : AV} {F : List Loc} (h : Rw S x n e es a F) (hF : ∀ q ∈ F,S'.get q = S.get q) : Rw S' x n e es a F:=by
 rcases h with ⟨h0,h⟩ | ⟨q,k,ys,zs,h1,h2,h3,rfl⟩
 ·exact .inl ⟨h0,h.local hF⟩
 ·exact .inr ⟨q,k,ys,zs,h1,h2,by rw [hF q (List.mem_singleton.2 rfl)]; exact h3,rfl⟩
mutual
theorem AtO.local {S S' : AS} {p : Loc} {g i : Nat} : ∀ {o : OV} {a : AV} {F : List Loc},AtO S p g i o a F → (∀ q ∈ F,S'.get q = S.get q) → AtO S' p g i o a F
 | .c v,a,F,h,_=>by unfold AtO at h ⊢; exact h
 | .self,a,F,h,_=>by unfold AtO at h ⊢; exact h
 | .bb te l,a,F,h,hF=>by unfold AtO at h ⊢; exact h.local hF
 | .gs n e es,a,F,h,hF=>by unfold AtO at h ⊢; exact h.local hF
 | .li n e es,a,F,h,hF=>by unfold AtO at h ⊢; exact h.local hF
 | .rw x n e es,a,F,h,hF=>by unfold AtO at h ⊢; exact h.local hF
 | .it s pos,a,F,h,hF=>by
  unfold AtO at h ⊢
  obtain ⟨q,k,h1,rfl,h2⟩:=h
  exact ⟨q,k,h1,rfl,by rw [hF q (List.mem_cons_self ..)]; exact h2⟩
 | .ptr t os,a,F,h,hF=>by
  unfold AtO at h ⊢
  obtain ⟨q,k,cs,F',h1,rfl,h2,h3⟩:=h
  exact ⟨q,k,cs,F',h1,rfl,by rw [hF q (List.mem_cons_self ..)]; exact h2,AtL.local h3 fun x hx=>hF x (List.mem_cons_of_mem _ hx)⟩
 | .mp ks vs,a,F,h,hF=>by
  unfold AtO at h ⊢
  obtain ⟨q,k,es,ck,F',h1,rfl,h2,h3,h4,h5,h6⟩:=h
  exact ⟨q,k,es,ck,F',h1,rfl,by rw [hF q (List.mem_cons_self ..)]; exact h2,h3,h4,h5,AtL.local h6 fun x hx=>hF x (List.mem_cons_of_mem _ hx)⟩
theorem AtL.local {S S' : AS} {p : Loc} {g : Nat} : ∀ {os : List OV} {i : Nat} {cs : List AV} {F : List Loc},AtL S p g i os cs F → (∀ q ∈ F,S'.get q = S.get q) → AtL S' p g i os cs F
 | [],i,cs,F,h,_=>by unfold AtL at h ⊢; exact h
 | o :: r,i,cs,F,h,hF=>by
  unfold AtL at h ⊢
  obtain ⟨a,t,F1,F2,h1,rfl,h2,h3⟩:=h
  exact ⟨a,t,F1,F2,h1,rfl,AtO.local h2 fun x hx=>hF x (List.mem_append.2 (.inl hx)),AtL.local h3 fun x hx=>hF x (List.mem_append.2 (.inr hx))⟩
end
def OV.sel : OV → Bool
 | .self=>false
 | _=>true
theorem AtO.place {S : AS} {p p' : Loc} {g g' i i' : Nat} {o : OV} {a : AV} {F : List Loc} (h : AtO S p g i o a F) (ho : o.sel = true) : AtO S p' g' i' o a F:=by
 cases o with
 | self=>cases ho
 | _=>unfold AtO at h ⊢; exact h
theorem Cx.gt {S : AS} {l : Nat} {a : AV} (h : Cx S l a) : ∀ x ∈ AV.deep l a,l < x.l:=by
 intro x hx
 cases h with
 | c h=>rw [as6 h] at hx; cases hx
 | p h=>simp only [AV.deep,if_pos h] at hx; cases hx
 | pd h=>simp only [AV.deep,if_neg (Nat.not_le.2 h),List.mem_singleton] at hx; subst hx; exact h
 | m h=>simp only [AV.deep,if_pos h] at hx; cases hx
 | md h=>simp only [AV.deep,if_neg (Nat.not_le.2 h),List.mem_singleton] at hx; subst hx; exact h
 | r h=>simp only [AV.deep,if_pos h] at hx; cases hx
 | rd h=>simp only [AV.deep,if_neg (Nat.not_le.2 h),List.mem_singleton] at hx; subst hx; exact h
 | t h h'=>simp only [AV.deep,if_pos h',aq3 h,List.append_nil] at hx; cases hx
 | d h h'=>simp only [AV.deep,if_neg (Nat.not_le.2 h'),aq3 h,List.append_nil,List.mem_singleton] at hx; subst hx; exact h'
theorem ce7 {S : AS} {l : Nat} : ∀ {cs : List AV},(∀ a ∈ cs,Cx S l a) → ∀ x ∈ AV.an2 l cs,l < x.l
 | [],_,x,hx=>by cases hx
 | a :: r,h,x,hx=>by
  simp only [AV.an2,List.mem_append] at hx
  rcases hx with hx | hx
  ·exact (h a (List.mem_cons_self ..)).gt x hx
  ·exact ce7 (fun y hy=>h y (List.mem_cons_of_mem _ hy)) x hx
theorem Cy.gt {S : AS} {l : Nat} {a : AV} (h : Cy S l a) : ∀ x ∈ AV.deep l a,l < x.l:=by
 rcases h with h | ⟨cs,rfl,h⟩
 ·exact h.gt
 ·simp only [AV.deep]
  exact ce7 h
theorem bL2 {S : AS} {l : Nat} : ∀ {cs : List AV},(∀ a ∈ cs,Cy S l a) → ∀ x ∈ AV.an2 l cs,l < x.l
 | [],_,x,hx=>by cases hx
 | a :: r,h,x,hx=>by
  simp only [AV.an2,List.mem_append] at hx
  rcases hx with hx | hx
  ·exact (h a (List.mem_cons_self ..)).gt x hx
  ·exact bL2 (fun y hy=>h y (List.mem_cons_of_mem _ hy)) x hx
def bK6 (S : AS) (l : Nat) (F : List Loc) (q : Loc) : Prop:=∃ s,S.get q = some s ∧ bx5 S l s ∧ ∀ x ∈ s.deep l,x ∈ F
theorem bK6.mono {S : AS} {l : Nat} {F F' : List Loc} {q : Loc} (h : bK6 S l F q) (hs : ∀ x ∈ F,x ∈ F') : bK6 S l F' q:=by
 obtain ⟨s,h1,h2,h3⟩:=h
 exact ⟨s,h1,h2,fun x hx=>hs x (h3 x hx)⟩
theorem Gs.reg {S : AS} {l n : Nat} {e : TypeId} {es : List (List V)} {a : AV} {F : List Loc} (h : Gs S n e es a F) : Cx S l a ∧ (∀ x ∈ AV.deep l a,x ∈ F) ∧ ∀ q ∈ F,bK6 S l F q:=by
 rcases h with ⟨_,⟨p,rfl⟩,rfl⟩ | ⟨ys,rfl,h2,rfl⟩ | ⟨q,k,ys,rfl,h2,h3,rfl⟩
 ·exact ⟨.c rfl,fun x hx=>(nomatch hx),fun q hq=>(nomatch hq)⟩
 ·have hc : AV.closed (.list .full n ys) = true:=by simp [AV.closed,au4.closed,h2.closed]
  exact ⟨.c hc,fun x hx=>(by rw [as6 hc] at hx; cases hx),fun q hq=>(nomatch hq)⟩
 ·refine ⟨?_,fun x hx=>?_,fun x hx=>?_⟩
  ·rcases Nat.lt_or_ge l q.l with hl | hl
   ·exact .d h2.closed hl h3
   ·exact .t h2.closed hl
  ·simp only [AV.deep,aq3 h2.closed,List.append_nil] at hx
   split at hx
   ·cases hx
   ·exact hx
  ·rw [List.mem_singleton] at hx
   subst hx
   exact ⟨_,h3,.tok,fun y hy=>(nomatch hy)⟩
theorem Li.reg {S : AS} {l n : Nat} {e : TypeId} {es : List (List V)} {a : AV} {F : List Loc} (h : Li S n e es a F) : Cx S l a ∧ (∀ x ∈ AV.deep l a,x ∈ F) ∧ ∀ q ∈ F,bK6 S l F q:=by
 rcases h with h | ⟨ys,rfl,h2,rfl⟩
 ·exact h.reg
 ·have hc : AV.closed (.list .no n ys) = true:=by simp [AV.closed,au4.closed,h2.closed]
  exact ⟨.c hc,fun x hx=>(by rw [as6 hc] at hx; cases hx),fun q hq=>(nomatch hq)⟩
theorem aQ4 : ∀ {ys : List (List AV)},AV.aj0 ys = true → ∀ a ∈ ys.flatten,a.closed = true
 | [],_,a,h=>by cases h
 | y :: r,h,a,ha=>by
  simp only [AV.aj0,Bool.and_eq_true] at h
  simp only [List.flatten_cons,List.mem_append] at ha
  rcases ha with ha | ha
  ·exact am8 h.1 a ha
  ·exact aQ4 h.2 a ha
theorem bk6 {l : Nat} {cs : List AV} (h : ∀ a ∈ cs,a.closed = true) : AV.an2 l cs = []:=by
 induction cs with
 | nil=>rfl
 | cons a r ih =>
  simp only [AV.an2,as6 (h a (List.mem_cons_self ..)),List.nil_append]
  exact ih fun x hx=>h x (List.mem_cons_of_mem _ hx)
theorem aV2 : ∀ {xs ys : List (List AV)},AV.aj0 xs = true → AV.aj0 ys = true → AV.aj0 (xs ++ ys) = true
 | [],ys,_,h=>h
 | x :: r,ys,h,h'=>by
  simp only [AV.aj0,Bool.and_eq_true] at h
  simp only [List.cons_append,AV.aj0,h.1,aV2 h.2 h',Bool.and_self]
theorem Rw.reg {S : AS} {x0 : Bool} {l n : Nat} {e : TypeId} {es : List (List V)} {a : AV} {F : List Loc} (h : Rw S x0 n e es a F) : Cx S l a ∧ (∀ x ∈ AV.deep l a,x ∈ F) ∧ ∀ q ∈ F,bK6 S l F q:=by
 rcases h with ⟨_,h⟩ | ⟨q,k,ys,zs,rfl,h2,h3,rfl⟩
 ·exact h.reg
 ·have hcl:=aQ4 (aV2 h2.1.closed h2.2.2.1)
  refine ⟨?_,fun x hx=>?_,fun x hx=>?_⟩
  ·rcases Nat.lt_or_ge l q.l with hl | hl
   ·exact .rd hl h3 rfl rfl rfl
   ·exact .r hl
  ·simp only [AV.deep] at hx
   split at hx
   ·cases hx
   ·exact hx
  ·rw [List.mem_singleton] at hx
   subst hx
   exact ⟨_,h3,.row fun a ha=>.c (hcl a ha),fun y hy=>by
    simp only [ae1.deep,bk6 hcl] at hy
    cases hy⟩
theorem bH0 {l : Nat} : ∀ {es : List al6},(es.flatMap fun e=>AV.deep l e.val) = AV.an2 l (es.map (·.val))
 | []=>rfl
 | e :: r=>by
  simp only [List.flatMap_cons,List.map_cons,AV.an2]
  rw [bH0 (es:=r)]
mutual
theorem AtO.reg {S : AS} {p : Loc} {g i l : Nat} (hp : p.l ≤ l ∨ ∃ s,S.get p = some s ∧ s.live = true ∧ s.gen = g ∧ s.ext = 0) : ∀ {o : OV} {a : AV} {F : List Loc},AtO S p g i o a F → Cx S l a ∧ (∀ x ∈ AV.deep l a,x ∈ F ∨ x = p) ∧ ∀ q ∈ F,bK6 S l F q
 | .c v,a,F,h=>by
  unfold AtO at h
  obtain ⟨h,rfl⟩:=h
  exact ⟨.c h.closed,fun x hx=>(by rw [as6 h.closed] at hx; cases hx),fun q hq=>(nomatch hq)⟩
 | .self,a,F,h=>by
  unfold AtO at h
  obtain ⟨rfl | rfl,rfl⟩:=h
  ·exact ⟨.c rfl,fun x hx=>(nomatch hx),fun q hq=>(nomatch hq)⟩
  ·refine ⟨?_,fun x hx=>?_,fun q hq=>(nomatch hq)⟩
   ·rcases Nat.lt_or_ge l p.l with hl | hl
    ·rcases hp with hp | ⟨s,h1,h2,h3,h4⟩
     ·omega
     ·exact .pd hl h1 h2 h3 h4
    ·exact .p hl
   ·simp only [AV.deep] at hx
    split at hx
    ·cases hx
    ·exact .inr (List.mem_singleton.1 hx)
 | .bb te l,a,F,h=>by
  unfold AtO at h
  exact ⟨h.gs.reg.1,fun x hx=>.inl (h.gs.reg.2.1 x hx),h.gs.reg.2.2⟩
 | .gs n e es,a,F,h=>by
  unfold AtO at h
  exact ⟨h.reg.1,fun x hx=>.inl (h.reg.2.1 x hx),h.reg.2.2⟩
 | .li n e es,a,F,h=>by
  unfold AtO at h
  exact ⟨h.reg.1,fun x hx=>.inl (h.reg.2.1 x hx),h.reg.2.2⟩
 | .rw x0 n e es,a,F,h=>by
  unfold AtO at h
  exact ⟨h.reg.1,fun x hx=>.inl (h.reg.2.1 x hx),h.reg.2.2⟩
 | .it s pos,a,F,h=>by
  unfold AtO at h
  obtain ⟨q,k,rfl,rfl,h2⟩:=h
  refine ⟨?_,fun x hx=>?_,fun x hx=>?_⟩
  ·rcases Nat.lt_or_ge l q.l with hl | hl
   ·exact .pd hl h2 rfl rfl rfl
   ·exact .p hl
  ·simp only [AV.deep] at hx
   split at hx
   ·cases hx
   ·exact .inl hx
  ·rw [List.mem_singleton] at hx
   subst hx
   exact ⟨_,h2,.itr,fun y hy=>(nomatch hy)⟩
 | .ptr t os,a,F,h=>by
  unfold AtO at h
  obtain ⟨q,k,cs,F',rfl,rfl,h2,h3⟩:=h
  obtain ⟨k1,k2,k3⟩:=AtL.reg (l:=l) (.inr ⟨_,h2,rfl,rfl,rfl⟩) h3
  refine ⟨?_,fun x hx=>?_,fun x hx=>?_⟩
  ·rcases Nat.lt_or_ge l q.l with hl | hl
   ·exact .pd hl h2 rfl rfl rfl
   ·exact .p hl
  ·simp only [AV.deep] at hx
   split at hx
   ·cases hx
   ·rw [List.mem_singleton.1 hx]; exact .inl (List.mem_cons_self ..)
  ·rcases List.mem_cons.1 hx with rfl | hx
   ·refine ⟨_,h2,.obj k1,fun y hy=>?_⟩
    rcases k2 y hy with h | rfl
    ·exact List.mem_cons_of_mem _ h
    ·exact List.mem_cons_self ..
   ·exact (k3 x hx).mono fun y hy=>List.mem_cons_of_mem _ hy
 | .mp ks vs,a,F,h=>by
  unfold AtO at h
  obtain ⟨q,k,es,ck,F',rfl,rfl,h2,h3,h4,h5,h6⟩:=h
  obtain ⟨k1,k2,k3⟩:=AtL.reg (l:=l) (.inr ⟨_,h2,rfl,rfl,rfl⟩) h6
  refine ⟨?_,fun x hx=>?_,fun x hx=>?_⟩
  ·rcases Nat.lt_or_ge l q.l with hl | hl
   ·exact .md hl h2 rfl rfl rfl
   ·exact .m hl
  ·simp only [AV.deep] at hx
   split at hx
   ·cases hx
   ·rw [List.mem_singleton.1 hx]; exact .inl (List.mem_cons_self ..)
  ·rcases List.mem_cons.1 hx with rfl | hx
   ·refine ⟨_,h2,.map fun e he=>k1 _ (List.mem_map.2 ⟨e,he,rfl⟩),fun y hy=>?_⟩
    simp only [ae1.deep,bH0] at hy
    rcases k2 y hy with h | rfl
    ·exact List.mem_cons_of_mem _ h
    ·exact List.mem_cons_self ..
   ·exact (k3 x hx).mono fun y hy=>List.mem_cons_of_mem _ hy
theorem AtL.reg {S : AS} {p : Loc} {g l : Nat} (hp : p.l ≤ l ∨ ∃ s,S.get p = some s ∧ s.live = true ∧ s.gen = g ∧ s.ext = 0) : ∀ {os : List OV} {i : Nat} {cs : List AV} {F : List Loc},AtL S p g i os cs F → (∀ a ∈ cs,Cx S l a) ∧ (∀ x ∈ AV.an2 l cs,x ∈ F ∨ x = p) ∧ ∀ q ∈ F,bK6 S l F q
 | [],i,cs,F,h=>by
  unfold AtL at h
  obtain ⟨rfl,rfl⟩:=h
  exact ⟨fun a ha=>(nomatch ha),fun x hx=>(nomatch hx),fun q hq=>(nomatch hq)⟩
 | o :: r,i,cs,F,h=>by
  unfold AtL at h
  obtain ⟨a,t,F1,F2,rfl,rfl,h2,h3⟩:=h
  obtain ⟨a1,a2,a3⟩:=AtO.reg (l:=l) hp h2
  obtain ⟨b1,b2,b3⟩:=AtL.reg (l:=l) hp h3
  refine ⟨fun x hx=>?_,fun x hx=>?_,fun x hx=>?_⟩
  ·rcases List.mem_cons.1 hx with rfl | hx
   ·exact a1
   ·exact b1 x hx
  ·simp only [AV.an2,List.mem_append] at hx
   rcases hx with hx | hx
   ·exact (a2 x hx).imp (fun h=>List.mem_append.2 (.inl h)) id
   ·exact (b2 x hx).imp (fun h=>List.mem_append.2 (.inr h)) id
  ·rcases List.mem_append.1 hx with hx | hx
   ·exact (a3 x hx).mono fun y hy=>List.mem_append.2 (.inl hy)
   ·exact (b3 x hx).mono fun y hy=>List.mem_append.2 (.inr hy)
end
def rL (l : Nat) (ρ : Loc → Loc) (q : Loc) : Loc:=if q.l ≤ l then q else ρ q
def rG (l : Nat) (q : Loc) (g : Nat) : Nat:=if q.l ≤ l then g else 0
def Turned (l : Nat) (ρ : Loc → Loc) (S S' : AS) (F : List Loc) : Prop:=∀ q ∈ F,∀ s,S.get q = some s → S'.get (rL l ρ q) = some (bx4 l ρ (rG l q s.gen) s)
theorem Turned.sub {l : Nat} {ρ : Loc → Loc} {S S' : AS} {F F' : List Loc} (h : Turned l ρ S S' F) (hs : ∀ x ∈ F',x ∈ F) : Turned l ρ S S' F':=fun q hq=>h q (hs q hq)
theorem Gs.ren {l : Nat} {ρ : Loc → Loc} {S S' : AS} {n : Nat} {e : TypeId} {es : List (List V)} {a : AV} {F : List Loc} (h : Gs S n e es a F) (ht : Turned l ρ S S' F) : Gs S' n e es (renX l ρ a) (F.map (rL l ρ)):=by
 rcases h with ⟨h0,⟨p,rfl⟩,rfl⟩ | ⟨ys,rfl,h2,rfl⟩ | ⟨q,k,ys,rfl,h2,h3,rfl⟩
 ·exact .inl ⟨h0,⟨p,rfl⟩,rfl⟩
 ·exact .inr (.inl ⟨ys,rfl,h2,rfl⟩)
 ·refine .inr (.inr ⟨rL l ρ q,rG l q k,ys,?_,h2,?_,rfl⟩)
  ·unfold renX aK3 rL rG
   simp only
   by_cases hl : q.l ≤ l <;> simp [hl]
  ·exact ht q (List.mem_singleton.2 rfl) _ h3
theorem Bb.ren {l : Nat} {ρ : Loc → Loc} {S S' : AS} {te : TypeId} {t : List UInt8} {a : AV} {F : List Loc} (h : Bb S te t a F) (ht : Turned l ρ S S' F) : Bb S' te t (renX l ρ a) (F.map (rL l ρ)):=by
 rcases h with ⟨rfl,rfl,rfl⟩ | ⟨q,k,h1,rfl,h3,rfl⟩
 ·exact .inl ⟨rfl,rfl,rfl⟩
 ·refine .inr ⟨rL l ρ q,rG l q k,h1,?_,?_,rfl⟩
  ·unfold renX aK3 rL rG
   simp only
   by_cases hl : q.l ≤ l <;> simp [hl]
  ·exact ht q (List.mem_singleton.2 rfl) _ h3
theorem Li.ren {l : Nat} {ρ : Loc → Loc} {S S' : AS} {n : Nat} {e : TypeId} {es : List (List V)} {a : AV} {F : List Loc} (h : Li S n e es a F) (ht : Turned l ρ S S' F) : Li S' n e es (renX l ρ a) (F.map (rL l ρ)):=by
 rcases h with h | ⟨ys,rfl,h2,rfl⟩
 ·exact .inl (h.ren ht)
 ·exact .inr ⟨ys,rfl,h2,rfl⟩
theorem aS8 {l : Nat} {ρ : Loc → Loc} {cs : List AV} (h : ∀ a ∈ cs,a.closed = true) : cs.map (renX l ρ) = cs:=by
 induction cs with
 | nil=>rfl
 | cons a r ih=>rw [List.map_cons,ay0 (h a (List.mem_cons_self ..)),ih fun x hx=>h x (List.mem_cons_of_mem _ hx)]
theorem Rw.ren {l : Nat} {ρ : Loc → Loc} {S S' : AS} {x0 : Bool} {n : Nat} {e : TypeId} {es : List (List V)} {a : AV} {F : List Loc} (h : Rw S x0 n e es a F) (ht : Turned l ρ S S' F) : Rw S' x0 n e es (renX l ρ a) (F.map (rL l ρ)):=by
 rcases h with ⟨h0,h⟩ | ⟨q,k,ys,zs,rfl,h2,h3,rfl⟩
 ·exact .inl ⟨h0,h.ren ht⟩
 ·refine .inr ⟨rL l ρ q,rG l q k,ys,zs,?_,h2,?_,rfl⟩
  ·unfold renX aK3 rL rG
   simp only
   by_cases hl : q.l ≤ l <;> simp [hl]
  ·have:=ht q (List.mem_singleton.2 rfl) _ h3
   simp only [bx4,aS8 (aQ4 (aV2 h2.1.closed h2.2.2.1))] at this
   exact this
mutual
theorem AtO.ren {l : Nat} {ρ : Loc → Loc} {S S' : AS} {p : Loc} {g i : Nat} : ∀ {o : OV} {a : AV} {F : List Loc},AtO S p g i o a F → Turned l ρ S S' F → AtO S' (rL l ρ p) (rG l p g) i o (renX l ρ a) (F.map (rL l ρ))
 | .c v,a,F,h,_=>by
  unfold AtO at h ⊢
  obtain ⟨h,rfl⟩:=h
  rw [ay0 h.closed]
  exact ⟨h,rfl⟩
 | .self,a,F,h,_=>by
  unfold AtO at h ⊢
  obtain ⟨rfl | rfl,rfl⟩:=h
  ·exact ⟨.inl rfl,rfl⟩
  ·refine ⟨.inr ?_,rfl⟩
   unfold renX aK3 rL rG
   simp only
   by_cases hl : p.l ≤ l <;> simp [hl]
 | .bb te t,a,F,h,ht=>by unfold AtO at h ⊢; exact h.ren ht
 | .gs n e es,a,F,h,ht=>by unfold AtO at h ⊢; exact h.ren ht
 | .li n e es,a,F,h,ht=>by unfold AtO at h ⊢; exact h.ren ht
 | .rw x0 n e es,a,F,h,ht=>by unfold AtO at h ⊢; exact h.ren ht
 | .it s pos,a,F,h,ht=>by
  unfold AtO at h ⊢
  obtain ⟨q,k,rfl,rfl,h2⟩:=h
  refine ⟨rL l ρ q,rG l q k,?_,rfl,ht q (List.mem_cons_self ..) _ h2⟩
  unfold renX aK3 rL rG
  simp only
  by_cases hl : q.l ≤ l <;> simp [hl]
 | .ptr t os,a,F,h,ht=>by
  unfold AtO at h ⊢
  obtain ⟨q,k,cs,F',rfl,rfl,h2,h3⟩:=h
  refine ⟨rL l ρ q,rG l q k,cs.map (renX l ρ),F'.map (rL l ρ),?_,rfl,ht q (List.mem_cons_self ..) _ h2,AtL.ren h3 (ht.sub fun x hx=>List.mem_cons_of_mem _ hx)⟩
  unfold renX aK3 rL rG
  simp only
  by_cases hl : q.l ≤ l <;> simp [hl]
 | .mp ks vs,a,F,h,ht=>by
  unfold AtO at h ⊢
  obtain ⟨q,k,es,ck,F',rfl,rfl,h2,h3,h4,h5,h6⟩:=h
  refine ⟨rL l ρ q,rG l q k,es.map (cG4 l ρ),ck,F'.map (rL l ρ),?_,rfl,ht q (List.mem_cons_self ..) _ h2,?_,?_,?_,?_⟩
  ·unfold renX aK3 rL rG
   simp only
   by_cases hl : q.l ≤ l <;> simp [hl]
  ·rw [List.map_map]; exact h3
  ·rw [List.map_map]; exact h4
  ·intro e he
   obtain ⟨e',he',rfl⟩:=List.mem_map.1 he
   exact h5 e' he'
  ·have:=AtL.ren h6 (ht.sub fun x hx=>List.mem_cons_of_mem _ hx)
   rw [List.map_map] at this ⊢
   exact this
theorem AtL.ren {l : Nat} {ρ : Loc → Loc} {S S' : AS} {p : Loc} {g : Nat} : ∀ {os : List OV} {i : Nat} {cs : List AV} {F : List Loc},AtL S p g i os cs F → Turned l ρ S S' F → AtL S' (rL l ρ p) (rG l p g) i os (cs.map (renX l ρ)) (F.map (rL l ρ))
 | [],i,cs,F,h,_=>by
  unfold AtL at h ⊢
  obtain ⟨rfl,rfl⟩:=h
  exact ⟨rfl,rfl⟩
 | o :: r,i,cs,F,h,ht=>by
  unfold AtL at h ⊢
  obtain ⟨a,t,F1,F2,rfl,rfl,h2,h3⟩:=h
  exact ⟨_,_,_,_,rfl,by rw [List.map_append],AtO.ren h2 (ht.sub fun x hx=>List.mem_append.2 (.inl hx)),AtL.ren h3 (ht.sub fun x hx=>List.mem_append.2 (.inr hx))⟩
end
inductive OA where
 | r (v : RV)
 | o (v : OV)
 | x
 | ag (os : List OV)
def OA.keep : OA → Bool
 | .x=>false
 | _=>true
abbrev bF9 : Loc:=⟨0,0,0⟩
def AtA (S : AS) : OA → AV → List Loc → Prop
 | .r v,a,F=>v.C a ∧ F = []
 | .o v,a,F=>AtO S bF9 0 0 v a F
 | .x,_,F=>F = []
 | .ag os,a,F=>∃ cs,a = .agg cs ∧ AtL S bF9 0 0 os cs F
def AtAs (S : AS) : List OA → List AV → List Loc → Prop
 | [],l,F=>l = [] ∧ F = []
 | o :: r,l,F=>∃ a t F1 F2,l = a :: t ∧ F = F1 ++ F2 ∧ AtA S o a F1 ∧ AtAs S r t F2
inductive Leaf : ae1 → Prop
 | tok {g n sz : Nat} {e : TypeId} : Leaf (.tok g n sz e)
 | row {g n sz : Nat} {e : TypeId} {cs : List AV} : (∀ a ∈ cs,a.closed = true) → Leaf (.row g n sz e cs)
 | map {g ck : Nat} {es : List al6} : (∀ e ∈ es,e.val.closed = true) → Leaf (.map g es ck)
 | itr {g pos : Nat} {s : ByteArray} : Leaf (.iter g s pos)
def aI6 (S : AS) (J : List Loc) : Prop:=∀ q ∈ J,∃ s,S.get q = some s ∧ Leaf s
theorem Leaf.x {s : ae1} (h : Leaf s) (S : AS) (l : Nat) : bx5 S l s ∧ s.deep l = []:=by
 cases h with
 | tok=>exact ⟨.tok,rfl⟩
 | row h=>exact ⟨.row fun a ha=>.c (h a ha),bk6 h⟩
 | itr=>exact ⟨.itr,rfl⟩
 | map h=>exact ⟨.map fun e he=>.c (h e he),by
   simp only [ae1.deep,bH0]
   exact bk6 fun a ha=>by
    obtain ⟨e,he,rfl⟩:=List.mem_map.1 ha
    exact h e he⟩
theorem aI6.local {S S' : AS} {J : List Loc} (h : aI6 S J) (hF : ∀ q ∈ J,S'.get q = S.get q) : aI6 S' J:=fun q hq=>by
 rw [hF q hq]; exact h q hq
theorem aI6.reg {S : AS} {l : Nat} {J : List Loc} (h : aI6 S J) : ∀ q ∈ J,bK6 S l J q:=fun q hq=>by
 obtain ⟨s,h1,h2⟩:=h q hq
 exact ⟨s,h1,(h2.x S l).1,fun x hx=>by rw [(h2.x S l).2] at hx; cases hx⟩
theorem aI6.ren {l : Nat} {ρ : Loc → Loc} {S S' : AS} {J : List Loc} (h : aI6 S J) (ht : Turned l ρ S S' J) : aI6 S' (J.map (rL l ρ)):=by
 intro q hq
 obtain ⟨q',hq',rfl⟩:=List.mem_map.1 hq
 obtain ⟨s,h1,h2⟩:=h q' hq'
 refine ⟨_,ht q' hq' s h1,?_⟩
 cases h2 with
 | tok=>exact .tok
 | row h=>simp only [bx4,aS8 h]; exact .row h
 | itr=>exact .itr
 | map h =>
  refine .map fun e he=>?_
  obtain ⟨e',he',rfl⟩:=List.mem_map.1 he
  simp only [cG4,ay0 (h e' he')]
  exact h e' he'
inductive One : AV → Prop
 | mk {a : AV} : (∀ cs,a ≠ .tup cs) → One a
theorem AtA.reg {S : AS} {l : Nat} {o : OA} {a : AV} {F : List Loc} (ho : o.keep = true) (h : AtA S o a F) : Cy S l a ∧ (∀ x ∈ AV.deep l a,x ∈ F) ∧ ∀ q ∈ F,bK6 S l F q:=by
 cases o with
 | r v =>
  obtain ⟨h,rfl⟩:=h
  have hc : a.closed = true:=by
   cases v with
   | int | bool | str=>cases h; rfl
   | sl=>exact RelC.closed h
   | agg M=>obtain ⟨cs,rfl,h⟩:=h; simp [AV.closed,h.closed]
   | v x=>exact RelC.closed h
  exact ⟨.inl (.c hc),fun x hx=>(by rw [as6 hc] at hx; cases hx),fun q hq=>(nomatch hq)⟩
 | x=>cases ho
 | ag os =>
  obtain ⟨cs,rfl,h⟩:=h
  obtain ⟨h1,h2,h3⟩:=AtL.reg (l:=l) (p:=bF9) (g:=0) (.inl (Nat.zero_le _)) h
  refine ⟨.inr ⟨cs,rfl,h1⟩,fun x hx=>?_,h3⟩
  simp only [AV.deep] at hx
  refine (h2 x hx).resolve_right fun e=>?_
  have:=ce7 h1 x hx
  subst e
  simp at this
 | o v =>
  obtain ⟨h1,h2,h3⟩:=AtO.reg (l:=l) (p:=bF9) (g:=0) (.inl (Nat.zero_le _)) h
  refine ⟨.inl h1,fun x hx=>(h2 x hx).resolve_right fun e=>?_,h3⟩
  have:=h1.gt x hx
  subst e
  simp at this
theorem AtAs.reg {S : AS} {l : Nat} : ∀ {os : List OA} {as1 : List AV} {F : List Loc},AtAs S os as1 F → os.all OA.keep = true → (∀ a ∈ as1,Cy S l a) ∧ (∀ x ∈ AV.an2 l as1,x ∈ F) ∧ ∀ q ∈ F,bK6 S l F q
 | [],as1,F,h,_=>by
  obtain ⟨rfl,rfl⟩:=h
  exact ⟨fun a ha=>(nomatch ha),fun x hx=>(nomatch hx),fun q hq=>(nomatch hq)⟩
 | o :: r,as1,F,h,hk=>by
  obtain ⟨a,t,F1,F2,rfl,rfl,h2,h3⟩:=h
  simp only [List.all_cons,Bool.and_eq_true] at hk
  obtain ⟨a1,a2,a3⟩:=AtA.reg (l:=l) hk.1 h2
  obtain ⟨b1,b2,b3⟩:=AtAs.reg (l:=l) h3 hk.2
  refine ⟨fun x hx=>?_,fun x hx=>?_,fun x hx=>?_⟩
  ·rcases List.mem_cons.1 hx with rfl | hx
   ·exact a1
   ·exact b1 x hx
  ·simp only [AV.an2,List.mem_append] at hx
   exact List.mem_append.2 (hx.imp (a2 x) (b2 x))
  ·rcases List.mem_append.1 hx with hx | hx
   ·exact (a3 x hx).mono fun y hy=>List.mem_append.2 (.inl hy)
   ·exact (b3 x hx).mono fun y hy=>List.mem_append.2 (.inr hy)
theorem AtAs.slots {S : AS} {l : Nat} : ∀ {os : List OA} {as1 : List AV} {F : List Loc},AtAs S os as1 F → ∀ q ∈ F,bK6 S l F q
 | [],as1,F,h=>by
  obtain ⟨rfl,rfl⟩:=h
  exact fun q hq=>(nomatch hq)
 | o :: r,as1,F,h=>by
  obtain ⟨a,t,F1,F2,rfl,rfl,h2,h3⟩:=h
  have b3:=AtAs.slots (l:=l) h3
  have a3 : ∀ q ∈ F1,bK6 S l F1 q:=by
   cases ho : o.keep with
   | true=>exact (AtA.reg (l:=l) ho h2).2.2
   | false =>
    cases o with
    | x =>
     have h2 : F1 = []:=h2
     subst h2
     exact fun q hq=>(nomatch hq)
    | _=>cases ho
  intro x hx
  rcases List.mem_append.1 hx with hx | hx
  ·exact (a3 x hx).mono fun y hy=>List.mem_append.2 (.inl hy)
  ·exact (b3 x hx).mono fun y hy=>List.mem_append.2 (.inr hy)
theorem AtAs.local {S S' : AS} : ∀ {os : List OA} {as1 : List AV} {F : List Loc},AtAs S os as1 F → (∀ q ∈ F,S'.get q = S.get q) → AtAs S' os as1 F
 | [],as1,F,h,_=>h
 | o :: r,as1,F,h,hF=>by
  obtain ⟨a,t,F1,F2,h1,rfl,h2,h3⟩:=h
  refine ⟨a,t,F1,F2,h1,rfl,?_,AtAs.local h3 fun x hx=>hF x (List.mem_append.2 (.inr hx))⟩
  cases o with
  | r v=>exact h2
  | o v=>exact AtO.local h2 fun x hx=>hF x (List.mem_append.2 (.inl hx))
  | x=>exact h2
  | ag os =>
   obtain ⟨cs,e,h2⟩:=h2
   exact ⟨cs,e,AtL.local h2 fun x hx=>hF x (List.mem_append.2 (.inl hx))⟩
theorem rL_no (l : Nat) (ρ : Loc → Loc) : rL l ρ bF9 = bF9:=by simp [rL]
theorem AtAs.ren {l : Nat} {ρ : Loc → Loc} {S S' : AS} : ∀ {os : List OA} {as1 : List AV} {F : List Loc},AtAs S os as1 F → Turned l ρ S S' F → AtAs S' os (as1.map (renX l ρ)) (F.map (rL l ρ))
 | [],as1,F,h,_=>by
  obtain ⟨rfl,rfl⟩:=h
  exact ⟨rfl,rfl⟩
 | o :: r,as1,F,h,ht=>by
  obtain ⟨a,t,F1,F2,rfl,rfl,h2,h3⟩:=h
  refine ⟨_,_,_,_,rfl,by rw [List.map_append],?_,AtAs.ren h3 (ht.sub fun x hx=>List.mem_append.2 (.inr hx))⟩
  cases o with
  | r v =>
   obtain ⟨h,rfl⟩:=h2
   have hc : a.closed = true:=by
    cases v with
    | int | bool | str=>cases h; rfl
    | sl=>exact RelC.closed h
    | agg M=>obtain ⟨cs,rfl,h⟩:=h; simp [AV.closed,h.closed]
    | v x=>exact RelC.closed h
   rw [ay0 hc]
   exact ⟨h,rfl⟩
  | o v =>
   have:=AtO.ren h2 (ht.sub fun x hx=>List.mem_append.2 (.inl hx))
   rw [rL_no] at this
   have e : rG l bF9 0 = 0:=by simp [rG]
   rw [e] at this
   exact this
  | x =>
   have h2 : F1 = []:=h2
   subst h2
   rfl
  | ag os =>
   obtain ⟨cs,rfl,h2⟩:=h2
   have hc:=(AtL.reg (l:=l) (p:=bF9) (g:=0) (.inl (Nat.zero_le _)) h2).1
   have:=AtL.ren h2 (ht.sub fun x hx=>List.mem_append.2 (.inl hx))
   rw [rL_no] at this
   have e : rG l bF9 0 = 0:=by simp [rG]
   rw [e] at this
   exact ⟨_,rfl,by rw [← show cs.map (renX l ρ) = cs.map (aK3 l ρ) from List.map_congr_left fun x hx=>(hc x hx).rx]; exact this⟩
def ResO (S : AS) : List OA → AV → List Loc → Prop
 | [o],v,F=>AtA S o v F
 | os,v,F=>∃ l,v = .tup l ∧ AtAs S os l F
open Go.RowKit
abbrev Env:=List (Nat × AV)
def look : Env → Nat → Option AV
 | [],_=>none
 | (k,v) :: r,t=>match Nat.beq k t with
  | true=>some v
  | false=>look r t
def opd (E : Env) : X → Option AV
 | .t n=>look E n
 | .c a=>some a
def Ag (E : Env) (T : BT) : Prop:=∀ k v,look E k = some v → T k = v
theorem Ag.at {E : Env} {T : BT} (h : Ag E T) {x : X} {v : AV} (hx : opd E x = some v) : x.at T = v:=by
 cases x with
 | t n=>exact h n v hx
 | c a=>exact Option.some.inj hx
theorem bZ4 (k : Nat) (v : AV) (r : Env) (t : Nat) : look ((k,v) :: r) t = if k = t then some v else look r t:=by
 show (match Nat.beq k t with | true=>some v | false=>look r t) = _
 by_cases h : k = t
 ·subst h; rw [if_pos rfl,Nat.beq_refl]
 ·have : Nat.beq k t = false:=by
   cases hb : Nat.beq k t with
   | false=>rfl
   | true=>exact absurd (Nat.eq_of_beq_eq_true hb) h
  rw [if_neg h,this]
theorem Ag.put {E : Env} {T : BT} (h : Ag E T) (d : Nat) (v : AV) : Ag ((d,v) :: E) (T.put (some d) v):=by
 intro k u hk
 rw [bZ4] at hk
 simp only [BT.put]
 by_cases e : d = k
 ·subst e
  rw [if_pos rfl] at hk ⊢
  cases hk
  rfl
 ·rw [if_neg e] at hk
  rw [if_neg (Ne.symm e)]
  exact h k u hk
def subE (E E' : Env) : Prop:=∀ k v,look E' k = some v → look E k = some v
theorem Ag.sub {E E' : Env} {T : BT} (h : Ag E T) (hs : subE E E') : Ag E' T:=fun k v hk=>h k v (hs k v hk)
theorem subE.nil (E : Env) : subE E []:=fun k v h=>by cases h
theorem subE.cons {E E' : Env} {k : Nat} {v : AV} (h : look E k = some v) (hs : subE E E') : subE E ((k,v) :: E'):=by
 intro t u ht
 rw [bZ4] at ht
 by_cases e : k = t
 ·subst e
  rw [if_pos rfl] at ht
  cases ht
  exact h
 ·rw [if_neg e] at ht
  exact hs t u ht
inductive It where
 | obj (k g : Nat) (t : TypeId) (cs : List AV)
 | tok (ks : List Nat) (n : Nat) (e : TypeId) (x : AV)
 | bld (k g : Nat) (t te : TypeId) (l : List UInt8)
 | own (up : Bool) (ks : List Nat) (o : OV) (a : AV) (F : List Loc)
 | cel (up : Bool) (ks : List Nat) (p : Loc) (g : Nat) (t : TypeId) (cs : List AV)
 | jnk (up : Bool) (ks : List Nat) (J : List Loc)
def Pl (L : Nat) (ks : List Nat) (q : Loc) : Prop:=q.l < L ∨ (q.l = L ∧ q.k = 0 ∧ q.i ≠ 0) ∨ (q.l = L ∧ q.i = 0 ∧ q.k ∈ ks)
def It.foot : It → List Loc
 | .own _ _ _ _ F=>F
 | .cel _ _ p _ _ _=>[p]
 | .jnk _ _ J=>J
 | _=>[]
def It.up : It → Bool
 | .own b _ _ _ _=>b
 | .cel b _ _ _ _ _=>b
 | .jnk b _ _=>b
 | _=>false
def It.keys : It → List Nat
 | .own _ ks _ _ _=>ks
 | .cel _ ks _ _ _ _=>ks
 | .jnk _ ks _=>ks
 | _=>[]
def It.new : It → Bool
 | .own _ _ _ _ _=>true
 | .cel _ _ _ _ _ _=>true
 | .jnk _ _ _=>true
 | _=>false
def App (S : AS) (L : Nat) (ks : List Nat) (n : Nat) (e : TypeId) (x : AV) : Prop :=
 (∃ p,x = .lit (.slice p 0 0)) ∨ (∃ es,x = .list .full n es) ∨ ∃ p g es,x = .list (.own p g) n es ∧ S.get p = some (.tok g es.length n e) ∧ p.l = L ∧ p.i = 0 ∧ p.k ∈ ks
def It.ok (S : AS) (L : Nat) : It → Prop
 | .obj k g t cs=>S.get ⟨L,k,0⟩ = some (.obj g t cs)
 | .tok ks n e x=>App S L ks n e x
 | .bld k g t te l=>∃ cs q,BLD te S ⟨L,k,0⟩ g t 0 cs l q ∧ cs.length = 2 ∧ l.length ≤ 1000000000 ∧ ∀ q1,q = some q1 → q1.l = L ∧ q1.k = 0 ∧ q1.i ≠ 0
 | .own _ ks o a F=>AtO S bF9 0 0 o a F ∧ ∀ q ∈ F,Pl L ks q
 | .cel _ ks p g t cs=>S.get p = some (.obj g t cs) ∧ Pl L ks p ∧ ∀ a ∈ cs,Co L a
 | .jnk _ ks J=>aI6 S J ∧ ∀ q ∈ J,Pl L ks q
def It.free (k : Nat) : It → Bool
 | .obj k' _ _ _=>!(Nat.beq k' k)
 | .tok ks _ _ _=>!ks.contains k
 | .bld k' _ _ _ _=>!(Nat.beq k' k)
 | .own _ ks _ _ _=>!ks.contains k
 | .cel _ ks _ _ _ _=>!ks.contains k
 | .jnk _ ks _=>!ks.contains k
structure Fr where
 fn : FuncId
 W : List Loc
 S0 : AS
 tr : Bool
 ro : Bool
instance : Coe Nat Fr:=⟨fun f=>⟨f,[],.bare,false,false⟩⟩
structure FrOk (F : Fr) (S : AS) (L : Nat) : Prop where
 srt : ar4 S.log
 log : ∀ r ∈ S.log,r.l ≤ L → r ∈ F.W ∧ F.ro = false
 un : F.tr = false ∨ ∀ r,r.l ≤ L → r ∉ S.log → S.get r = F.S0.get r
theorem FrOk.outs {F : Fr} {S : AS} {L : Nat} (h : FrOk F S L) (hW : F.W = []) : S.outs L = []:=by
 refine List.eq_nil_iff_forall_not_mem.2 fun r hr=>?_
 obtain ⟨h1,h2⟩:=ar8.1 hr
 have:=(h.log r h1 h2).1
 rw [hW] at this
 cases this
theorem FrOk.outs' {F : Fr} {S : AS} {L : Nat} (h : FrOk F S L) (hW : F.ro = true) : S.outs L = []:=by
 refine List.eq_nil_iff_forall_not_mem.2 fun r hr=>?_
 obtain ⟨h1,h2⟩:=ar8.1 hr
 have:=(h.log r h1 h2).2
 rw [hW] at this
 cases this
theorem FrOk.enter {F : Fr} {S : AS} (f : FuncId) (h0 : F.tr = false ∨ F.S0 = S) : FrOk F (S.enter f) S.lvl :=
 ⟨List.Pairwise.nil,fun _ h=>(nomatch h),h0.imp id fun e=>by subst e; exact fun _ _ _=>rfl⟩
theorem FrOk.own {F : Fr} {S : AS} {L : Nat} (h : FrOk F S L) {p : Loc} (hp : L < p.l) (s : ae1) : FrOk F (S.set p s) L:=by
 refine ⟨h.srt.put,fun r hr hl=>?_,h.un.imp id fun h r hl hr=>?_⟩
 ·rcases af8.1 hr with hr | rfl
  ·exact h.log r hr hl
  ·omega
 ·have hne : r ≠ p:=fun e=>by subst e; omega
  rw [AS.ah2 _ _ hne]
  exact h r hl fun hm=>hr (af8.2 (.inl hm))
theorem FrOk.after {F : Fr} {S : AS} {L : Nat} {u : Upd} (h : FrOk F S L) (hl : ∀ r ∈ ulog u,L < r.l ∨ r ∈ F.W ∧ F.ro = false) (hf : ∀ r,r ∉ ulog u → (S.after u).get r = S.get r) : FrOk F (S.after u) L:=by
 have e:=ct6 S u
 refine ⟨by rw [e]; exact h.srt.merge,fun r hr hle=>?_,h.un.imp id fun h' r hle hr=>?_⟩
 ·rw [e,ax0] at hr
  rcases hr with hr | hr
  ·exact h.log r hr hle
  ·rcases hl r hr with k | k
   ·omega
   ·exact k
 ·rw [e,ax0] at hr
  rw [hf r fun k=>hr (.inr k)]
  exact h' r hle fun k=>hr (.inl k)
structure RegA (f : Fr) (L : Nat) (A : List It) : Prop where
 sep : (A.flatMap It.foot).Nodup
 upr : ∀ it ∈ A,∀ q ∈ it.foot,q.l ≤ L → it.up = true ∧ q ∈ f.W
 cov : ∀ q ∈ f.W,∃ it ∈ A,it.up = true ∧ q ∈ it.foot
 upl : ∀ q ∈ f.W,q.l ≤ L
structure StA (S : AS) (L : Nat) (f : Fr) (A : List It) : Prop where
 lvl : S.lvl = L + 1
 fn : S.fn = f.fn
 dfr : S.dfr = []
 out : FrOk f S L
 its : ∀ it ∈ A,it.ok S (L + 1)
 reg : RegA f L A
theorem cJ4 {it : It} (h : it.new = false) : it.foot = [] ∧ it.up = false:=by cases it <;> first | exact ⟨rfl,rfl⟩ | cases h
theorem cl5 : ∀ A : List It,A.flatMap It.foot = (A.filter It.new).flatMap It.foot
 | []=>rfl
 | it :: r=>by
  rw [List.flatMap_cons,cl5 r,List.filter_cons]
  cases h : it.new with
  | true=>rw [if_pos rfl,List.flatMap_cons]
  | false=>rw [if_neg (by simp),(cJ4 h).1,List.nil_append]
theorem RegA.news {f : Fr} {L : Nat} {A A' : List It} (h : RegA f L A) (e : A'.filter It.new = A.filter It.new) : RegA f L A':=by
 have mem : ∀ it q,q ∈ it.foot → (it ∈ A' ↔ it ∈ A):=fun it q hq=>by
  have hn : it.new = true:=by
   cases hn : it.new with
   | true=>rfl
   | false=>rw [(cJ4 hn).1] at hq; cases hq
  have h1 : it ∈ A' ↔ it ∈ A'.filter It.new:=by rw [List.mem_filter]; simp [hn]
  have h2 : it ∈ A ↔ it ∈ A.filter It.new:=by rw [List.mem_filter]; simp [hn]
  rw [h1,h2,e]
 refine ⟨by rw [cl5,e,← cl5]; exact h.sep,fun it hi q hq=>h.upr it ((mem it q hq).1 hi) q hq,fun q hq=>?_,h.upl⟩
 obtain ⟨it,h1,h2,h3⟩:=h.cov q hq
 exact ⟨it,(mem it q h3).2 h1,h2,h3⟩
theorem RegA.none {F : Fr} {L : Nat} (h : F.W = []) : RegA F L []:=⟨List.nodup_nil,fun _ h=>(nomatch h),fun q hq=>(by rw [h] at hq; cases hq),fun q hq=>(by rw [h] at hq; cases hq)⟩
theorem Pl.ne {L k : Nat} {ks : List Nat} {q : Loc} (h : Pl L ks q) (hk : (!ks.contains k) = true) : q ≠ ⟨L,k,0⟩:=fun e=>by
 subst e
 rcases h with h | h | h
 ·simp at h
 ·exact h.2.2 rfl
 ·rw [List.contains_iff_mem.2 h.2.2] at hk
  cases hk
theorem BLD.set {te : TypeId} {S : AS} {p r : Loc} {g off : Nat} {t : TypeId} {cs : List AV} {l : List UInt8} {q : Option Loc} {s : ae1} (h : BLD te S p g t off cs l q) (hp : p ≠ r) (hq : ∀ q1,q = some q1 → q1 ≠ r) : BLD te (S.set r s) p g t off cs l q:=by
 refine ⟨by rw [AS.ah2 _ _ hp]; exact h.get,h.co,h.len,h.lv,h.addr,?_⟩
 rcases h.buf with k | ⟨q',g',k1,k2,k3,k4,k5⟩
 ·exact .inl k
 ·exact .inr ⟨q',g',k1,k2,k3,by rw [AS.ah2 _ _ (hq _ k2)]; exact k4,k5⟩
theorem It.bs2 {S : AS} {L k : Nat} {it : It} {s : ae1} (h : it.ok S L) (hf : it.free k = true) : it.ok (S.set ⟨L,k,0⟩ s) L:=by
 cases it with
 | obj k' g t cs =>
  simp only [It.free,Bool.not_eq_true'] at hf
  show (S.set _ s).get _ = _
  rw [AS.ah2]
  ·exact h
  ·intro e
   have : k' = k:=(Loc.mk.inj e).2.1
   subst this
   rw [Nat.beq_refl] at hf
   cases hf
 | own up ks o a F=>exact ⟨h.1.local fun q hq=>AS.ah2 _ _ (h.2 q hq |>.ne hf),h.2⟩
 | cel up ks p g t cs=>exact ⟨by rw [AS.ah2 _ _ (h.2.1.ne hf)]; exact h.1,h.2⟩
 | jnk up ks J=>exact ⟨h.1.local fun q hq=>AS.ah2 _ _ (h.2 q hq |>.ne hf),h.2⟩
 | bld k' g t te l =>
  simp only [It.free,Bool.not_eq_true'] at hf
  obtain ⟨cs,q,h1,h2,h3,h4⟩:=h
  refine ⟨cs,q,h1.set (fun e=>?_) (fun q1 hq e=>?_),h2,h3,h4⟩
  ·have : k' = k:=(Loc.mk.inj e).2.1
   subst this
   rw [Nat.beq_refl] at hf
   cases hf
  ·subst e
   exact (h4 _ hq).2.2 rfl
 | tok ks n e x =>
  rcases h with h | h | ⟨p,g,es,h1,h2,h3,h4,h5⟩
  ·exact .inl h
  ·exact .inr (.inl h)
  ·refine .inr (.inr ⟨p,g,es,h1,?_,h3,h4,h5⟩)
   rw [AS.ah2]
   ·exact h2
   ·intro e
    subst e
    simp only [It.free,Bool.not_eq_true'] at hf
    have:=List.contains_iff_mem.2 h5
    rw [hf] at this
    cases this
def setO (k g : Nat) (t : TypeId) (cs : List AV) : List It → List It
 | []=>[.obj k g t cs]
 | .obj k' g' t' cs' :: r=>match Nat.beq k' k with
  | true=>.obj k g t cs :: r
  | false=>.obj k' g' t' cs' :: setO k g t cs r
 | .tok ks n e x :: r=>.tok ks n e x :: setO k g t cs r
 | .bld k' g' t' te l :: r=>.bld k' g' t' te l :: setO k g t cs r
 | .own u ks o a F :: r=>.own u ks o a F :: setO k g t cs r
 | .cel u ks p' g' t' cs' :: r=>.cel u ks p' g' t' cs' :: setO k g t cs r
 | .jnk u ks J :: r=>.jnk u ks J :: setO k g t cs r
def bi0 (k : Nat) : List It → Bool
 | []=>true
 | .obj k' _ _ _ :: r=>match Nat.beq k' k with
  | true=>r.all (It.free k)
  | false=>bi0 k r
 | .tok ks _ _ _ :: r=>!ks.contains k && bi0 k r
 | .bld k' _ _ _ _ :: r=>!(Nat.beq k' k) && bi0 k r
 | .own _ ks _ _ _ :: r=>!ks.contains k && bi0 k r
 | .cel _ ks _ _ _ _ :: r=>!ks.contains k && bi0 k r
 | .jnk _ ks _ :: r=>!ks.contains k && bi0 k r
def lookO : List It → Nat → Option (Nat × TypeId × List AV)
 | [],_=>none
 | .obj k' g t cs :: r,k=>match Nat.beq k' k with
  | true=>some (g,t,cs)
  | false=>lookO r k
 | .tok _ _ _ _ :: r,k=>lookO r k
 | .bld _ _ _ _ _ :: r,k=>lookO r k
 | .own _ _ _ _ _ :: r,k=>lookO r k
 | .cel _ _ _ _ _ _ :: r,k=>lookO r k
 | .jnk _ _ _ :: r,k=>lookO r k
theorem aE0 {S : AS} {L : Nat} : ∀ {A : List It} {k g : Nat} {t : TypeId} {cs : List AV},(∀ it ∈ A,it.ok S L) → lookO A k = some (g,t,cs) → S.get ⟨L,k,0⟩ = some (.obj g t cs)
 | [],_,_,_,_,_,h=>by cases h
 | .obj k' g' t' cs' :: r,k,g,t,cs,hA,h=>by
  unfold lookO at h
  split at h
  ·rename_i hb
   cases h
   have:=Nat.eq_of_beq_eq_true hb
   subst this
   exact hA _ (List.mem_cons_self ..)
  ·exact aE0 (fun it hi=>hA it (List.mem_cons_of_mem _ hi)) h
 | .tok _ _ _ _ :: r,k,g,t,cs,hA,h=>aE0 (A:=r) (fun it hi=>hA it (List.mem_cons_of_mem _ hi)) h
 | .bld _ _ _ _ _ :: r,k,g,t,cs,hA,h=>aE0 (A:=r) (fun it hi=>hA it (List.mem_cons_of_mem _ hi)) h
 | .own _ _ _ _ _ :: r,k,g,t,cs,hA,h=>aE0 (A:=r) (fun it hi=>hA it (List.mem_cons_of_mem _ hi)) h
 | .cel _ _ _ _ _ _ :: r,k,g,t,cs,hA,h=>aE0 (A:=r) (fun it hi=>hA it (List.mem_cons_of_mem _ hi)) h
 | .jnk _ _ _ :: r,k,g,t,cs,hA,h=>aE0 (A:=r) (fun it hi=>hA it (List.mem_cons_of_mem _ hi)) h
theorem a08 {S : AS} {L : Nat} {k g : Nat} {t : TypeId} {cs : List AV} : ∀ {A : List It},(∀ it ∈ A,it.ok S L) → bi0 k A = true → ∀ it ∈ setO k g t cs A,it.ok (S.set ⟨L,k,0⟩ (.obj g t cs)) L
 | [],_,_=>by
  intro it hi
  simp only [setO,List.mem_singleton] at hi
  subst hi
  exact AS.get_set_same ..
 | .obj k' g' t' cs' :: r,hA,hf=>by
  intro it hi
  unfold setO at hi
  unfold bi0 at hf
  cases hb : Nat.beq k' k with
  | true =>
   rw [hb] at hi hf
   simp only [List.mem_cons] at hi
   rcases hi with rfl | hi
   ·exact AS.get_set_same ..
   ·exact It.bs2 (hA it (List.mem_cons_of_mem _ hi)) (List.all_eq_true.1 hf it hi)
  | false =>
   rw [hb] at hi hf
   simp only [List.mem_cons] at hi
   rcases hi with rfl | hi
   ·exact It.bs2 (hA _ (List.mem_cons_self ..)) (by simp [It.free,hb])
   ·exact a08 (A:=r) (fun it hi=>hA it (List.mem_cons_of_mem _ hi)) hf it hi
 | .tok ks n e x :: r,hA,hf=>by
  intro it hi
  simp only [bi0,Bool.and_eq_true,Bool.not_eq_true'] at hf
  simp only [setO,List.mem_cons] at hi
  rcases hi with rfl | hi
  ·exact It.bs2 (hA _ (List.mem_cons_self ..)) (by simp only [It.free,hf.1,Bool.not_false])
  ·exact a08 (A:=r) (fun it hi=>hA it (List.mem_cons_of_mem _ hi)) hf.2 it hi
 | .bld k' g' t' te l :: r,hA,hf=>by
  intro it hi
  simp only [bi0,Bool.and_eq_true,Bool.not_eq_true'] at hf
  simp only [setO,List.mem_cons] at hi
  rcases hi with rfl | hi
  ·exact It.bs2 (hA _ (List.mem_cons_self ..)) (by simp only [It.free,hf.1,Bool.not_false])
  ·exact a08 (A:=r) (fun it hi=>hA it (List.mem_cons_of_mem _ hi)) hf.2 it hi
 | .own u ks o a F :: r,hA,hf=>by
  intro it hi
  simp only [bi0,Bool.and_eq_true] at hf
  simp only [setO,List.mem_cons] at hi
  rcases hi with rfl | hi
  ·exact It.bs2 (hA _ (List.mem_cons_self ..)) hf.1
  ·exact a08 (A:=r) (fun it hi=>hA it (List.mem_cons_of_mem _ hi)) hf.2 it hi
 | .cel u ks p' g' t' cs' :: r,hA,hf=>by
  intro it hi
  simp only [bi0,Bool.and_eq_true] at hf
  simp only [setO,List.mem_cons] at hi
  rcases hi with rfl | hi
  ·exact It.bs2 (hA _ (List.mem_cons_self ..)) hf.1
  ·exact a08 (A:=r) (fun it hi=>hA it (List.mem_cons_of_mem _ hi)) hf.2 it hi
 | .jnk u ks J :: r,hA,hf=>by
  intro it hi
  simp only [bi0,Bool.and_eq_true] at hf
  simp only [setO,List.mem_cons] at hi
  rcases hi with rfl | hi
  ·exact It.bs2 (hA _ (List.mem_cons_self ..)) hf.1
  ·exact a08 (A:=r) (fun it hi=>hA it (List.mem_cons_of_mem _ hi)) hf.2 it hi
theorem aZ3 {k g : Nat} {t : TypeId} {cs : List AV} : ∀ A : List It,(setO k g t cs A).filter It.new = A.filter It.new
 | []=>rfl
 | .obj k' g' t' cs' :: r=>by
  unfold setO
  cases Nat.beq k' k with
  | true=>rfl
  | false=>exact aZ3 r
 | .tok ks n e x :: r=>aZ3 (k:=k) (g:=g) (t:=t) (cs:=cs) r
 | .bld k' g' t' te l :: r=>aZ3 (k:=k) (g:=g) (t:=t) (cs:=cs) r
 | .own u ks o a F :: r=>congrArg (It.own u ks o a F :: ·) (aZ3 (k:=k) (g:=g) (t:=t) (cs:=cs) r)
 | .cel u ks p' g' t' cs' :: r=>congrArg (It.cel u ks p' g' t' cs' :: ·) (aZ3 (k:=k) (g:=g) (t:=t) (cs:=cs) r)
 | .jnk u ks J :: r=>congrArg (It.jnk u ks J :: ·) (aZ3 (k:=k) (g:=g) (t:=t) (cs:=cs) r)
theorem cE2 {it : It} (h : it.new = false) : ∀ {A : List It} {i : Nat} {a : It},A[i]? = some a → a.new = false → (A.set i it).filter It.new = A.filter It.new
 | [],_,_,e,_=>by cases e
 | b :: r,0,a,e,ha=>by cases e; simp [List.filter_cons,h,ha]
 | b :: r,i + 1,a,e,ha=>by
  simp only [List.set_cons_succ,List.filter_cons]
  rw [cE2 h (A:=r) (i:=i) e ha]
theorem StA.set {S : AS} {L : Nat} {f : Fr} {A A' : List It} (h : StA S L f A) (k : Nat) (s : ae1) (h' : ∀ it ∈ A',it.ok (S.set ⟨L + 1,k,0⟩ s) (L + 1)) (hn : A'.filter It.new = A.filter It.new:=by first | rfl | exact aZ3 _) : StA (S.set ⟨L + 1,k,0⟩ s) L f A' :=
 ⟨h.lvl,h.fn,h.dfr,h.out.own (Nat.lt_succ_self L) s,h',h.reg.news hn⟩
inductive ItW : It → It → Prop
 | rfl {a : It} : ItW a a
 | own {up up' : Bool} {ks ks' : List Nat} {o : OV} {a : AV} {F : List Loc} (hu : (!up || up') = true) (h : (ks.all fun k=>ks'.contains k) = true) : ItW (.own up ks o a F) (.own up' ks' o a F)
 | cel {up up' : Bool} {ks ks' : List Nat} {p : Loc} {g : Nat} {t : TypeId} {cs : List AV} (hu : (!up || up') = true) (h : (ks.all fun k=>ks'.contains k) = true) : ItW (.cel up ks p g t cs) (.cel up' ks' p g t cs)
 | jnk {up up' : Bool} {ks ks' : List Nat} {J : List Loc} (hu : (!up || up') = true) (h : (ks.all fun k=>ks'.contains k) = true) : ItW (.jnk up ks J) (.jnk up' ks' J)
inductive SubP (A : List It) : List Nat → List It → Prop
 | nil : SubP A [] []
 | cons {i : Nat} {a b : It} {idx : List Nat} {A' : List It} (h : A[i]? = some a) (w : ItW a b) (r : SubP A idx A') : SubP A (i :: idx) (b :: A')
def c07 (idx : List Nat) : Nat → List It → Bool
 | _,[]=>true
 | j,it :: r=>(!it.up || idx.contains j) && c07 idx (j + 1) r
def noDup : List Nat → Bool
 | []=>true
 | i :: r=>!r.contains i && noDup r
def idxOk (A : List It) (idx : List Nat) : Bool:=noDup idx && c07 idx 0 A
theorem Pl.mono {L : Nat} {ks ks' : List Nat} {q : Loc} (h : Pl L ks q) (hk : (ks.all fun k=>ks'.contains k) = true) : Pl L ks' q:=by
 rcases h with h | h | h
 ·exact .inl h
 ·exact .inr (.inl h)
 ·exact .inr (.inr ⟨h.1,h.2.1,List.contains_iff_mem.1 (List.all_eq_true.1 hk _ h.2.2)⟩)
theorem ItW.ok {a b : It} {S : AS} {L : Nat} (w : ItW a b) (h : a.ok S L) : b.ok S L:=by
 cases w with
 | rfl=>exact h
 | own _ hk=>exact ⟨h.1,fun q hq=>(h.2 q hq).mono hk⟩
 | cel _ hk=>exact ⟨h.1,h.2.1.mono hk,h.2.2⟩
 | jnk _ hk=>exact ⟨h.1,fun q hq=>(h.2 q hq).mono hk⟩
theorem ItW.foot {a b : It} (w : ItW a b) : b.foot = a.foot ∧ (a.up = true → b.up = true):=by
 cases w with
 | rfl=>exact ⟨Eq.refl _,id⟩
 | own hu _=>exact ⟨Eq.refl _,fun h=>by simp only [It.up] at h ⊢; subst h; simpa using hu⟩
 | cel hu _=>exact ⟨Eq.refl _,fun h=>by simp only [It.up] at h ⊢; subst h; simpa using hu⟩
 | jnk hu _=>exact ⟨Eq.refl _,fun h=>by simp only [It.up] at h ⊢; subst h; simpa using hu⟩
theorem SubP.mem {A A' : List It} {idx : List Nat} (h : SubP A idx A') : ∀ b ∈ A',∃ i ∈ idx,∃ a,A[i]? = some a ∧ ItW a b:=by
 induction h with
 | nil=>intro b hb; cases hb
 | @cons i a b idx A' h w r ih =>
  intro x hx
  rcases List.mem_cons.1 hx with rfl | hx
  ·exact ⟨i,List.mem_cons_self ..,a,h,w⟩
  ·obtain ⟨j,h1,h2⟩:=ih x hx
   exact ⟨j,List.mem_cons_of_mem _ h1,h2⟩
theorem cz9 {A : List It} (h : (A.flatMap It.foot).Nodup) : ∀ {i j : Nat} {a b : It},A[i]? = some a → A[j]? = some b → i ≠ j → ∀ q ∈ a.foot,q ∉ b.foot:=by
 induction A with
 | nil=>intro i j a b hi; cases hi
 | cons x r ih =>
  rw [List.flatMap_cons] at h
  have h1:=List.nodup_append.1 h
  intro i j a b hi hj hne q hq hq'
  cases i with
  | zero =>
   cases j with
   | zero=>exact hne rfl
   | succ j =>
    cases hi
    exact h1.2.2 q hq q (List.mem_flatMap.2 ⟨b,List.mem_of_getElem? (i:=j) hj,hq'⟩) rfl
  | succ i =>
   cases j with
   | zero =>
    cases hj
    exact h1.2.2 q hq' q (List.mem_flatMap.2 ⟨a,List.mem_of_getElem? (i:=i) hi,hq⟩) rfl
   | succ j=>exact ih h1.2.1 (i:=i) (j:=j) hi hj (fun e=>hne (by rw [e])) q hq hq'
theorem flat_one {A : List It} (h : (A.flatMap It.foot).Nodup) : ∀ {i : Nat} {a : It},A[i]? = some a → a.foot.Nodup:=by
 induction A with
 | nil=>intro i a hi; cases hi
 | cons x r ih =>
  rw [List.flatMap_cons] at h
  have h1:=List.nodup_append.1 h
  intro i a hi
  cases i with
  | zero=>cases hi; exact h1.1
  | succ i=>exact ih h1.2.1 (i:=i) hi
theorem SubP.sep {A A' : List It} {idx : List Nat} (h : SubP A idx A') (hA : (A.flatMap It.foot).Nodup) (hn : noDup idx = true) : (A'.flatMap It.foot).Nodup:=by
 induction h with
 | nil=>exact List.nodup_nil
 | @cons i a b idx A' h w r ih =>
  simp only [noDup,Bool.and_eq_true,Bool.not_eq_true'] at hn
  rw [List.flatMap_cons,List.nodup_append]
  refine ⟨by rw [w.foot.1]; exact flat_one hA h,ih hn.2,fun q hq q' hq' e=>?_⟩
  subst e
  obtain ⟨x,hx,hqx⟩:=List.mem_flatMap.1 hq'
  obtain ⟨j,h1,c,h2,h3⟩:=r.mem x hx
  rw [w.foot.1] at hq
  rw [h3.foot.1] at hqx
  refine cz9 hA h h2 (fun e=>?_) q hq hqx
  subst e
  rw [List.contains_iff_mem.2 h1] at hn
  cases hn.1
theorem ct3 {idx : List Nat} : ∀ {A : List It} {j i : Nat} {a : It},c07 idx j A = true → A[i]? = some a → a.up = true → j + i ∈ idx
 | [],_,_,_,_,h,_=>by cases h
 | x :: r,j,0,a,h,hi,hu=>by
  cases hi
  simp only [c07,hu,Bool.not_true,Bool.false_or,Bool.and_eq_true] at h
  exact List.contains_iff_mem.1 h.1
 | x :: r,j,i + 1,a,h,hi,hu=>by
  simp only [c07,Bool.and_eq_true] at h
  have:=ct3 (A:=r) (j:=j + 1) (i:=i) h.2 hi hu
  rw [show j + (i + 1) = j + 1 + i by omega]
  exact this
theorem SubP.at {A A' : List It} {idx : List Nat} (h : SubP A idx A') : ∀ i ∈ idx,∃ a b,A[i]? = some a ∧ ItW a b ∧ b ∈ A':=by
 induction h with
 | nil=>intro i hi; cases hi
 | @cons i a b idx A' h w r ih =>
  intro j hj
  rcases List.mem_cons.1 hj with rfl | hj
  ·exact ⟨a,b,h,w,List.mem_cons_self ..⟩
  ·obtain ⟨x,y,h1,h2,h3⟩:=ih j hj
   exact ⟨x,y,h1,h2,List.mem_cons_of_mem _ h3⟩
theorem StA.sub {S : AS} {L : Nat} {f : Fr} {A A' : List It} {idx : List Nat} (h : StA S L f A) (hs : SubP A idx A') (hi : idxOk A idx = true) : StA S L f A':=by
 simp only [idxOk,Bool.and_eq_true] at hi
 refine ⟨h.lvl,h.fn,h.dfr,h.out,fun b hb=>?_,hs.sep h.reg.sep hi.1,fun b hb q hq hl=>?_,fun q hq=>?_,h.reg.upl⟩
 ·obtain ⟨i,_,a,h1,h2⟩:=hs.mem b hb
  exact h2.ok (h.its a (List.mem_of_getElem? h1))
 ·obtain ⟨i,_,a,h1,h2⟩:=hs.mem b hb
  rw [h2.foot.1] at hq
  obtain ⟨k1,k2⟩:=h.reg.upr a (List.mem_of_getElem? h1) q hq hl
  exact ⟨h2.foot.2 k1,k2⟩
 ·obtain ⟨a,h1,h2,h3⟩:=h.reg.cov q hq
  obtain ⟨i,h4⟩:=List.getElem?_of_mem h1
  have h5:=ct3 hi.2 h4 h2
  rw [Nat.zero_add] at h5
  obtain ⟨x,y,k1,k2,k3⟩:=hs.at i h5
  rw [h4] at k1
  cases k1
  exact ⟨y,k3,k2.foot.2 h2,by rw [k2.foot.1]; exact h3⟩
theorem StA.add {S : AS} {L : Nat} {f : Fr} {A : List It} (h : StA S L f A) {it : It} (hi : it.ok S (L + 1)) (hn : it.new = false) : StA S L f (it :: A):=⟨h.lvl,h.fn,h.dfr,h.out,fun j hj=>by
 rcases List.mem_cons.1 hj with rfl | hj
 ·exact hi
 ·exact h.its j hj,h.reg.news (by rw [List.filter_cons,if_neg (by rw [hn]; simp)])⟩
abbrev Ks:=Option (List Nat)
abbrev AF:=Ks × Ks
def keyOf (L : Nat) (p : Loc) : Nat:=if p.l = L ∧ p.i = 0 then p.k else 0
theorem aR7 (L k : Nat) : keyOf L ⟨L,k,0⟩ = k:=by simp [keyOf]
def okK (L : Nat) : Ks → FK → Prop
 | none,_=>True
 | some ks,k=>k = .none ∨ ∃ Ls,k = .slots Ls ∧ (Ls ≠ [] ∨ ks ≠ []) ∧ ∀ p ∈ Ls,keyOf L p ∈ ks
def okF (L : Nat) (a : AF) (f : Foot) : Prop:=okK L a.1 f.rd ∧ okK L a.2 f.wr
def cK4 : Ks → Ks → Bool
 | some [],_=>true
 | _,some []=>true
 | some a,some b=>a.all fun x=>!b.contains x
 | _,_=>false
theorem b26 {L : Nat} {k : FK} (h : okK L (some []) k) : k = .none:=by
 rcases h with h | ⟨Ls,rfl,h1,h2⟩
 ·exact h
 ·cases Ls with
  | nil=>rcases h1 with h1 | h1 <;> exact absurd rfl h1
  | cons p r=>exact absurd (h2 p (List.mem_cons_self ..)) (List.not_mem_nil)
theorem keyOf_up {L : Nat} {p : Loc} (h : p.l < L ∨ (p.l = L ∧ p.k = 0 ∧ p.i ≠ 0)) : keyOf L p = 0:=by
 unfold keyOf
 rw [if_neg fun e=>by rcases h with h | h <;> omega]
theorem cm5 (k : FK) : FK.clear .none k = true:=by cases k <;> rfl
theorem bZ9 (k : FK) : FK.clear k .none = true:=by cases k <;> rfl
theorem b23 {L : Nat} {a b : Ks} {x y : FK} (ha : okK L a x) (hb : okK L b y) (h : cK4 a b = true) : x.clear y = true:=by
 cases a with
 | none =>
  cases b with
  | none=>cases h
  | some b =>
   cases b with
   | nil=>rw [b26 hb]; exact bZ9 x
   | cons=>cases h
 | some a =>
  cases a with
  | nil=>rw [b26 ha]; exact cm5 y
  | cons a0 a1 =>
   cases b with
   | none=>cases h
   | some b =>
    cases b with
    | nil=>rw [b26 hb]; exact bZ9 x
    | cons b0 b1 =>
     rcases ha with rfl | ⟨Ls,rfl,_,ha⟩
     ·exact cm5 y
     ·rcases hb with rfl | ⟨Ms,rfl,_,hb⟩
      ·exact bZ9 _
      ·show (Ls.all fun p=>!Ms.contains p) = true
       refine List.all_eq_true.2 fun p hp=>?_
       simp only [Bool.not_eq_true']
       cases hc : Ms.contains p with
       | false=>rfl
       | true =>
        have h1:=ha p hp
        have h2:=hb p (List.contains_iff_mem.1 hc)
        have h3:=List.all_eq_true.1 h _ h1
        simp only [Bool.not_eq_true'] at h3
        have:=List.contains_iff_mem.2 h2
        rw [h3] at this
        cases this
def c42 (a b : AF) : Bool:=cK4 a.2 b.1 && cK4 a.2 b.2 && cK4 b.2 a.1
theorem c47 {L : Nat} {a b : AF} {f g : Foot} (ha : okF L a f) (hb : okF L b g) (h : c42 a b = true) : f.cu5 g = true:=by
 simp only [c42,Bool.and_eq_true] at h
 unfold Foot.cu5
 simp only [Bool.and_eq_true]
 exact ⟨⟨b23 ha.2 hb.1 h.1.1,b23 ha.2 hb.2 h.1.2⟩,b23 hb.2 ha.1 h.2⟩
def FsR (L : Nat) : List AF → List Foot → Prop
 | [],l=>l = []
 | a :: r,l=>∃ f t,l = f :: t ∧ okF L a f ∧ FsR L r t
theorem FsR.get {L : Nat} : ∀ {as1 : List AF} {fs : List Foot} {i : Nat} {a : AF},FsR L as1 fs → as1[i]? = some a → ∃ f,fs[i]? = some f ∧ okF L a f
 | [],_,_,_,_,h=>by cases h
 | b :: r,fs,0,a,h,hi=>by
  obtain ⟨f,t,rfl,h1,h2⟩:=h
  cases hi
  exact ⟨f,rfl,h1⟩
 | b :: r,fs,i + 1,a,h,hi=>by
  obtain ⟨f,t,rfl,h1,h2⟩:=h
  exact h2.get hi
theorem FsR.push {L : Nat} {a : AF} {f : Foot} (hf : okF L a f) : ∀ {as1 : List AF} {fs : List Foot},FsR L as1 fs → FsR L (as1 ++ [a]) (fs ++ [f])
 | [],fs,h=>by cases h; exact ⟨f,[],rfl,hf,rfl⟩
 | b :: r,fs,h=>by
  obtain ⟨g,t,rfl,h1,h2⟩:=h
  exact ⟨g,t ++ [f],rfl,h1,h2.push hf⟩
abbrev AAcc:=Option (List AF)
def AccR (L : Nat) : AAcc → Acc → Prop
 | none,c=>c = none
 | some l,c=>∃ fs,c = some fs ∧ FsR L l fs
def accP (c : AAcc) (a : AF) : AAcc:=c.map (· ++ [a])
theorem AccR.push {L : Nat} {c : AAcc} {d : Acc} {a : AF} {f : Foot} (h : AccR L c d) (hf : okF L a f) : AccR L (accP c a) (d.push f):=by
 cases c with
 | none=>cases h; rfl
 | some l =>
  obtain ⟨fs,rfl,h⟩:=h
  exact ⟨fs ++ [f],rfl,h.push hf⟩
def chkL : List (Nat × Nat) → AAcc → Bool
 | [],_=>true
 | L,some as1=>L.all fun p=>match as1[p.1]?,as1[p.2]? with
  | some a,some b=>c42 a b
  | _,_=>false
 | _,none=>false
def finO : Option (List (Nat × Nat)) → BO4 → XB
 | none=>bend
 | some L=>ck8 L
def acc1 : List (Nat × Nat) → AAcc
 | []=>none
 | _=>some []
abbrev az3:=AX → BT → AS → Prop
section
variable [Cfg]
def G (x : AX) (L : Nat) (f : Fr) (E : Env) (A : List It) (Φ : az3) : Prop:=∀ T S,Ag E T → StA S L f A → Φ x T S
def RunB (P : Program) (c : BC) (T : BT) (S : AS) (Φ : az3) : Prop:=∃ x T' S',aw8 P c T S = some (x,T',S') ∧ Φ x T' S'
def GC (P : Program) (c : BC) (L : Nat) (f : Fr) (E : Env) (A : List It) (Φ : az3) : Prop:=∀ T S,Ag E T → StA S L f A → RunB P c T S Φ
def GO1 (P : Program) (m : Option (List (Nat × Nat))) (acc : AAcc) (l : List BI) (L : Nat) (f : Fr) (E : Env) (A : List It) (Φ : az3) : Prop :=
 ∀ c T S,AccR (L + 1) acc c → Ag E T → StA S L f A → ∃ x T' S',finO m (ae2 P (ak5 P) c l T S) = some (x,T',S') ∧ Φ x T' S'
def Thn (P : Program) (b : BC) (Φ : az3) : az3
 | .normal,T,S=>RunB P b T S Φ
 | x,T,S=>Φ x T S
def Blk (id : Nat) (Φ : az3) : az3
 | .exit j,T,S=>if j = id then Φ .normal T S else Φ (.exit j) T S
 | x,T,S=>Φ x T S
variable {P : Program} {L : Nat} {f : Fr} {E : Env} {A : List It} {Φ Ψ : az3}
theorem aa1 {a b : BC} (h : GC P a L f E A (Thn P b Φ)) : GC P (.seq a b) L f E A Φ:=by
 intro T S hT hS
 obtain ⟨x,T',S',h1,h2⟩:=h T S hT hS
 unfold RunB
 rw [cu0,h1]
 cases x with
 | normal=>exact h2
 | _=>exact ⟨_,T',S',rfl,h2⟩
theorem ag3 {id : Nat} {b : BC} (h : GC P b L f E A (Blk id Φ)) : GC P (.block id b) L f E A Φ:=by
 intro T S hT hS
 obtain ⟨x,T',S',h1,h2⟩:=h T S hT hS
 unfold RunB
 rw [b34,h1]
 cases x with
 | exit j =>
  simp only [Blk] at h2
  by_cases e : j = id
  ·rw [if_pos e] at h2
   exact ⟨.normal,T',S',by simp [bl4,e],h2⟩
  ·rw [if_neg e] at h2
   exact ⟨.exit j,T',S',by simp [bl4,e],h2⟩
 | _=>exact ⟨_,T',S',rfl,h2⟩
theorem g_condT {c : X} {a b : BC} (hc : opd E c = some (.lit (.bool true))) (h : GC P a L f E A Φ) : GC P (.cond c a b) L f E A Φ:=by
 intro T S hT hS
 unfold RunB
 rw [bC2,hT.at hc,b84]
 exact h T S hT hS
theorem c08 {c : X} {a b : BC} (hc : opd E c = some (.lit (.bool false))) (h : GC P b L f E A Φ) : GC P (.cond c a b) L f E A Φ:=by
 intro T S hT hS
 unfold RunB
 rw [bC2,hT.at hc,bY0]
 exact h T S hT hS
theorem g_cT {c : X} {a b : BC} {t : Bool} (hc : opd E c = some (.lit (.bool t))) (ht : t = true) (h : GC P a L f E A Φ) : GC P (.cond c a b) L f E A Φ:=by
 subst ht
 exact g_condT hc h
theorem g_cF {c : X} {a b : BC} {t : Bool} (hc : opd E c = some (.lit (.bool t))) (ht : t = false) (h : GC P b L f E A Φ) : GC P (.cond c a b) L f E A Φ:=by
 subst ht
 exact c08 hc h
theorem ah1 (h : G .normal L f E A Φ) : GC P .skip L f E A Φ:=fun T S hT hS=>⟨_,T,S,b79 T S,h T S hT hS⟩
theorem aA5 {id : Nat} (h : G (.exit id) L f E A Φ) : GC P (.exit id) L f E A Φ:=fun T S hT hS=>⟨_,T,S,cb7 id T S,h T S hT hS⟩
theorem ap6 (h : G .ret L f E A Φ) : GC P .ret L f E A Φ:=fun T S hT hS=>⟨_,T,S,cl7 T S,h T S hT hS⟩
theorem y7 {b : BC} (h : GC P b L f E A Φ) : G .normal L f E A (Thn P b Φ):=h
theorem aU1 {b : BC} (h : G .ret L f E A Φ) : G .ret L f E A (Thn P b Φ):=h
theorem aA3 {b : BC} {j : Nat} (h : G (.exit j) L f E A Φ) : G (.exit j) L f E A (Thn P b Φ):=h
theorem aa2 {l : List BI} (h : GO1 P none none l L f E A Φ) : GC P (.ops l) L f E A Φ:=by
 intro T S hT hS
 obtain ⟨x,T',S',h1,h2⟩:=h none T S rfl hT hS
 exact ⟨x,T',S',by rw [cq4]; exact h1,h2⟩
theorem au7 {l : List BI} {D : List (Nat × Nat)} (h : GO1 P (some D) (acc1 D) l L f E A Φ) : GC P (.draw l D) L f E A Φ:=by
 intro T S hT hS
 obtain ⟨x,T',S',h1,h2⟩:=h (acc0 D) T S (by cases D with
  | nil=>rfl
  | cons=>exact ⟨[],rfl,rfl⟩) hT hS
 exact ⟨x,T',S',by rw [b94]; exact h1,h2⟩
theorem aa3 {acc : AAcc} (h : G .normal L f E A Φ) : GO1 P none acc [] L f E A Φ:=fun c T S _ hT hS=>⟨.normal,T,S,rfl,h T S hT hS⟩
theorem aC8 {acc : AAcc} {D : List (Nat × Nat)} (hc : chkL D acc = true) (h : G .normal L f E A Φ) : GO1 P (some D) acc [] L f E A Φ:=by
 intro c T S hR hT hS
 refine ⟨.normal,T,S,?_,h T S hT hS⟩
 cases D with
 | nil=>rfl
 | cons d D =>
  cases acc with
  | none=>cases hc
  | some l =>
   obtain ⟨fs,rfl,hF⟩:=hR
   refine b89 d D fs (List.all_eq_true.2 fun p hp=>?_)
   have h1:=List.all_eq_true.1 hc p hp
   unfold cd1
   revert h1
   cases ha : l[p.1]? with
   | none=>intro h1; cases h1
   | some a =>
    cases hb : l[p.2]? with
    | none=>intro h1; cases h1
    | some b =>
     intro h1
     obtain ⟨x,hx,kx⟩:=hF.get ha
     obtain ⟨y,hy,ky⟩:=hF.get hb
     rw [hx,hy]
     exact c47 kx ky h1
theorem g_add {m : Option (List (Nat × Nat))} {acc : AAcc} {l : List BI} {ks : List Nat} {n : Nat} {e : TypeId} {x : AV} (hx : (∃ p,x = .lit (.slice p 0 0)) ∨ ∃ es,x = .list .full n es) (h : GO1 P m acc l L f E (.tok ks n e x :: A) Φ) : GO1 P m acc l L f E A Φ :=
 fun c T S hc hT hS=>h c T S hc hT (hS.add (by
  rcases hx with hx | hx
  ·exact .inl hx
  ·exact .inr (.inl hx)) rfl)
theorem da8 {c : BC} {ks : List Nat} {n : Nat} {e : TypeId} {x : AV} (hx : (∃ p,x = .lit (.slice p 0 0)) ∨ ∃ es,x = .list .full n es) (h : GC P c L f E (.tok ks n e x :: A) Φ) : GC P c L f E A Φ :=
 fun T S hT hS=>h T S hT (hS.add (by
  rcases hx with hx | hx
  ·exact .inl hx
  ·exact .inr (.inl hx)) rfl)
end
section
variable {L : Nat} {f : Fr} {E : Env} {A : List It} {Φ : az3}
theorem ak4 {id : Nat} (h : G .normal L f E A Φ) : G .normal L f E A (Blk id Φ):=h
theorem cw1 {id : Nat} (h : G .ret L f E A Φ) : G .ret L f E A (Blk id Φ):=h
theorem ay3 {id : Nat} (h : G .normal L f E A Φ) : G (.exit id) L f E A (Blk id Φ):=by
 intro T S hT hS
 show (if id = id then _ else _)
 rw [if_pos rfl]
 exact h T S hT hS
theorem co6 {x : AX} {E' : Env} {A' : List It} {idx : List Nat} (hE : subE E E') (hA : SubP A idx A') (hi : idxOk A idx = true) (h : G x L f E' A' Φ) : G x L f E A Φ:=fun T S hT hS=>h T S (hT.sub hE) (hS.sub hA hi)
end
open Go.RowKit
namespace G
abbrev addI (a b : Int) : Int:=IntKind.i64.wrap (a + b)
abbrev subI (a b : Int) : Int:=IntKind.i64.wrap (a - b)
abbrev mulI (a b : Int) : Int:=IntKind.i64.wrap (a * b)
def idx {α : Type} (l : List α) (i : Int) : Option α:=if 0 ≤ i then l[i.toNat]? else none
def idxS (l : List UInt8) (i : Int) : Option Int:=if 0 ≤ i then (l[i.toNat]?).map (fun c=>(c.toNat : Int)) else none
def subS (l : List UInt8) (lo hi : Int) : Option (List UInt8):=if 0 ≤ lo ∧ lo ≤ hi ∧ hi ≤ l.length then some ((l.take hi.toNat).drop lo.toNat) else none
def catS (a b : List UInt8) : Option (List UInt8):=if a.length + b.length ≤ 9223372036854775807 then some (a ++ b) else none
def app {α : Type} (a b : List α) : Option (List α):=if a.length + b.length ≤ 1000000000 then some (a ++ b) else none
end G
theorem ac8 {α β : Type} {o : Option α} {k : α → Option β} {r : β} (h : o.bind k = some r) : ∃ x,o = some x ∧ k x = some r:=by
 cases o with
 | none=>cases h
 | some x=>exact ⟨x,rfl,h⟩
theorem iteT {α : Type} {c : Prop} [Decidable c] {a b : α} {r : α} (h : (if c then a else b) = r) (hc : c) : a = r:=by rw [if_pos hc] at h; exact h
theorem iteF {α : Type} {c : Prop} [Decidable c] {a b : α} {r : α} (h : (if c then a else b) = r) (hc : ¬ c) : b = r:=by rw [if_neg hc] at h; exact h
def aV8 [Cfg] (P : Program) (g : FuncId) (args : List AV) (Q : AV → Prop) : Prop:=∀ S args',args'.map AV.ag0 = args.map AV.ag0 → ∃ v,ak5 P g args' S = some (.ret v,none) ∧ Q v
theorem cF6 (a : AV) : a.av9.av9 = a.av9:=by cases a <;> rfl
theorem cG5 (a : AV) : a.ag0.ag0 = a.ag0:=by
 cases a with
 | agg cs =>
  show AV.agg _ = AV.agg _
  rw [List.map_map]
  congr 1
  exact List.map_congr_left fun a _=>cF6 a
 | _=>rfl
theorem cI9 (l : List AV) : (l.map AV.ag0).map AV.ag0 = l.map AV.ag0:=by
 rw [List.map_map]
 exact List.map_congr_left fun a _=>cG5 a
def optL (E : Env) : List X → Option (List AV)
 | []=>some []
 | x :: r=>match opd E x,optL E r with
  | some a,some l=>some (a :: l)
  | _,_=>none
theorem b05 {E : Env} {T : BT} (h : Ag E T) : ∀ {xs : List X} {as1 : List AV},optL E xs = some as1 → xs.map (X.at T) = as1
 | [],as1,hx=>by cases hx; rfl
 | x :: r,as1,hx=>by
  unfold optL at hx
  split at hx
  ·rename_i a l h1 h2
   cases hx
   rw [List.map_cons,h.at h1,b05 h h2]
  ·cases hx
abbrev af0 : AF:=(some [],some [])
section
variable {L : Nat} {f : Fr} {E : Env} {A : List It} {d : Nat}
theorem RelC.cJ2 {v : V} {b : AV} (h : RelC v b) : ai4 b = .none:=by
 cases v with
 | sl sz es =>
  unfold RelC at h
  rcases h with ⟨_,p,rfl⟩ | ⟨sp,ys,rfl,hc,_⟩
  ·rfl
  ·cases sp <;> first | rfl | cases hc
 | ref cs=>unfold RelC at h; obtain ⟨ys,zs,rfl,_⟩:=h; rfl
 | ifc t b cs=>unfold RelC at h; obtain ⟨ys,_,⟨_,rfl⟩ | ⟨_,y,rfl,rfl⟩⟩:=h <;> rfl
 | fnv f cs=>unfold RelC at h; obtain ⟨ys,_,rfl | ⟨_,rfl⟩⟩:=h <;> rfl
 | _=>unfold RelC at h; subst h; rfl
theorem cK6 {T : BT} {S : AS} {d : Option Nat} : okF (L + 1) af0 ⟨BF.foot S T d .none,.none⟩:=⟨.inl rfl,.inl rfl⟩
theorem aq5.get {L : Nat} : ∀ {M : List V} {ys : List AV} {i : Nat} {v : V},aq5 L M ys → M[i]? = some v → ∃ c,ys[i]? = some c ∧ RelS L v c
 | [],_,_,_,_,h=>by cases h
 | u :: M,ys,i,v,h,hi=>by
  obtain ⟨a,t,rfl,h1,h2⟩:=h
  cases i with
  | zero=>cases hi; exact ⟨a,rfl,h1⟩
  | succ i=>exact h2.get (i:=i) hi
theorem ab7.get : ∀ {M : List V} {ys : List AV} {i : Nat} {v : V},ab7 M ys → M[i]? = some v → ∃ c,ys[i]? = some c ∧ RelC v c
 | [],_,_,_,_,h=>by cases h
 | u :: M,ys,i,v,h,hi=>by
  unfold ab7 at h
  obtain ⟨a,t,rfl,h1,h2⟩:=h
  cases i with
  | zero=>cases hi; exact ⟨a,rfl,h1⟩
  | succ i=>exact h2.get (i:=i) hi
theorem ab7.length {vs : List V} {ys : List AV} (h : ab7 vs ys) : ys.length = vs.length:=(h.toS (L:=0)).length
theorem am9 {a b : Nat} (h : Nat.ble a b = true) : a ≤ b:=Nat.le_of_ble_eq_true h
theorem b99 {x : X} {k g o : Nat} {T : BT} {S : AS} {d : Option Nat} (hT : Ag E T) (hx : opd E x = some (.ptr ⟨L + 1,k,0⟩ g 0 o)) : okK (L + 1) (some [k]) (BF.foot S T d (.at x)):=by
 refine .inr ⟨[⟨L + 1,k,0⟩],?_,by simp,fun p hp=>?_⟩
 ·show ai4 (x.at T) = _
  rw [hT.at hx]
  rfl
 ·simp only [List.mem_singleton] at hp
  subst hp
  rw [aR7]
  exact List.mem_singleton.2 rfl
theorem aQ1 {T : BT} {S : AS} (hS : StA S L f A) : okK (L + 1) (some [d]) (BF.foot S T (some d) .here):=by
 refine .inr ⟨[⟨L + 1,d,0⟩],?_,by simp,fun p hp=>?_⟩
 ·show FK.slots [S.here d] = _
  rw [aO9,hS.lvl]
 ·simp only [List.mem_singleton] at hp
  subst hp
  rw [aR7]
  exact List.mem_singleton.2 rfl
theorem aZ5 {S : AS} {p : Loc} {g : Nat} {t : TypeId} {cs : List AV} (h : S.get p = some (.obj g t cs)) : S.ao7 p g 0 = some cs:=by simp [AS.ao7,h]
def outP (k : Nat) : List (Nat × Nat × X) → Bool
 | []=>true
 | (off,size,_) :: r=>(Nat.blt k off || Nat.ble (off + size) k) && outP k r
theorem cF3 {cs ys : List AV} {off k : Nat} (hk : (Nat.blt k off || Nat.ble (off + ys.length) k) = true) (hl : off + ys.length ≤ cs.length) : (splice cs off ys)[k]? = cs[k]?:=by
 unfold splice
 simp only [Bool.or_eq_true,Nat.blt_eq,Nat.ble_eq] at hk
 rcases hk with hk | hk
 ·rw [List.append_assoc,List.getElem?_append_left (by rw [List.length_take]; omega),List.getElem?_take_of_lt hk]
 ·rw [List.getElem?_append_right (by rw [List.length_append,List.length_take]; omega),List.length_append,List.length_take,List.getElem?_drop]
  rw [show off + ys.length + (k - (min off cs.length + ys.length)) = k by omega]
inductive cQ0 (E : Env) : List V → List (Nat × Nat × X) → List V → Prop where
 | nil (M : List V) : cQ0 E M [] M
 | cons {M Xs M' : List V} {off size : Nat} {x : X} {a : AV} {r : List (Nat × Nat × X)} (hx : opd E x = some a) (ha : ab7 Xs a.cells) (hn : Xs.length = size) (hle : Nat.ble (off + size) M.length = true) (h : cQ0 E (bC7 M off Xs) r M') : cQ0 E M ((off,size,x) :: r) M'
theorem ab7.append {vs us : List V} : ∀ {as1 cs : List AV},ab7 vs as1 → ab7 us cs → ab7 (vs ++ us) (as1 ++ cs):=by
 induction vs with
 | nil=>intro as1 cs h h'; unfold ab7 at h; subst h; exact h'
 | cons v r ih =>
  intro as1 cs h h'
  unfold ab7 at h
  obtain ⟨a,t,rfl,h1,h2⟩:=h
  show ab7 (v :: (r ++ us)) _
  unfold ab7
  exact ⟨a,t ++ cs,rfl,h1,ih h2 h'⟩
theorem ab7.spl {vs xs : List V} {as1 ys : List AV} (off : Nat) (h : ab7 vs as1) (h' : ab7 xs ys) : ab7 (bC7 vs off xs) (splice as1 off ys):=by
 unfold bC7 splice
 rw [h'.length]
 exact ((h.take off).append h').append (h.drop _)
theorem cQ0.ok {T : BT} (hT : Ag E T) {M M' : List V} {pl : List (Nat × Nat × X)} (h : cQ0 E M pl M') : ∀ {z : List AV},ab7 M z → ∃ cs,aY3 T z pl = some cs ∧ ab7 M' cs ∧ ∀ k,outP k pl = true → cs[k]? = z[k]?:=by
 induction h with
 | nil M=>exact fun {z} hz=>⟨z,rfl,hz,fun _ _=>rfl⟩
 | @cons M Xs M' off size x a r hx ha hn hle h ih =>
  intro z hz
  obtain ⟨cs,k1,k2,k3⟩:=ih (hz.spl off ha)
  have hl : a.cells.length = size:=by rw [ha.length,hn]
  refine ⟨cs,?_,k2,fun k hk=>?_⟩
  case refine_2 =>
   simp only [outP,Bool.and_eq_true] at hk
   rw [k3 k hk.2]
   exact cF3 (by rw [hl]; exact hk.1) (by rw [hl,hz.length]; exact am9 hle)
  rw [bt2 z off size x r (by rw [hT.at hx]; exact hl) (by rw [hz.length]; exact am9 hle),hT.at hx]
  exact k1
inductive BslR (E : Env) (n : Nat) : List X → List (List V) → Prop where
 | nil : BslR E n [] []
 | cons {x : X} {a : AV} {Xs : List V} {r : List X} {es : List (List V)} (hx : opd E x = some a) (ha : ab7 Xs a.cells) (hn : Xs.length = n) (h : BslR E n r es) : BslR E n (x :: r) (Xs :: es)
theorem ab7.ones {vs : List V} {ys : List AV} (h : ab7 vs ys) : ys.all AV.one = true:=(h.toS (L:=0)).ones
theorem BslR.ok {n : Nat} {T : BT} (hT : Ag E T) {xs : List X} {es : List (List V)} (h : BslR E n xs es) : xs.all (fun x=>(x.at T).cells.length == n) = true ∧ xs.all (fun x=>(x.at T).cells.all AV.one) = true ∧ ae5 es (xs.map fun x=>(x.at T).cells):=by
 induction h with
 | nil=>exact ⟨rfl,rfl,by unfold ae5; rfl⟩
 | @cons x a Xs r es hx ha hn h ih =>
  obtain ⟨k1,k2,k3⟩:=ih
  have e : x.at T = a:=hT.at hx
  refine ⟨?_,?_,?_⟩
  ·rw [List.all_cons,e,k1,ha.length,hn]
   simp
  ·rw [List.all_cons,e,k2,ha.ones]
   rfl
  ·rw [List.map_cons,e]
   unfold ae5
   exact ⟨_,_,rfl,ha,k3⟩
def insK (d : Nat) (ks : List Nat) : List Nat:=match ks.contains d with
 | true=>ks
 | false=>d :: ks
theorem cd0 (d : Nat) (ks : List Nat) : d ∈ insK d ks ∧ ∀ k ∈ ks,k ∈ insK d ks:=by
 unfold insK
 cases h : ks.contains d with
 | true=>exact ⟨List.contains_iff_mem.1 h,fun k hk=>hk⟩
 | false=>exact ⟨List.mem_cons_self ..,fun k hk=>List.mem_cons_of_mem _ hk⟩
def cz7 (ks : List Nat) : Nat → List It → Bool
 | _,[]=>true
 | 0,_ :: r=>r.all fun it=>ks.all fun k=>it.free k
 | i + 1,a :: r=>(ks.all fun k=>a.free k) && cz7 ks i r
theorem c89 {S : AS} {L k : Nat} {s : ae1} {ks : List Nat} {it : It} (hk : k ∈ ks) (hit : it.ok (S.set ⟨L,k,0⟩ s) L) : ∀ {A : List It} {i : Nat},(∀ it ∈ A,it.ok S L) → cz7 ks i A = true → ∀ jt ∈ A.set i it,jt.ok (S.set ⟨L,k,0⟩ s) L
 | [],_,_,_=>by intro jt hj; simp at hj
 | a :: r,0,hA,hf=>by
  intro jt hj
  simp only [List.set_cons_zero,List.mem_cons] at hj
  rcases hj with rfl | hj
  ·exact hit
  ·exact It.bs2 (hA jt (List.mem_cons_of_mem _ hj)) (List.all_eq_true.1 (List.all_eq_true.1 hf jt hj) k hk)
 | a :: r,i + 1,hA,hf=>by
  intro jt hj
  simp only [cz7,Bool.and_eq_true] at hf
  simp only [List.set_cons_succ,List.mem_cons] at hj
  rcases hj with rfl | hj
  ·exact It.bs2 (hA _ (List.mem_cons_self ..)) (List.all_eq_true.1 hf.1 k hk)
  ·exact c89 (A:=r) hk hit (fun it hi=>hA it (List.mem_cons_of_mem _ hi)) hf.2 jt hj
theorem cY9 {S : AS} {L : Nat} {it : It} (hit : it.ok S L) : ∀ {A : List It} {i : Nat},(∀ it ∈ A,it.ok S L) → ∀ jt ∈ A.set i it,jt.ok S L:=by
 intro A i hA jt hj
 rcases List.mem_or_eq_of_mem_set hj with h | rfl
 ·exact hA jt h
 ·exact hit
theorem bE3 : ∀ {es : List (List V)} {ys : List (List AV)},ae5 es ys → ys.all (fun e=>e.all AV.one) = true
 | [],ys,h=>by unfold ae5 at h; subst h; rfl
 | e :: r,ys,h=>by
  unfold ae5 at h
  obtain ⟨a,t,rfl,h1,h2⟩:=h
  rw [List.all_cons,h1.ones,bE3 h2]
  rfl
end
section
variable [Cfg] {P : Program} {L : Nat} {f : Fr} {E : Env} {A : List It} {Φ : az3} {m : Option (List (Nat × Nat))} {acc : AAcc} {r : List BI} {d : Nat}
def Stp (P : Program) (L : Nat) (f : Fr) (E : Env) (A : List It) (d : Nat) (bf : BF) (o : BO) (af : AF) (Q : AV → Prop) : Prop :=
 ∀ T S,Ag E T → StA S L f A → ∃ v ft,Q v ∧ okF (L + 1) af ft ∧ ∀ c r,ae2 P (ak5 P) c (⟨some d,none,bf,o⟩ :: r) T S = ae2 P (ak5 P) (c.push ft) r (T.put (some d) v) S
theorem aP2 {o : BO} {bf : BF} {af : AF} {Q : AV → Prop} (hop : ∀ T S,Ag E T → StA S L f A → ∃ v,bop P S T (some d) o = some (.val v) ∧ Q v)
  (hf : ∀ T S,Ag E T → StA S L f A → okF (L + 1) af ⟨bf.foot S T (some d),.none⟩) : Stp P L f E A d bf o af Q:=by
 intro T S hT hS
 obtain ⟨v,h1,h2⟩:=hop T S hT hS
 exact ⟨v,_,h2,hf T S hT hS,fun c r=>by rw [aj7,h1,ca4]⟩
theorem af5 {o : BO} {bf : BF} {af : AF} {Q : AV → Prop} (hs : Stp P L f E A d bf o af Q) (h : ∀ v,Q v → GO1 P m (accP acc af) r L f ((d,v) :: E) A Φ) : GO1 P m acc (⟨some d,none,bf,o⟩ :: r) L f E A Φ:=by
 intro c T S hc hT hS
 obtain ⟨v,ft,h1,h2,h3⟩:=hs T S hT hS
 obtain ⟨x,T',S',k1,k2⟩:=h v h1 _ (T.put (some d) v) S (hc.push h2) (hT.put d v) hS
 exact ⟨x,T',S',by rw [h3]; exact k1,k2⟩
theorem o6 {o : BO} {bf : BF} {af : AF} {v : AV} (hs : Stp P L f E A d bf o af (fun u=>u = v)) (h : GO1 P m (accP acc af) r L f ((d,v) :: E) A Φ) : GO1 P m acc (⟨some d,none,bf,o⟩ :: r) L f E A Φ :=
 af5 hs fun u hu=>by subst hu; exact h
theorem aN5 {o : BO} {bf : BF} {af : AF} {Q : AV → Prop} {t : Nat} {w gb : Bool} {u : AV} (ht : look E t = some u) (hw : cO2 w u = gb) (hs : gb = true → Stp P L f E A d bf o af Q)
  (h : ∀ v,(gb = true → Q v) → (gb = false → v = .lit undef) → GO1 P m (accP acc af) r L f ((d,v) :: E) A Φ) : GO1 P m acc (⟨some d,some (t,w),bf,o⟩ :: r) L f E A Φ:=by
 intro c T S hc hT hS
 have e : aW4 T (some (t,w)) = gb:=by rw [aU0,hT t u ht,hw]
 cases hg : gb with
 | true =>
  obtain ⟨v,ft,h1,h2,h3⟩:=hs hg T S hT hS
  obtain ⟨x,T',S',k1,k2⟩:=h v (fun _=>h1) (fun e=>by rw [hg] at e; cases e) _ (T.put (some d) v) S (hc.push h2) (hT.put d v) hS
  refine ⟨x,T',S',?_,k2⟩
  rw [b41,e,hg,cA9]
  simp only
  rw [h3]
  exact k1
 | false =>
  obtain ⟨x,T',S',k1,k2⟩:=h (.lit undef) (fun e=>by rw [hg] at e; cases e) (fun _=>rfl) _ (T.put (some d) (.lit undef)) S (hc.push (f:=⟨.none,.none⟩) ⟨(by cases af.1 <;> first | trivial | exact .inl rfl),(by cases af.2 <;> first | trivial | exact .inl rfl)⟩) (hT.put d _) hS
  refine ⟨x,T',S',?_,k2⟩
  rw [b41,e,hg,cj1]
  exact k1
theorem bu8 {o : BO} {v : AV} (hop : ∀ T S,Ag E T → bop P S T (some d) o = some (.val v)) : Stp P L f E A d .none o af0 (fun u=>u = v) :=
 aP2 (fun T S hT _=>⟨v,hop T S hT,rfl⟩) (fun _ _ _ _=>cK6)
theorem bN0 {o : BO} {Q : AV → Prop} (hop : ∀ T S,Ag E T → ∃ v,bop P S T (some d) o = some (.val v) ∧ Q v) : Stp P L f E A d .none o af0 Q :=
 aP2 (fun T S hT _=>hop T S hT) (fun _ _ _ _=>cK6)
theorem cG1 {c a : X} {t b : Bool} {u : AV} (hc : opd E c = some (.lit (.bool t))) (ha : opd E a = some u) (hu : t = true → u = .lit (.bool b)) : Stp P L f E A d .none (.pk c a (.c (.lit (.bool false)))) af0 (fun v=>v = .lit (.bool (t && b))) :=
 bu8 fun T S hT=>by
  simp only [bop,hT.at hc]
  cases t
  ·rfl
  ·simp only [if_true,hT.at ha,hu rfl,Bool.true_and]
theorem s_or {c a : X} {t b : Bool} {u : AV} (hc : opd E c = some (.lit (.bool t))) (ha : opd E a = some u) (hu : (!t) = true → u = .lit (.bool b)) : Stp P L f E A d .none (.pk c (.c (.lit (.bool true))) a) af0 (fun v=>v = .lit (.bool (t || b))) :=
 bu8 fun T S hT=>by
  simp only [bop,hT.at hc]
  cases t
  ·simp only [Bool.false_eq_true,if_false,hT.at ha,hu rfl,Bool.false_or]
  ·rfl
theorem s_mv {x : X} {v : AV} (hx : opd E x = some v) : Stp P L f E A d .none (.mv x) af0 (fun u=>u = v) :=
 bu8 (fun T S hT=>by show some (AR.val (x.at T)) = _; rw [hT.at hx])
theorem s_ib {op : BinOp} {x y : X} {a b v : AV} (hx : opd E x = some a) (hy : opd E y = some b) (hv : ibV op a b = some v) : Stp P L f E A d .none (.ib op x y) af0 (fun u=>u = v) :=
 bu8 (fun T S hT=>by simp only [bop,hT.at hx,hT.at hy,hv,Option.map_some])
theorem s_nt {x : X} {b : Bool} (hx : opd E x = some (.lit (.bool b))) : Stp P L f E A d .none (.nt x) af0 (fun u=>u = .lit (.bool !b)) :=
 bu8 (fun T S hT=>by simp only [bop,hT.at hx,ntV,Option.map_some])
theorem s_bb {ne : Bool} {x y : X} {a b : Bool} (hx : opd E x = some (.lit (.bool a))) (hy : opd E y = some (.lit (.bool b))) : Stp P L f E A d .none (.bb ne x y) af0 (fun u=>u = .lit (.bool (decide (a = b) != ne))) :=
 bu8 (fun T S hT=>by simp only [bop,hT.at hx,hT.at hy,bbV,Option.map_some])
theorem cS8 {k k' : IntKind} {x : X} {n : Int} (hx : opd E x = some (.lit (.int k' n))) : Stp P L f E A d (.at x) (.cvi k x) af0 (fun u=>u = .lit (.int k (k.wrap n))) :=
 aP2 (fun T S hT _=>⟨_,by simp only [bop,hT.at hx,cviV,Option.map_some],rfl⟩) (fun T S hT _=>⟨.inl (by show ai4 (x.at T) = _; rw [hT.at hx]; rfl),.inl rfl⟩)
theorem s_seq1 {x y : X} {a b : List UInt8} (hx : opd E x = some (.lit (.string (bs a)))) (hy : opd E y = some (.lit (.string (bs b)))) : Stp P L f E A d .none (.sb .eql x y) af0 (fun u=>u = .lit (.bool (decide (a = b)))) :=
 bu8 (fun T S hT=>by simp only [bop,hT.at hx,hT.at hy,sbV,strB,ay4,Option.map_some])
theorem s_sne {x y : X} {a b : List UInt8} (hx : opd E x = some (.lit (.string (bs a)))) (hy : opd E y = some (.lit (.string (bs b)))) : Stp P L f E A d .none (.sb .neq x y) af0 (fun u=>u = .lit (.bool (decide (a ≠ b)))) :=
 bu8 (fun T S hT=>by simp only [bop,hT.at hx,hT.at hy,sbV,strB,ay4,Option.map_some])
theorem b52 {x y : X} {a b c : List UInt8} (hx : opd E x = some (.lit (.string (bs a)))) (hy : opd E y = some (.lit (.string (bs b)))) (hc : G.catS a b = some c) : Stp P L f E A d .none (.sb .add x y) af0 (fun u=>u = .lit (.string (bs c))) :=
 bu8 (fun T S hT=>by
  unfold G.catS at hc
  split at hc
  ·rename_i hl
   cases hc
   simp only [bop,hT.at hx,hT.at hy,sbV,strB,ay4]
   rw [if_pos hl]
   rfl
  ·cases hc)
theorem s_ls {x : X} {a : List UInt8} (hx : opd E x = some (.lit (.string (bs a)))) : Stp P L f E A d (.at x) (.ls x) af0 (fun u=>u = .lit (.int .i64 a.length)) :=
 aP2 (fun T S hT _=>⟨_,by simp only [bop,hT.at hx,lsV,ay4,Option.map_some],rfl⟩) (fun T S hT _=>⟨.inl (by show ai4 (x.at T) = _; rw [hT.at hx]; rfl),.inl rfl⟩)
theorem s_xs {x i : X} {a : List UInt8} {k : IntKind} {j c : Int} (hx : opd E x = some (.lit (.string (bs a)))) (hi : opd E i = some (.lit (.int k j))) (hc : G.idxS a j = some c) : Stp P L f E A d .none (.xs x i) af0 (fun u=>u = .lit (.int .u8 c)) :=
 bu8 (fun T S hT=>by
  unfold G.idxS at hc
  split at hc
  ·rename_i h0
   obtain ⟨b,hb,rfl⟩:=Option.map_eq_some_iff.1 hc
   have hlt:=(List.getElem?_eq_some_iff.1 hb).1
   simp only [bop,hT.at hx,hT.at hi,xsV,ay4]
   rw [if_pos ⟨h0,by omega⟩]
   simp [List.getD_eq_getElem?_getD,hb]
  ·cases hc)
theorem s_sls {x lo hi : X} {a c : List UInt8} {k k' : IntKind} {i j : Int} (hx : opd E x = some (.lit (.string (bs a)))) (h1 : opd E lo = some (.lit (.int k i))) (h2 : opd E hi = some (.lit (.int k' j))) (hc : G.subS a i j = some c) : Stp P L f E A d .none (.sls x (some lo) (some hi)) af0 (fun u=>u = .lit (.string (bs c))) :=
 bu8 (fun T S hT=>by
  unfold G.subS at hc
  split at hc
  ·rename_i h0
   cases hc
   simp only [bop,hT.at hx,hT.at h1,hT.at h2,Option.map_some]
   rw [cx9 _ _ _ _ _ h0.1 h0.2.1 (by rw [ay4]; exact h0.2.2),ay4]
   rfl
  ·cases hc)
theorem s_slsL {x lo : X} {a c : List UInt8} {k : IntKind} {i : Int} (hx : opd E x = some (.lit (.string (bs a)))) (hi : opd E lo = some (.lit (.int k i))) (hc : G.subS a i a.length = some c) : Stp P L f E A d .none (.sls x (some lo) none) af0 (fun u=>u = .lit (.string (bs c))) :=
 bu8 (fun T S hT=>by
  unfold G.subS at hc
  split at hc
  ·rename_i h0
   cases hc
   simp only [bop,hT.at hx,hT.at hi,Option.map_some,Option.map_none]
   rw [cW7 _ _ _ h0.1 (by rw [ay4]; exact h0.2.1),ay4,Int.toNat_natCast,List.take_length]
   rfl
  ·cases hc)
theorem s_ex {x : X} {i : Nat} {l : List AV} {a : AV} (hx : opd E x = some (.tup l)) (hi : l[i]? = some a) : Stp P L f E A d .none (.ex x i) af0 (fun u=>u = a) :=
 bu8 (fun T S hT=>by simp only [bop,hT.at hx,exV,hi,Option.map_some])
theorem s_fa {x : X} {p : Loc} {g n o off o' : Nat} (hx : opd E x = some (.ptr p g n o)) (ho : o + off = o') : Stp P L f E A d .none (.fa off x) af0 (fun u=>u = .ptr p g n o') :=
 bu8 (fun T S hT=>by subst ho; simp only [bop,hT.at hx,offV,Option.map_some])
theorem b66 {x : X} {ys : List AV} {M : List V} {off : Nat} (hx : opd E x = some (.cref ys)) (hM : RelP M ys) : Stp P L f E A d .none (.fa off x) af0 (fun u=>∃ zs,u = .cref zs ∧ RelP (M.drop off) zs) :=
 bN0 (fun T S hT=>⟨_,by simp only [bop,hT.at hx,offV,Option.map_some],_,rfl,hM.drop off⟩)
theorem s_ia {α : Type} {x i : X} {a : AV} {xs : List α} {c : α → List V} {n : Nat} {k : IntKind} {j : Int} {e : α} (hx : opd E x = some a) (ha : RelS (L + 1) (.sl n (xs.map c)) a) (hi : opd E i = some (.lit (.int k j))) (he : G.idx xs j = some e)
  : Stp P L f E A d .none (.ia n x i) af0 (fun u=>∃ zs,u = .cref zs ∧ RelP (c e) zs):=by
 unfold G.idx at he
 split at he
 ·rename_i h0
  rcases ha with ⟨hn,_⟩ | ⟨sp,ys,rfl,_,hr⟩
  ·have : xs = []:=by simpa using hn
   subst this
   simp at he
  ·obtain ⟨zs,h1,h2⟩:=hr.get (i:=j.toNat) (v:=c e) (by rw [List.getElem?_map,he]; rfl)
   exact bN0 (fun T S hT=>⟨_,by
    simp only [bop,hT.at hx,hT.at hi,iaV]
    rw [if_pos ⟨h0,trivial⟩,h1]
    rfl,zs,rfl,h2.toP⟩)
 ·cases he
theorem s_ll {α : Type} {x : X} {a : AV} {xs : List α} {c : α → List V} {n : Nat} (hx : opd E x = some a) (ha : RelS (L + 1) (.sl n (xs.map c)) a) : Stp P L f E A d (.at x) (.ll x) (none,some []) (fun u=>u = .lit (.int .i64 xs.length)) :=
 aP2 (fun T S hT _=>⟨_,by
  simp only [bop,hT.at hx,ha.len,Option.map_some,List.length_map],rfl⟩) (fun _ _ _ _=>⟨trivial,.inl rfl⟩)
theorem ba7 {α : Type} {x : X} {a : AV} {xs : List α} {c : α → List V} {n : Nat} (hx : opd E x = some a) (ha : RelC (.sl n (xs.map c)) a) : Stp P L f E A d (.at x) (.ll x) af0 (fun u=>u = .lit (.int .i64 xs.length)):=by
 refine aP2 (fun T S hT _=>⟨_,by
  simp only [bop,hT.at hx,(ha.toS (L:=0)).len,Option.map_some,List.length_map],rfl⟩) (fun T S hT _=>⟨.inl ?_,.inl rfl⟩)
 show ai4 (x.at T) = _
 rw [hT.at hx]
 exact ha.cJ2
theorem cR5 {x : X} {k g off : Nat} {t : TypeId} {cs : List AV} {M : List V} {v : V} (hx : opd E x = some (.ptr ⟨L + 1,k,0⟩ g 0 off)) (ho : lookO A k = some (g,t,cs)) (hM : aq5 (L + 1) M cs) (hv : M[off]? = some v)
  : Stp P L f E A d (.at x) (.ld1 x) (some [k],some []) (fun c=>RelS (L + 1) v c ∧ cs[off]? = some c):=by
 obtain ⟨c,h1,h2⟩:=hM.get hv
 refine aP2 (fun T S hT hS=>⟨c,?_,h2,h1⟩) (fun T S hT _=>⟨b99 (S:=S) (d:=some d) hT hx,.inl rfl⟩)
 simp only [bop,hT.at hx,ld1V,aQ6,aZ5 (aE0 hS.its ho),Option.map_some]
 rw [List.head?_drop,h1]
 rfl
theorem s_ldno {x : X} {k g off n : Nat} {t : TypeId} {cs : List AV} {M N : List V} (hx : opd E x = some (.ptr ⟨L + 1,k,0⟩ g 0 off)) (ho : lookO A k = some (g,t,cs)) (hM : aq5 (L + 1) M cs) (hn : Nat.ble (off + n) M.length = true) (hN : (M.drop off).take n = N)
  : Stp P L f E A d (.at x) (.ldn n x) (some [k],some []) (fun u=>∃ zs,u = .agg zs ∧ aq5 (L + 1) N zs ∧ zs = (cs.drop off).take n):=by
 subst hN
 refine aP2 (fun T S hT hS=>⟨.agg ((cs.drop off).take n),?_,_,rfl,(hM.drop off).take n,rfl⟩) (fun T S hT _=>⟨b99 (S:=S) (d:=some d) hT hx,.inl rfl⟩)
 simp only [bop,hT.at hx,ldnV,aQ6,aZ5 (aE0 hS.its ho),Option.map_some]
 have:=am9 hn
 rw [if_pos (by rw [List.length_drop,hM.length]; omega)]
 rfl
theorem cI7 {x : X} {ys : List AV} {M : List V} {v : V} (hx : opd E x = some (.cref ys)) (hM : RelP M ys) (hv : M[0]? = some v) : Stp P L f E A d (.at x) (.ld1 x) af0 (fun c=>RelC v c):=by
 obtain ⟨c,h1,h2⟩:=hM.get hv
 refine aP2 (fun T S hT hS=>⟨c,?_,h2⟩) (fun T S hT _=>⟨.inl ?_,.inl rfl⟩)
 ·simp only [bop,hT.at hx,ld1V,aQ6]
  rw [List.head?_eq_getElem?,h1]
  rfl
 ·show ai4 (x.at T) = _
  rw [hT.at hx]
  rfl
theorem b90 {x : X} {ys : List AV} {M N : List V} {n : Nat} (hx : opd E x = some (.cref ys)) (hM : RelP M ys) (hn : Nat.ble n M.length = true) (hN : M.take n = N) : Stp P L f E A d (.at x) (.ldn n x) af0 (fun u=>∃ zs,u = .agg zs ∧ ab7 N zs):=by
 subst hN
 obtain ⟨hM1,hM2⟩:=hM.take (am9 hn)
 refine aP2 (fun T S hT hS=>⟨.agg (ys.take n),?_,_,rfl,hM1⟩) (fun T S hT _=>⟨.inl ?_,.inl rfl⟩)
 ·simp only [bop,hT.at hx,ldnV,aQ6]
  rw [if_pos hM2]
  rfl
 ·show ai4 (x.at T) = _
  rw [hT.at hx]
  rfl
theorem g_chg {o : BO} {bf : BF} {dd : Option Nat} {k : Nat} {s : ae1} {v : AV} {E' : Env} {A' : List It} {T : BT} {S : AS} {c : Acc} (hop : bop P S T dd o = some (.chg v ⟨L + 1,k,0⟩ s)) (hw : o.w = true) (hc : AccR (L + 1) acc c) (hr : okK (L + 1) (some [k]) (bf.foot S T dd)) (hT : Ag E' (T.put dd v)) (hS : StA (S.set ⟨L + 1,k,0⟩ s) L f A')
  (h : GO1 P m (accP acc (some [k],some [k])) r L f E' A' Φ) : ∃ x T' S',finO m (ae2 P (ak5 P) c (⟨dd,none,bf,o⟩ :: r) T S) = some (x,T',S') ∧ Φ x T' S':=by
 obtain ⟨x,T',S',k1,k2⟩:=h _ (T.put dd v) (S.set ⟨L + 1,k,0⟩ s) (hc.push (f:=⟨bf.foot S T dd,.slot ⟨L + 1,k,0⟩⟩) ⟨hr,.inr ⟨[⟨L + 1,k,0⟩],rfl,by simp,fun p hp=>by
  simp only [List.mem_singleton] at hp
  subst hp
  rw [aR7]
  exact List.mem_singleton.2 rfl⟩⟩) hT hS
 exact ⟨x,T',S',by rw [aj7,hop,hw,bT2]; exact k1,k2⟩
theorem g_al {e : TypeId} {cs : List AV} (hf : bi0 d A = true) (h : ∀ g,GO1 P m (accP acc (some [d],some [d])) r L f ((d,.ptr ⟨L + 1,d,0⟩ g 0 0) :: E) (setO d g e cs A) Φ) : GO1 P m acc (⟨some d,none,.here,.al e cs⟩ :: r) L f E A Φ:=by
 intro c T S hc hT hS
 have e1 : S.here d = ⟨L + 1,d,0⟩:=by rw [aO9,hS.lvl]
 exact g_chg (v:=.ptr ⟨L + 1,d,0⟩ (S.fresh ⟨L + 1,d,0⟩) 0 0) (s:=.obj (S.fresh ⟨L + 1,d,0⟩) e cs) (by simp only [bop,e1]) rfl hc (aQ1 hS) (hT.put d _) (hS.set d _ (a08 hS.its hf)) (h _)
theorem g_bx {e : TypeId} {x : X} {a : AV} {cs : List AV} (hx : opd E x = some a) (hcs : a.cells = cs) (hf : bi0 d A = true) (h : ∀ g,GO1 P m (accP acc (some [d],some [d])) r L f ((d,.ptr ⟨L + 1,d,0⟩ g 0 0) :: E) (setO d g e cs A) Φ) : GO1 P m acc (⟨some d,none,.here,.bx e x⟩ :: r) L f E A Φ:=by
 subst hcs
 intro c T S hc hT hS
 have e1 : S.here d = ⟨L + 1,d,0⟩:=by rw [aO9,hS.lvl]
 exact g_chg (v:=.ptr ⟨L + 1,d,0⟩ (S.fresh ⟨L + 1,d,0⟩) 0 0) (s:=.obj (S.fresh ⟨L + 1,d,0⟩) e a.cells) (by simp only [bop,e1,hT.at hx]) rfl hc (aQ1 hS) (hT.put d _) (hS.set d _ (a08 hS.its hf)) (h _)
theorem g_st {x v : X} {k g off n : Nat} {t : TypeId} {cs : List AV} {a : AV} {M M' Xs : List V} (hx : opd E x = some (.ptr ⟨L + 1,k,0⟩ g 0 off)) (ho : lookO A k = some (g,t,cs)) (hf : bi0 k A = true) (hv : opd E v = some a) (hM : aq5 (L + 1) M cs) (ha : aq5 (L + 1) Xs a.cells)
  (hn : Xs.length = n) (hle : Nat.ble (off + n) M.length = true) (hM' : bC7 M off Xs = M') (h : ∀ cs',aq5 (L + 1) M' cs' → cs' = splice cs off a.cells → GO1 P m (accP acc (some [k],some [k])) r L f E (setO k g t cs' A) Φ) : GO1 P m acc (⟨none,none,.at x,.st n x v⟩ :: r) L f E A Φ:=by
 subst hM'
 intro c T S hc hT hS
 have hg:=aE0 hS.its ho
 have hl : a.cells.length = n:=by rw [ha.length,hn]
 have hle':=am9 hle
 refine g_chg (dd:=none) (v:=.lit undef) (s:=.obj g t (splice cs off a.cells)) (k:=k) ?_ rfl hc (b99 (S:=S) (d:=none) hT hx) hT (hS.set k _ (a08 hS.its hf)) (h _ (hM.spl off ha) rfl)
 simp only [bop,hT.at hx,hT.at hv]
 rw [bh8 hg hl (by rw [hl,hM.length]; exact hle') ha.ones]
 rfl
theorem s_clC {g : FuncId} {xs : List X} {args : List AV} {Q : AV → Prop} (hup : ∀ h,Cfg.up g h = false) (hx : optL E xs = some args) (hcl : AV.af2 (args.map AV.ag0) = true) (hc : aV8 P g args Q) : Stp P L f E A d .none (.cl g xs) af0 Q:=by
 intro T S hT hS
 have hb : bop P S T (some d) (.cl g xs) = some (.call g args):=by simp only [bop]; rw [b05 hT hx]
 obtain ⟨v,h1,h2⟩:=hc .bare _ (cI9 args)
 exact ⟨v,⟨BF.foot S T (some d) .none,.none⟩,h2,⟨.inl rfl,.inl rfl⟩,fun c r=>by rw [aj7,hb,show (BO.cl g xs).w = true from rfl,ce2,hup,hcl,Bool.not_false,Bool.true_and,bi2,h1,cE8]⟩
theorem s_bdC {z : List AV} {pl : List (Nat × Nat × X)} {Z M M' : List V} (hz : ab7 Z z) (hp : cQ0 E Z pl M) (hM : M = M') : Stp P L f E A d .none (.bd z pl) af0 (fun u=>∃ cs,u = .agg cs ∧ ab7 M' cs ∧ ∀ k,outP k pl = true → cs[k]? = z[k]?):=by
 subst hM
 refine bN0 (fun T S hT=>?_)
 obtain ⟨cs,k1,k2,k3⟩:=hp.ok hT hz
 exact ⟨.agg cs,by simp only [bop,k1,Option.map_some],cs,rfl,k2,k3⟩
theorem cl0 {e : TypeId} {n : Nat} {xs : List X} {es es' : List (List V)} (hl : Cfg.live f.fn d = false) (hx : BslR E n xs es) (he : es = es') : Stp P L f E A d .here (.bsl e n xs) (some [d],some []) (fun a=>RelC (.sl n es') a ∧ ∃ ys,a = .list .full n ys):=by
 subst he
 refine aP2 (fun T S hT hS=>?_) (fun T S hT hS=>⟨aQ1 (T:=T) hS,.inl rfl⟩)
 obtain ⟨k1,k2,k3⟩:=hx.ok hT
 refine ⟨_,?_,RelC.list rfl k3,_,rfl⟩
 simp only [bop]
 rw [if_pos ⟨k1,k2⟩,hS.fn,hl]
 rfl
theorem g_ap1 (af1 : Ks) {s x : X} {a b : AV} {i n bytes : Nat} {e : TypeId} {ks : List Nat} {α : Type} {c : α → List V} {xs ns zs : List α} (hl : Cfg.live f.fn d = false) (hs : opd E s = some a) (hx : opd E x = some b) (hA : A[i]? = some (.tok ks n e a)) (ha : RelS (L + 1) (.sl n (xs.map c)) a) (hb : RelS (L + 1) (.sl n (ns.map c)) b) (hby : Nat.ble bytes 100000 = true)
  (hrd : ∀ T S,Ag E T → StA S L f A → okK (L + 1) af1 (BF.foot S T (some d) (.app s x))) (hf : cz7 (insK d ks) i A = true) (hz : G.app xs ns = some zs) (h : ∀ a',RelS (L + 1) (.sl n (zs.map c)) a' → GO1 P m (accP acc (af1,some (insK d ks))) r L f ((d,a') :: E) (A.set i (.tok (insK d ks) n e a')) Φ) : GO1 P m acc (⟨some d,none,.app s x,.ap e n bytes s x⟩ :: r) L f E A Φ:=by
 unfold G.app at hz
 split at hz
 case isFalse=>cases hz
 rename_i hlen
 cases hz
 intro cc T S hc hT hS
 obtain ⟨hk1,hk2⟩:=cd0 d ks
 obtain ⟨news,k1,k2⟩:=hb.elems S
 have hnl : news.length = ns.length:=by rw [k2.length,List.length_map]
 have hone:=bE3 k2
 have hby':=am9 hby
 have e1 : S.here d = ⟨L + 1,d,0⟩:=by rw [aO9,hS.lvl]
 have hop : bop P S T (some d) (.ap e n bytes s x) = appB S d e n bytes a news:=by simp only [bop,hT.at hx,hT.at hs,k1]
 have hlive : Cfg.live S.fn d = false:=by rw [hS.fn]; exact hl
 have hApp : App S (L + 1) ks n e a:=hS.its _ (List.mem_of_getElem? hA)
 -- the ways it goes
 have stay : appB S d e n bytes a news = some (.val a) → ns = [] → ∃ x1 T' S',finO m (ae2 P (ak5 P) cc (⟨some d,none,.app s x,.ap e n bytes s x⟩ :: r) T S) = some (x1,T',S') ∧ Φ x1 T' S':=by
  intro hv hns
  subst hns
  have hA' : ∀ jt ∈ A.set i (.tok (insK d ks) n e a),jt.ok S (L + 1):=cY9 (it:=.tok (insK d ks) n e a) (by
   rcases hApp with h | h | ⟨p,g,es,h1,h2,h3,h4,h5⟩
   ·exact .inl h
   ·exact .inr (.inl h)
   ·exact .inr (.inr ⟨p,g,es,h1,h2,h3,h4,hk2 _ h5⟩)) hS.its
  obtain ⟨x1,T',S',q1,q2⟩:=h a (by simpa using ha) _ (T.put (some d) a) S (hc.push (f:=⟨BF.foot S T (some d) (.app s x),.none⟩) ⟨hrd T S hT hS,.inl rfl⟩) (hT.put d a) ⟨hS.lvl,hS.fn,hS.dfr,hS.out,hA',hS.reg.news (cE2 rfl hA rfl)⟩
  exact ⟨x1,T',S',by rw [aj7,hop,hv,ca4]; exact q1,q2⟩
 have laid : ∀ (p : Loc) (g : Nat) (es : List (List AV)),p.l = L + 1 → p.i = 0 → p.k ∈ insK d ks → ae5 ((xs ++ ns).map c) es → appB S d e n bytes a news = some (.chg (.list (.own p g) n es) p (.tok g es.length n e)) → ∃ x1 T' S',finO m (ae2 P (ak5 P) cc (⟨some d,none,.app s x,.ap e n bytes s x⟩ :: r) T S) = some (x1,T',S') ∧ Φ x1 T' S':=by
  intro p g es hp1 hp2 hp3 hr hv
  obtain ⟨pl,pk,pi⟩:=p
  simp only at hp1 hp2 hp3
  subst hp1 hp2
  have hA' : ∀ jt ∈ A.set i (.tok (insK d ks) n e (.list (.own ⟨L + 1,pk,0⟩ g) n es)),jt.ok (S.set ⟨L + 1,pk,0⟩ (.tok g es.length n e)) (L + 1) :=
   c89 (it:=.tok (insK d ks) n e (.list (.own ⟨L + 1,pk,0⟩ g) n es)) hp3 (show App _ _ _ _ _ _ from .inr (.inr ⟨_,g,es,rfl,AS.get_set_same ..,rfl,rfl,hp3⟩)) hS.its hf
  obtain ⟨x1,T',S',q1,q2⟩:=h (.list (.own ⟨L + 1,pk,0⟩ g) n es) (RelS.list (.inr ⟨_,g,rfl,rfl⟩) hr) _ (T.put (some d) _) (S.set ⟨L + 1,pk,0⟩ (.tok g es.length n e)) (hc.push (f:=⟨BF.foot S T (some d) (.app s x),.slot ⟨L + 1,pk,0⟩⟩) ⟨hrd T S hT hS,.inr ⟨[⟨L + 1,pk,0⟩],rfl,by simp,fun q hq=>by
   simp only [List.mem_singleton] at hq
   subst hq
   rw [aR7]; exact hp3⟩⟩) (hT.put d _) (hS.set pk _ hA' (cE2 rfl hA rfl))
  exact ⟨x1,T',S',by rw [aj7,hop,hv,show (BO.ap e n bytes s x).w = true from rfl,bT2]; exact q1,q2⟩
 by_cases h0 : ns = []
 ·subst h0
  have hn0 : news = []:=List.length_eq_zero_iff.1 (by rw [hnl]; rfl)
  subst hn0
  refine stay ?_ rfl
  rcases hApp with ⟨p,rfl⟩ | ⟨es,rfl⟩ | ⟨p,g,es,rfl,_⟩
  ·rfl
  ·exact aN9 d e n bytes _ _ _
  ·exact aN9 d e n bytes _ _ _
 ·have hpos : 0 < news.length:=by rw [hnl]; exact List.length_pos_iff.2 h0
  rcases hApp with ⟨p,rfl⟩ | ⟨es,rfl⟩ | ⟨p,g,es,rfl,h2,h3,h4,h5⟩
  ·have hxs : xs = []:=by
    rcases ha with ⟨hn,_⟩ | ⟨sp,ys,hh,_⟩
    ·simpa using hn
    ·cases hh
   subst hxs
   refine laid (S.here d) (S.fresh (S.here d)) news (by rw [e1]) (by rw [e1]) (by rw [e1]; exact hk1) (by simpa using k2) ?_
   unfold appB
   rw [if_pos hone,if_neg (by omega)]
   simp only
   rw [if_pos (cr0 hby' (by simp at hlen; omega)),aT4 hlive]
  ·have hes : ae5 (xs.map c) es:=by
    rcases ha with ⟨_,p,hh⟩ | ⟨sp,ys,hh,_,hr⟩
    ·cases hh
    ·cases hh; exact hr
   refine laid (S.here d) (S.fresh (S.here d)) (es ++ news) (by rw [e1]) (by rw [e1]) (by rw [e1]; exact hk1) (by rw [List.map_append]; exact hes.append k2) ?_
   rw [b47 hlive hone hpos hby' (by rw [hes.length,hnl,List.length_map]; exact hlen),List.length_append]
  ·have hes : ae5 (xs.map c) es:=by
    rcases ha with ⟨_,p,hh⟩ | ⟨sp,ys,hh,_,hr⟩
    ·cases hh
    ·cases hh; exact hr
   refine laid p g (es ++ news) h3 h4 (hk2 _ h5) (by rw [List.map_append]; exact hes.append k2) ?_
   rw [bX0 h2 hone hpos hby' (by rw [hes.length,hnl,List.length_map]; exact hlen),List.length_append]
theorem cI3 {s x : X} {a b : AV} {i n bytes : Nat} {e : TypeId} {ks : List Nat} {α : Type} {c : α → List V} {xs ns zs : List α} (hl : Cfg.live f.fn d = false) (hs : opd E s = some a) (hx : opd E x = some b) (hA : A[i]? = some (.tok ks n e a)) (ha : RelS (L + 1) (.sl n (xs.map c)) a) (hb : RelC (.sl n (ns.map c)) b) (hby : Nat.ble bytes 100000 = true)
  (hf : cz7 (insK d ks) i A = true) (hz : G.app xs ns = some zs) (h : ∀ a',RelS (L + 1) (.sl n (zs.map c)) a' → GO1 P m (accP acc (some (insK d ks),some (insK d ks))) r L f ((d,a') :: E) (A.set i (.tok (insK d ks) n e a')) Φ) : GO1 P m acc (⟨some d,none,.app s x,.ap e n bytes s x⟩ :: r) L f E A Φ:=by
 refine g_ap1 (some (insK d ks)) hl hs hx hA ha hb.toS hby (fun T S hT hS=>?_) hf hz h
 obtain ⟨hk1,hk2⟩:=cd0 d ks
 have hApp : App S (L + 1) ks n e a:=hS.its _ (List.mem_of_getElem? hA)
 have e1 : S.here d = ⟨L + 1,d,0⟩:=by rw [aO9,hS.lvl]
 show okK _ _ (aJ1 S (some d) [s.at T,x.at T])
 rw [hT.at hs,hT.at hx]
 rcases hApp with ⟨p,rfl⟩ | ⟨es,rfl⟩ | ⟨p,g,es,rfl,h2,h3,h4,h5⟩
 ·rw [bY1,hb.cJ2,bJ8,e1]
  exact .inr ⟨_,rfl,by simp,fun q hq=>by rw [List.mem_singleton] at hq; subst hq; rw [aR7]; exact hk1⟩
 ·rw [bU4,hb.cJ2,bJ8,e1]
  exact .inr ⟨_,rfl,by simp,fun q hq=>by rw [List.mem_singleton] at hq; subst hq; rw [aR7]; exact hk1⟩
 ·rw [bZ7,hb.cJ2,bJ8]
  exact .inr ⟨_,rfl,by simp,fun q hq=>by rw [List.mem_singleton] at hq; subst hq; rw [show keyOf (L + 1) q = q.k from if_pos ⟨h3,h4⟩]; exact hk2 _ h5⟩
end
def ab1 (L : Nat) (res : List BR) (rs : List RV) : az3:=fun x T S=>(x = .ret ∨ x = .normal) ∧ S.dfr = [] ∧ S.outs L = [] ∧ ∃ as1,aT1 S T res = some as1 ∧ RVL (L + 1) rs as1
def numE : Nat → List AV → Env
 | _,[]=>[]
 | n,a :: r=>(n,a) :: numE (n + 1) r
theorem cw3 : ∀ {l : List AV} {n k : Nat} {v : AV},look (numE n l) k = some v → n ≤ k ∧ l[k - n]? = some v
 | [],_,_,_,h=>by cases h
 | a :: r,n,k,v,h=>by
  unfold numE at h
  rw [bZ4] at h
  split at h
  ·rename_i e
   subst e
   cases h
   exact ⟨Nat.le_refl _,by simp⟩
  ·rename_i e
   obtain ⟨h1,h2⟩:=cw3 h
   refine ⟨by omega,?_⟩
   rw [show k - n = (k - (n + 1)) + 1 by omega,List.getElem?_cons_succ]
   exact h2
theorem Ag.args (l : List AV) : Ag (numE 0 l) (bF8 l):=by
 intro k v h
 obtain ⟨_,h2⟩:=cw3 h
 simp only [Nat.sub_zero] at h2
 show l.getD k _ = v
 rw [List.getD_eq_getElem?_getD,h2]
 rfl
inductive ResE (L : Nat) (E : Env) (A : List It) : List BR → List RV → Prop where
 | nil : ResE L E A [] []
 | t {n : Nat} {a : AV} {v : RV} {r : List BR} {rs : List RV} (hx : look E n = some a) (hv : v.S (L + 1) a) (h : ResE L E A r rs) : ResE L E A (.t n :: r) (v :: rs)
 | c1 {n k g : Nat} {t : TypeId} {cs : List AV} {M : List V} {v : V} {w : RV} {r : List BR} {rs : List RV} (hx : look E n = some (.ptr ⟨L + 1,k,0⟩ g 0 0)) (ho : lookO A k = some (g,t,cs)) (hM : aq5 (L + 1) M cs) (hv : M[0]? = some v) (hw : ∀ c,RelS (L + 1) v c → w.S (L + 1) c) (h : ResE L E A r rs) : ResE L E A (.c1 n :: r) (w :: rs)
 | cn {n m k g : Nat} {t : TypeId} {cs : List AV} {M : List V} {r : List BR} {rs : List RV} (hx : look E n = some (.ptr ⟨L + 1,k,0⟩ g 0 0)) (ho : lookO A k = some (g,t,cs)) (hM : aq5 (L + 1) M cs) (hm : M.length = m) (h : ResE L E A r rs) : ResE L E A (.cn n m :: r) (.agg M :: rs)
theorem ResE.ok {L : Nat} {f : Fr} {E : Env} {A : List It} {T : BT} {S : AS} (hT : Ag E T) (hS : StA S L f A) {res : List BR} {rs : List RV} (h : ResE L E A res rs) : ∃ as1,aT1 S T res = some as1 ∧ RVL (L + 1) rs as1:=by
 induction h with
 | nil=>exact ⟨[],rfl,rfl⟩
 | @t n a v r rs hx hv h ih =>
  obtain ⟨as1,k1,k2⟩:=ih
  refine ⟨a :: as1,?_,a,as1,rfl,hv,k2⟩
  rw [ar6,k1,cb9,hT n a hx]
  rfl
 | @c1 n k g t cs M v w r rs hx ho hM hv hw h ih =>
  obtain ⟨as1,k1,k2⟩:=ih
  obtain ⟨c,q1,q2⟩:=hM.get hv
  refine ⟨c :: as1,?_,c,as1,rfl,hw c q2,k2⟩
  rw [ar6,k1,cg7,hT n _ hx]
  simp only [ld1V,aQ6,aZ5 (aE0 hS.its ho),Option.map_some,List.drop_zero]
  rw [List.head?_eq_getElem?,q1]
  rfl
 | @cn n m k g t cs M r rs hx ho hM hm h ih =>
  obtain ⟨as1,k1,k2⟩:=ih
  refine ⟨.agg cs :: as1,?_,.agg cs,as1,rfl,⟨cs,rfl,hM⟩,k2⟩
  rw [ar6,k1,cf9,hT n _ hx]
  have hl : cs.length = m:=by rw [hM.length,hm]
  simp only [ldnV,aQ6,aZ5 (aE0 hS.its ho),Option.map_some,List.drop_zero]
  rw [if_pos (by omega),List.take_of_length_le (by omega)]
  rfl
inductive Ctl (σ β ρ : Type) where
 | nxt (s : σ)
 | brk (s : β)
 | ret (r : ρ)
inductive Out (β ρ : Type) where
 | brk (s : β)
 | ret (r : ρ)
def bQ8 {σ β ρ : Type} (body : σ → Option (Ctl σ β ρ)) : Nat → σ → Option (Out β ρ)
 | 0,_=>none
 | n + 1,s=>match body s with
  | some (.nxt s')=>bQ8 body n s'
  | some (.brk s')=>some (.brk s')
  | some (.ret r)=>some (.ret r)
  | none=>none
theorem b98 {σ β ρ : Type} {body : σ → Option (Ctl σ β ρ)} : ∀ n m s r,n ≤ m → bQ8 body n s = some r → bQ8 body m s = some r
 | 0,_,_,_,_,h=>by cases h
 | n + 1,0,_,_,hm,_=>by omega
 | n + 1,m + 1,s,r,hm,h=>by
  unfold bQ8 at h ⊢
  cases hb : body s with
  | none=>rw [hb] at h; cases h
  | some c =>
   rw [hb] at h
   cases c with
   | nxt s'=>exact b98 n m s' r (by omega) h
   | _=>exact h
noncomputable def Loop {σ β ρ : Type} (body : σ → Option (Ctl σ β ρ)) (s : σ) : Option (Out β ρ):=lim fun n=>bQ8 body n s
theorem aS3 {σ β ρ : Type} {body : σ → Option (Ctl σ β ρ)} {s : σ} {r : Out β ρ} : Loop body s = some r ↔ ∃ n,bQ8 body n s = some r:=cf8 fun n m r hnm h=>b98 n m s r hnm h
theorem ba8 {x : AX} {L : Nat} {f : Fr} {E : Env} {A : List It} {res : List BR} {rs : List RV} (h : ResE L E A res rs) (hW : f.W = []:=by rfl) (hx : x = .ret ∨ x = .normal:=by first | exact .inl rfl | exact .inr rfl) : G x L f E A (ab1 L res rs):=fun _ _ hT hS=>⟨hx,hS.dfr,hS.out.outs hW,h.ok hT hS⟩
section
variable [Cfg] {P : Program}
def am1 {σ β ρ : Type} (id : Nat) (IN : σ → BT → AS → Prop) (IB : β → BT → AS → Prop) (IR : ρ → az3) : Ctl σ β ρ → az3
 | .nxt s=>fun x T S=>x = .normal ∧ IN s T S
 | .brk s=>fun x T S=>x = .exit id ∧ IB s T S
 | .ret r=>fun x T S=>x = .ret ∧ IR r .ret T S
def OPost {β ρ : Type} (id : Nat) (IB : β → BT → AS → Prop) (IR : ρ → az3) : Out β ρ → az3
 | .brk s=>fun x T S=>x = .exit id ∧ IB s T S
 | .ret r=>fun x T S=>x = .ret ∧ IR r .ret T S
theorem cL4 {σ β ρ : Type} {c : BC} {body : σ → Option (Ctl σ β ρ)} {id : Nat} {IN : σ → BT → AS → Prop} {IB : β → BT → AS → Prop} {IR : ρ → az3} (h : ∀ s c',body s = some c' → ∀ T S,IN s T S → RunB P c T S (am1 id IN IB IR c')) :
  ∀ n s out,bQ8 body n s = some out → ∀ T S,IN s T S → RunB P (.loop c) T S (OPost id IB IR out)
 | 0,_,_,hl,_,_,_=>by cases hl
 | n + 1,s,out,hl,T,S,hI=>by
  unfold bQ8 at hl
  cases hb : body s with
  | none=>rw [hb] at hl; cases hl
  | some c' =>
   rw [hb] at hl
   obtain ⟨x,T',S',k1,k2⟩:=h s c' hb T S hI
   unfold RunB
   rw [cS5,k1]
   cases c' with
   | nxt s' =>
    obtain ⟨rfl,k2⟩:=k2
    exact cL4 h n s' out hl T' S' k2
   | brk s' =>
    obtain ⟨rfl,k2⟩:=k2
    cases hl
    exact ⟨_,T',S',rfl,rfl,k2⟩
   | ret r =>
    obtain ⟨rfl,k2⟩:=k2
    cases hl
    exact ⟨_,T',S',rfl,rfl,k2⟩
theorem aA8 {σ β ρ : Type} {c : BC} {body : σ → Option (Ctl σ β ρ)} {id : Nat} {IN : σ → BT → AS → Prop} {IB : β → BT → AS → Prop} {IR : ρ → az3} {L : Nat} {f : Fr} {E : Env} {A : List It} {Φ : az3} {s : σ} {out : Out β ρ} (hl : Loop body s = some out)
  (h : ∀ s c',body s = some c' → ∀ T S,IN s T S → RunB P c T S (am1 id IN IB IR c')) (hI : ∀ T S,Ag E T → StA S L f A → IN s T S) (hk : ∀ x T S,OPost id IB IR out x T S → Φ x T S) : GC P (.loop c) L f E A Φ:=by
 intro T S hT hS
 obtain ⟨n,hn⟩:=aS3.1 hl
 obtain ⟨x,T',S',k1,k2⟩:=cL4 h n s out hn T S (hI T S hT hS)
 exact ⟨x,T',S',k1,hk x T' S' k2⟩
end
open Go.RowKit
structure A2 where
 x0 : Int
 x1 : Int
structure A4 where
 x0 : Int
 x1 : Int
 x2 : Int
 x3 : Int
def ah4 (k : IntKind) (n : Int) : List V:=[.int k n]
def aa6 (l : List UInt8) : List V:=[.str l]
def vref {α : Type} (c : α → List V) : Option α → V
 | none=>.nilp
 | some x=>.ref (c x)
def ak6 {α : Type} (c : α → List V) (o : Option α) : List V:=[vref c o]
theorem aa8 {k : IntKind} {n : Int} : RelC (.int k n) (.lit (.int k n)):=by unfold RelC; rfl
theorem ai3 {b : Bool} : RelC (.bool b) (.lit (.bool b)):=by unfold RelC; rfl
theorem ag6 {l : List UInt8} : RelC (.str l) (.lit (.string (bs l))):=by unfold RelC; rfl
theorem bl7 : RelC .nili (.lit .nilIface):=by unfold RelC; rfl
theorem RelC.some {α : Type} {c : α → List V} {x : α} {a : AV} (h : RelC (vref c (some x)) a) : ∃ ys,a = .cref ys ∧ RelP (c x) ys:=by
 have h : RelC (.ref (c x)) a:=h
 unfold RelC at h
 obtain ⟨ys,zs,rfl,h2⟩:=h
 exact ⟨_,rfl,ys,zs,rfl,h2⟩
theorem au9 : ab7 [] []:=by unfold ab7; rfl
theorem o8 {v : V} {a : AV} {r : List V} {t : List AV} (h1 : RelC v a) (h2 : ab7 r t) : ab7 (v :: r) (a :: t):=by unfold ab7; exact ⟨a,t,rfl,h1,h2⟩
theorem b29 (k : IntKind) (n : Int) : ab7 [.int k n] (AV.cells (.lit (.int k n))):=o8 aa8 au9
theorem bt7 (b : Bool) : ab7 [.bool b] (AV.cells (.lit (.bool b))):=o8 ai3 au9
theorem aS5 (l : List UInt8) : ab7 [.str l] (AV.cells (.lit (.string (bs l)))):=o8 ag6 au9
theorem relSL1 {L : Nat} {v : V} {a : AV} (h : RelS L v a) : aq5 L [v] a.cells:=by rw [h.cells]; exact ⟨a,[],rfl,h,rfl⟩
theorem bt8 {L : Nat} {k : IntKind} {n : Int} {c : AV} (h : RelS L (.int k n) c) : c = .lit (.int k n):=h
theorem bt9 {L : Nat} {l : List UInt8} {c : AV} (h : RelS L (.str l) c) : c = .lit (.string (bs l)):=h
theorem relC_int {k : IntKind} {n : Int} {c : AV} (h : RelC (.int k n) c) : c = .lit (.int k n):=by unfold RelC at h; exact h
theorem db3 {b : Bool} {c : AV} (h : RelC (.bool b) c) : c = .lit (.bool b):=by unfold RelC at h; exact h
theorem aq8 {l : List UInt8} {c : AV} (h : RelC (.str l) c) : c = .lit (.string (bs l)):=by unfold RelC at h; exact h
theorem relCL1 {v : V} {a : AV} (h : RelC v a) : ab7 [v] a.cells:=by rw [(h.toS (L:=0)).cells]; exact o8 h au9
theorem of_blt {a b : Nat} (h : Nat.blt a b = true) : a < b:=by simpa using h
namespace G
def when {α : Type} (c : Bool) (o : Option α) (d : α) : Option α:=match c with
 | true=>o
 | false=>some d
def subN {α : Type} (xs : List α) (i j : Int) : Option (List α):=if 0 < xs.length ∧ 0 ≤ i ∧ i ≤ j ∧ j ≤ xs.length then some ((xs.drop i.toNat).take (j.toNat - i.toNat)) else none
def shrK (k : IntKind) (a b : Int) : Option Int:=if 0 ≤ b then some (a.fdiv (2 ^ (min b.toNat k.bits))) else none
end G
theorem whenT {α : Type} {c : Bool} {o : Option α} {d x : α} (h : G.when c o d = some x) (hc : c = true) : o = some x:=by subst hc; exact h
theorem ibV_rem {k : IntKind} {a b : Int} (h : b ≠ 0) : ibV .rem (.lit (.int k a)) (.lit (.int k b)) = some (.lit (.int k (a.tmod b))):=by simp [ibV,intB,h]
theorem cD4 {k k' : IntKind} {a b c : Int} (h : G.shrK k a b = some c) : ibV .shr (.lit (.int k a)) (.lit (.int k' b)) = some (.lit (.int k c)):=by
 unfold G.shrK at h
 split at h
 ·rename_i h0
  cases h
  simp [ibV,intB,h0]
 ·cases h
theorem cc0 {cs ys : List AV} {off j : Nat} {x : AV} (h : cs[j]? = some x) (hj : (j < off ∨ off + ys.length ≤ j):=by first | (left; decide) | (right; decide) | (right; exact Nat.le_of_ble_eq_true rfl)) : (splice cs off ys)[j]? = some x:=by
 unfold splice
 have hlt:=(List.getElem?_eq_some_iff.1 h).1
 rcases hj with hj | hj
 ·rw [List.append_assoc,List.getElem?_append_left (by rw [List.length_take]; omega),List.getElem?_take_of_lt hj]
  exact h
 ·rw [List.getElem?_append_right (by rw [List.length_append,List.length_take]; omega),List.length_append,List.length_take,List.getElem?_drop]
  rw [show off + ys.length + (j - (min off cs.length + ys.length)) = j by omega]
  exact h
theorem co2 {cs ys : List AV} {off j : Nat} {x : AV} (h : ys[j]? = some x) (hl : off ≤ cs.length) : (splice cs off ys)[off + j]? = some x:=by
 unfold splice
 have hj:=(List.getElem?_eq_some_iff.1 h).1
 rw [List.append_assoc,List.getElem?_append_right (by rw [List.length_take]; omega),List.length_take,show off + j - min off cs.length = j by omega,List.getElem?_append_left hj]
 exact h
theorem cs8 {cs ys : List AV} {off : Nat} {x : AV} (h : ys = [x]) (hl : off < cs.length) : (splice cs off ys)[off]? = some x:=by
 subst h
 unfold splice
 rw [List.append_assoc,List.getElem?_append_right (by rw [List.length_take]; omega),List.length_take,show off - min off cs.length = 0 by omega]
 rfl
section
variable [Cfg] {P : Program} {L : Nat} {f : Fr} {E : Env} {A : List It} {d : Nat}
theorem s_clX {g : FuncId} {xs : List X} {args : List AV} {Q : AV → Prop} (hup : ∀ h,Cfg.up g h = false) (hx : optL E xs = some args) (hcl : AV.af2 (args.map AV.ag0) = true) (hc : ∃ v,ak5 P g (args.map AV.ag0) .bare = some (.ret v,none) ∧ Q v) : Stp P L f E A d .none (.cl g xs) af0 Q:=by
 intro T S hT hS
 have hb : bop P S T (some d) (.cl g xs) = some (.call g args):=by simp only [bop]; rw [b05 hT hx]
 obtain ⟨v,h1,h2⟩:=hc
 exact ⟨v,⟨BF.foot S T (some d) .none,.none⟩,h2,⟨.inl rfl,.inl rfl⟩,fun c r=>by rw [aj7,hb,show (BO.cl g xs).w = true from rfl,ce2,hup,hcl,Bool.not_false,Bool.true_and,bi2,h1,cE8]⟩
theorem aC3 {x : X} {ys : List AV} {M : List V} {v : V} {a : AV} (hx : opd E x = some (.cref ys)) (hM : RelP M ys) (hv : M[0]? = some v) (ha : ∀ c,RelC v c → c = a) : Stp P L f E A d (.at x) (.ld1 x) af0 (fun u=>u = a):=by
 intro T S hT hS
 obtain ⟨u,ft,h1,h2,h3⟩:=cI7 (P:=P) (L:=L) (f:=f) (A:=A) (d:=d) hx hM hv T S hT hS
 exact ⟨u,ft,ha u h1,h2,h3⟩
theorem cJ3 {x : X} {k g off : Nat} {t : TypeId} {cs : List AV} {M : List V} {v : V} (hx : opd E x = some (.ptr ⟨L + 1,k,0⟩ g 0 off)) (ho : lookO A k = some (g,t,cs)) (hM : ab7 M cs) (hv : M[off]? = some v) :
  Stp P L f E A d (.at x) (.ld1 x) (some [k],some []) (fun c=>RelC v c):=by
 intro T S hT hS
 obtain ⟨u,ft,h1,h2,h3⟩:=cR5 (P:=P) (L:=L) (f:=f) (A:=A) (d:=d) hx ho hM.toS hv T S hT hS
 obtain ⟨c,k1,k2⟩:=hM.get hv
 obtain rfl : u = c:=Option.some.inj (h1.2.symm.trans k1)
 exact ⟨u,ft,k2,h2,h3⟩
theorem ci5 {x : X} {k g off n : Nat} {t : TypeId} {cs : List AV} {M N : List V} (hx : opd E x = some (.ptr ⟨L + 1,k,0⟩ g 0 off)) (ho : lookO A k = some (g,t,cs)) (hM : ab7 M cs) (hn : Nat.ble (off + n) M.length = true) (hN : (M.drop off).take n = N) :
  Stp P L f E A d (.at x) (.ldn n x) (some [k],some []) (fun u=>∃ zs,u = .agg zs ∧ ab7 N zs):=by
 intro T S hT hS
 obtain ⟨u,ft,⟨zs,k1,_,k3⟩,h2,h3⟩:=s_ldno (P:=P) (L:=L) (f:=f) (A:=A) (d:=d) hx ho hM.toS hn hN T S hT hS
 subst hN k3
 exact ⟨u,ft,⟨_,k1,(hM.drop off).take n⟩,h2,h3⟩
theorem ba2 {x : X} {k g off : Nat} {t : TypeId} {cs : List AV} {M : List V} {v : V} {a : AV} (hx : opd E x = some (.ptr ⟨L + 1,k,0⟩ g 0 off)) (ho : lookO A k = some (g,t,cs)) (hM : aq5 (L + 1) M cs) (hv : M[off]? = some v) (ha : ∀ c,RelS (L + 1) v c → c = a) :
  Stp P L f E A d (.at x) (.ld1 x) (some [k],some []) (fun u=>u = a):=by
 intro T S hT hS
 obtain ⟨u,ft,h1,h2,h3⟩:=cR5 (P:=P) (L:=L) (f:=f) (A:=A) (d:=d) hx ho hM hv T S hT hS
 exact ⟨u,ft,ha u h1.1,h2,h3⟩
variable {Φ : az3} {m : Option (List (Nat × Nat))} {acc : AAcc} {r : List BI}
theorem bV8 {x v : X} {k g off n : Nat} {t : TypeId} {cs : List AV} {a : AV} {M M' Xs : List V} (hx : opd E x = some (.ptr ⟨L + 1,k,0⟩ g 0 off)) (ho : lookO A k = some (g,t,cs)) (hf : bi0 k A = true) (hv : opd E v = some a) (hM : ab7 M cs) (ha : ab7 Xs a.cells)
  (hn : Xs.length = n) (hle : Nat.ble (off + n) M.length = true) (hM' : bC7 M off Xs = M') (h : ∀ cs',ab7 M' cs' → cs' = splice cs off a.cells → GO1 P m (accP acc (some [k],some [k])) r L f E (setO k g t cs' A) Φ) : GO1 P m acc (⟨none,none,.at x,.st n x v⟩ :: r) L f E A Φ :=
 g_st hx ho hf hv hM.toS ha.toS hn hle hM' fun cs' _ he=>h cs' (by subst hM' he; exact hM.spl off ha) he
end
theorem ResC.one {n : Nat} {es : List (List V)} {v : AV} (h : ResC [.sl n es] v) : RelC (.sl n es) v:=h
section
variable [Cfg] {P : Program} {L : Nat} {f : Fr} {E : Env} {A : List It} {d : Nat}
omit [Cfg] in
theorem sllV_ok {α : Type} {a : AV} {xs ys : List α} {c : α → List V} {n : Nat} {i j : Int} {lo hi : Option AV} (ha : RelS (L + 1) (.sl n (xs.map c)) a) (h1 : 0 ≤ i → ao3 0 lo = some i.toNat) (h2 : 0 ≤ j → ao3 xs.length hi = some j.toNat) (hc : G.subN xs i j = some ys) :
  ∃ v,sllV n a lo hi none = some v ∧ RelS (L + 1) (.sl n (ys.map c)) v:=by
 unfold G.subN at hc
 split at hc
 ·rename_i h0
  obtain ⟨h00,hi0,hij,hjl⟩:=h0
  cases hc
  rcases ha with ⟨hn,_⟩ | ⟨sp,zs,rfl,hsp,hr⟩
  ·have : xs = []:=by simpa using hn
   subst this
   simp at h00
  ·have hl : zs.length = xs.length:=by rw [hr.length,List.length_map]
   refine ⟨_,by
    have e3 : ao3 xs.length none = some xs.length:=rfl
    simp only [sllV,hl,h1 hi0,h2 (Int.le_trans hi0 hij),e3]
    rw [if_pos ⟨trivial,by omega,by omega,Nat.le_refl _,by simp⟩],.inr ⟨_,_,rfl,?_,?_⟩⟩
   ·simp only [Option.isSome_none,Bool.false_eq_true,if_false]
    split
    ·exact hsp
    ·exact .inl rfl
   ·rw [List.map_take,List.map_drop]
    exact (hr.drop _).take _
 ·cases hc
theorem s_slL {α : Type} {x lo : X} {a : AV} {xs ys : List α} {c : α → List V} {n : Nat} {k : IntKind} {i : Int} (hx : opd E x = some a) (ha : RelS (L + 1) (.sl n (xs.map c)) a) (h1 : opd E lo = some (.lit (.int k i))) (hc : G.subN xs i xs.length = some ys) : Stp P L f E A d .none (.sll n x (some lo) none none) af0 (fun u=>RelS (L + 1) (.sl n (ys.map c)) u):=by
 obtain ⟨v,k1,k2⟩:=sllV_ok (lo:=some (.lit (.int k i))) (hi:=none) ha (fun h=>by simp [ao3,h]) (fun _=>by simp [ao3]) hc
 exact bN0 (fun T S hT=>⟨v,by simp only [bop,hT.at hx,hT.at h1,Option.map_some,Option.map_none]; rw [k1]; rfl,k2⟩)
theorem cR8 {α : Type} {x : X} {a : AV} {c : α → List V} {o : Option α} {y : α} (hx : opd E x = some a) (ha : RelC (vref c o) a) (ho : o = some y) : Stp P L f E A d .none (.nc x) af0 (fun u=>∃ ys,u = .cref ys ∧ RelP (c y) ys):=by
 subst ho
 obtain ⟨ys,rfl,h⟩:=ha.some
 exact bN0 fun T S hT=>⟨.cref ys,cm1 (hT.at hx),ys,rfl,h⟩
theorem ah5 {x : X} {p : Loc} {g n o : Nat} (hx : opd E x = some (.ptr p g n o)) : Stp P L f E A d .none (.nc x) af0 (fun u=>u = .ptr p g n o):=bu8 fun T S hT=>cM1 (hT.at hx)
end
open Go.RowKit
def G.appB (l : List UInt8) (n : Int) : Option (List UInt8):=if 0 ≤ n ∧ n ≤ 255 ∧ l.length + 1 ≤ 1000000000 then some (l ++ [UInt8.ofNat n.toNat]) else none
structure BldC [Cfg] (P : Program) (tp tb tu tz te fne fcc fws fwb fst : Nat) : Prop where
 F : aY7 P tp tb tu tz fne
 cc : aq2 P fcc = some (Kcc tp tu fne tz)
 ws : aq2 P fws = some (Kws fcc te)
 wb : aq2 P fwb = some (Kwb fcc te)
 gcc : Cfg.given fcc = none
 gws : Cfg.given fws = none
 gwb : Cfg.given fwb = none
 upw : Cfg.up fcc fws = true
 upb : Cfg.up fcc fwb = true
 lws : Cfg.live fws 14 = false
 lwb : Cfg.live fwb 14 = false
 lwb2 : Cfg.live fwb 13 = false
 lies : liesAt P P.depth tb (2 / P.cellsOf tb) 0 tb 1 = true
 st : Cfg.given fst = some (aB8 te)
section
variable [Cfg] {P : Program} {L : Nat} {f : Fr} {E : Env} {A : List It} {Φ : az3} {m : Option (List (Nat × Nat))} {acc : AAcc} {r : List BI} {d : Nat} {bf : BF}
variable {tp tb tu tz te fne fcc fws fwb fst : Nat}
end
open Go.RowKit
def New (S : AS) (q : Loc) : Prop:=q.l = S.lvl ∧ q.k = 0 ∧ q.i ≠ 0 ∧ S.get q = none
structure Left (S : AS) (u : Upd) (F G : List Loc) : Prop where
 lvl : (S.after u).lvl = S.lvl
 fn : (S.after u).fn = S.fn
 dfr : (S.after u).dfr = S.dfr
 dup : G.Nodup
 cov : ∀ q ∈ F,q ∈ G
 src : ∀ q ∈ G,q ∈ F ∨ New S q
 log : ∀ q ∈ ulog u,q ∈ F ∨ New S q
 frame : ∀ q,q ∉ ulog u → (S.after u).get q = S.get q
def outE (pan : Bool) (v : AV) : AE:=match pan with
 | true=>.pan v
 | false=>.ret v
def by6 [Cfg] (P : Program) (f : FuncId) (ins : List OA) (pan : Bool) (outs res : List OA) : Prop :=
 ∀ (S : AS) (args : List AV) (F : List Loc),Cfg.up f S.fn = true → AtAs S ins (args.map AV.ag0) F → F.Nodup → (∀ q ∈ F,q.l ≤ S.lvl) →
  ∃ v u F1 F2 J,ak5 P f args S = some (outE pan v,u) ∧ AtAs (S.after u) outs (args.map AV.ag0) F1 ∧ ResO (S.after u) res v F2 ∧ aI6 (S.after u) J ∧ Left S u F (F1 ++ (F2 ++ J))
theorem c77 {S : AS} {l : Nat} {ρ : Loc → Loc} {a : AV} (h : Cx S l a) (hd : AV.deep l a = []) : renX l ρ a = a:=by
 cases h with
 | c h=>exact ay0 h
 | p h=>simp only [renX,aK3,if_pos h]
 | pd h=>simp only [AV.deep,if_neg (Nat.not_le.2 h)] at hd; cases hd
 | m h=>simp only [renX,aK3,if_pos h]
 | md h=>simp only [AV.deep,if_neg (Nat.not_le.2 h)] at hd; cases hd
 | r h=>simp only [renX,aK3,if_pos h]
 | rd h=>simp only [AV.deep,if_neg (Nat.not_le.2 h)] at hd; cases hd
 | t h h'=>simp only [renX,aK3,if_pos h']
 | d h h'=>simp only [AV.deep,if_neg (Nat.not_le.2 h')] at hd; cases hd
theorem bH1 {S : AS} {l : Nat} {ρ : Loc → Loc} : ∀ {cs : List AV},(∀ a ∈ cs,Cx S l a) → AV.an2 l cs = [] → cs.map (renX l ρ) = cs
 | [],_,_=>rfl
 | a :: r,h,hd=>by
  simp only [AV.an2,List.append_eq_nil_iff] at hd
  rw [List.map_cons,c77 (h a (List.mem_cons_self ..)) hd.1,bH1 (fun x hx=>h x (List.mem_cons_of_mem _ hx)) hd.2]
theorem renY_id {S : AS} {l : Nat} {ρ : Loc → Loc} {a : AV} (h : Cy S l a) (hd : AV.deep l a = []) : renX l ρ a = a:=by
 rcases h with h | ⟨cs,rfl,h⟩
 ·exact c77 h hd
 ·simp only [AV.deep] at hd
  show AV.agg _ = AV.agg _
  congr 1
  rw [show cs.map (aK3 l ρ) = cs.map (renX l ρ) from List.map_congr_left fun x hx=>(h x hx).rx.symm]
  exact bH1 h hd
theorem ci8 {S : AS} {l : Nat} {ρ : Loc → Loc} : ∀ {cs : List AV},(∀ a ∈ cs,Cy S l a) → AV.an2 l cs = [] → cs.map (renX l ρ) = cs
 | [],_,_=>rfl
 | a :: r,h,hd=>by
  simp only [AV.an2,List.append_eq_nil_iff] at hd
  rw [List.map_cons,renY_id (h a (List.mem_cons_self ..)) hd.1,ci8 (fun x hx=>h x (List.mem_cons_of_mem _ hx)) hd.2]
theorem renSX_id {S : AS} {l : Nat} {ρ : Loc → Loc} {s : ae1} (h : bx5 S l s) (hd : s.deep l = []) : bx4 l ρ s.gen s = s:=by
 cases h with
 | obj h=>simp only [bx4,ae1.gen,bH1 h hd]
 | tok=>rfl
 | @map g ck es h =>
  simp only [ae1.deep,bH0] at hd
  have h1 : (es.map (·.val)).map (renX l ρ) = es.map (·.val):=bH1 (fun a ha=>by
   obtain ⟨e,he,rfl⟩:=List.mem_map.1 ha
   exact h e he) hd
  have h2 : ∀ {es : List al6},(es.map (·.val)).map (renX l ρ) = es.map (·.val) → es.map (cG4 l ρ) = es:=by
   intro es
   induction es with
   | nil=>intro _; rfl
   | cons e r ih =>
    intro h
    simp only [List.map_cons,List.cons.injEq] at h
    rw [List.map_cons,ih h.2]
    unfold cG4
    rw [h.1]
  simp only [bx4,ae1.gen,h2 h1]
 | row h=>simp only [bx4,ae1.gen,bH1 h hd]
 | itr=>rfl
theorem Gs.reach {S : AS} {l n : Nat} {e : TypeId} {es : List (List V)} {a : AV} {F R : List Loc} (h : Gs S n e es a F) (ha : ∀ x ∈ AV.deep l a,x ∈ R) : ∀ q ∈ F,l < q.l → q ∈ R:=by
 rcases h with ⟨_,_,rfl⟩ | ⟨ys,rfl,h2,rfl⟩ | ⟨q,k,ys,rfl,h2,h3,rfl⟩
 ·exact fun q hq=>(nomatch hq)
 ·exact fun q hq=>(nomatch hq)
 ·intro x hx hl
  rw [List.mem_singleton] at hx
  subst hx
  refine ha _ ?_
  simp only [AV.deep,if_neg (Nat.not_le.2 hl)]
  exact List.mem_append.2 (.inl (List.mem_singleton.2 rfl))
mutual
theorem AtO.reach {S : AS} {l : Nat} {R : List Loc} (hU : ∀ p s,(p.l ≤ l ∨ p ∈ R) → S.get p = some s → ∀ x ∈ s.deep l,x ∈ R) {p : Loc} {g i : Nat} : ∀ {o : OV} {a : AV} {F : List Loc},AtO S p g i o a F → (∀ x ∈ AV.deep l a,x ∈ R) → ∀ q ∈ F,l < q.l → q ∈ R
 | .c v,a,F,h,_=>by
  unfold AtO at h
  obtain ⟨_,rfl⟩:=h
  exact fun q hq=>(nomatch hq)
 | .self,a,F,h,_=>by
  unfold AtO at h
  obtain ⟨_,rfl⟩:=h
  exact fun q hq=>(nomatch hq)
 | .bb te t,a,F,h,ha=>by unfold AtO at h; exact h.gs.reach ha
 | .gs n e es,a,F,h,ha=>by unfold AtO at h; exact h.reach ha
 | .li n e es,a,F,h,ha=>by
  unfold AtO at h
  rcases h with h | ⟨_,_,_,rfl⟩
  ·exact h.reach ha
  ·exact fun q hq=>(nomatch hq)
 | .it s pos,a,F,h,ha=>by
  unfold AtO at h
  obtain ⟨q,k,rfl,rfl,h2⟩:=h
  intro x hx hl
  rw [List.mem_singleton] at hx
  subst hx
  exact ha _ (by simp only [AV.deep,if_neg (Nat.not_le.2 hl),List.mem_singleton])
 | .rw x0 n e es,a,F,h,ha=>by
  unfold AtO at h
  rcases h with ⟨_,h⟩ | ⟨q,k,ys,zs,rfl,h2,h3,rfl⟩
  ·exact h.reach ha
  ·intro x hx hl
   rw [List.mem_singleton] at hx
   subst hx
   exact ha _ (by simp only [AV.deep,if_neg (Nat.not_le.2 hl),List.mem_singleton])
 | .ptr t os,a,F,h,ha=>by
  unfold AtO at h
  obtain ⟨q,k,cs,F',rfl,rfl,h2,h3⟩:=h
  have hq : q.l ≤ l ∨ q ∈ R:=by
   rcases Nat.lt_or_ge l q.l with hl | hl
   ·exact .inr (ha q (by simp only [AV.deep,if_neg (Nat.not_le.2 hl),List.mem_singleton]))
   ·exact .inl hl
  have:=AtL.reach hU h3 (hU q _ hq h2)
  intro x hx hl
  rcases List.mem_cons.1 hx with rfl | hx
  ·rcases hq with hq | hq
   ·omega
   ·exact hq
  ·exact this x hx hl
 | .mp ks vs,a,F,h,ha=>by
  unfold AtO at h
  obtain ⟨q,k,es,ck,F',rfl,rfl,h2,h3,h4,h5,h6⟩:=h
  have hq : q.l ≤ l ∨ q ∈ R:=by
   rcases Nat.lt_or_ge l q.l with hl | hl
   ·exact .inr (ha q (by simp only [AV.deep,if_neg (Nat.not_le.2 hl),List.mem_singleton]))
   ·exact .inl hl
  have:=AtL.reach hU h6 (by
   have:=hU q _ hq h2
   simp only [ae1.deep,bH0] at this
   exact this)
  intro x hx hl
  rcases List.mem_cons.1 hx with rfl | hx
  ·rcases hq with hq | hq
   ·omega
   ·exact hq
  ·exact this x hx hl
theorem AtL.reach {S : AS} {l : Nat} {R : List Loc} (hU : ∀ p s,(p.l ≤ l ∨ p ∈ R) → S.get p = some s → ∀ x ∈ s.deep l,x ∈ R) {p : Loc} {g : Nat} : ∀ {os : List OV} {i : Nat} {cs : List AV} {F : List Loc},AtL S p g i os cs F → (∀ x ∈ AV.an2 l cs,x ∈ R) → ∀ q ∈ F,l < q.l → q ∈ R
 | [],i,cs,F,h,_=>by
  unfold AtL at h
  obtain ⟨_,rfl⟩:=h
  exact fun q hq=>(nomatch hq)
 | o :: r,i,cs,F,h,ha=>by
  unfold AtL at h
  obtain ⟨a,t,F1,F2,rfl,rfl,h2,h3⟩:=h
  simp only [AV.an2] at ha
  intro q hq hl
  rcases List.mem_append.1 hq with hq | hq
  ·exact AtO.reach hU h2 (fun x hx=>ha x (List.mem_append.2 (.inl hx))) q hq hl
  ·exact AtL.reach hU h3 (fun x hx=>ha x (List.mem_append.2 (.inr hx))) q hq hl
end
theorem AtAs.reach {S : AS} {l : Nat} {R : List Loc} (hU : ∀ p s,(p.l ≤ l ∨ p ∈ R) → S.get p = some s → ∀ x ∈ s.deep l,x ∈ R) : ∀ {os : List OA} {as1 : List AV} {F : List Loc},AtAs S os as1 F → (∀ x ∈ AV.an2 l as1,x ∈ R) → ∀ q ∈ F,l < q.l → q ∈ R
 | [],as1,F,h,_=>by
  obtain ⟨_,rfl⟩:=h
  exact fun q hq=>(nomatch hq)
 | o :: r,as1,F,h,ha=>by
  obtain ⟨a,t,F1,F2,rfl,rfl,h2,h3⟩:=h
  simp only [AV.an2] at ha
  intro q hq hl
  rcases List.mem_append.1 hq with hq | hq
  ·cases o with
   | r v=>rw [h2.2] at hq; cases hq
   | x =>
    have h2 : F1 = []:=h2
    rw [h2] at hq; cases hq
   | ag os =>
    obtain ⟨cs,rfl,h2⟩:=h2
    exact AtL.reach hU h2 (fun x hx=>ha x (List.mem_append.2 (.inl (by simpa only [AV.deep] using hx)))) q hq hl
   | o v=>exact AtO.reach hU h2 (fun x hx=>ha x (List.mem_append.2 (.inl hx))) q hq hl
  ·exact AtAs.reach hU h3 (fun x hx=>ha x (List.mem_append.2 (.inr hx))) q hq hl
theorem b45 (l : Nat) (as1 : List AV) : AV.deep l (aA2 as1) = AV.an2 l as1:=by
 match as1 with
 | []=>rfl
 | [a]=>simp only [aA2,AV.an2,List.append_nil]
 | a :: b :: r=>rfl
theorem cU7 {S : AS} {l : Nat} {as1 : List AV} (h : ∀ a ∈ as1,Cy S l a) : Vx S l (aA2 as1):=by
 match as1 with
 | []=>exact .tup h
 | [a]=>exact .one (h a (List.mem_singleton.2 rfl))
 | a :: b :: r=>exact .tup h
theorem cs5 {S : AS} {l : Nat} {ρ : Loc → Loc} {as1 : List AV} (h : ∀ a ∈ as1,Cy S l a) : cl8 l ρ (aA2 as1) = aA2 (as1.map (renX l ρ)):=by
 match as1 with
 | []=>rfl
 | [a] =>
  show cl8 l ρ a = renX l ρ a
  cases a with
  | tup cs =>
   have hc : (AV.tup cs).closed = true:=by
    rcases h _ (List.mem_singleton.2 rfl) with h | ⟨_,h,_⟩
    ·cases h with
     | c h=>exact h
    ·cases h
   simp only [cl8,renX,aK3]
   congr 1
   exact aS8 (am8 (by simpa only [AV.closed] using hc))
  | _=>rfl
 | a :: b :: r=>rfl
theorem ResO_of {S : AS} {res : List OA} {as1 : List AV} {F : List Loc} (h : AtAs S res as1 F) : ResO S res (aA2 as1) F:=by
 match res,h with
 | [],h =>
  obtain ⟨rfl,rfl⟩:=h
  exact ⟨[],rfl,rfl,rfl⟩
 | [o],h =>
  obtain ⟨a,t,F1,F2,rfl,rfl,h2,rfl,rfl⟩:=h
  rw [List.append_nil]
  exact h2
 | o :: o' :: r,h =>
  have h0:=h
  obtain ⟨a,t,F1,F2,rfl,rfl,h2,a',t',F3,F4,rfl,rfl,h3⟩:=h
  exact ⟨_,rfl,h0⟩
theorem bU9 {α β : Type} {f : α → β} : ∀ {l : List α},l.Nodup → (∀ x ∈ l,∀ y ∈ l,f x = f y → x = y) → (l.map f).Nodup
 | [],_,_=>List.nodup_nil
 | a :: r,hn,h=>by
  have hn:=List.nodup_cons.1 hn
  rw [List.map_cons,List.nodup_cons]
  refine ⟨fun hm=>?_,bU9 hn.2 fun x hx y hy=>h x (List.mem_cons_of_mem _ hx) y (List.mem_cons_of_mem _ hy)⟩
  obtain ⟨b,hb,e⟩:=List.mem_map.1 hm
  have:=h b (List.mem_cons_of_mem _ hb) a (List.mem_cons_self ..) e
  subst this
  exact hn.1 hb
theorem handUp_o [Cfg] {f : FuncId} {S S' : AS} {W : List Loc} {as1 args : List AV} {F1 F2 J : List Loc} {ins outs res : List OA} (hup : Cfg.up f S.fn = true) (hki : ins.all OA.keep = true) (hkr : res.all OA.keep = true) (hin : AtAs S ins args W) (hW : ∀ q ∈ W,q.l ≤ S.lvl)
  (hlog : ∀ r ∈ S'.log,r.l ≤ S.lvl → r ∈ W) (hun : ∀ r,r.l ≤ S.lvl → r ∉ S'.log → S'.get r = S.get r) (h1 : AtAs S' outs args F1) (h2 : AtAs S' res as1 F2) (h3 : aI6 S' J) (hd : (F1 ++ (F2 ++ J)).Nodup)
  (hc : ∀ q ∈ W,q ∈ F1 ++ (F2 ++ J)) (hs : ∀ q ∈ F1 ++ (F2 ++ J),q ∈ W ∨ S.lvl < q.l) :
  ∃ v u F1' F2' J',ao2 f S S' (aA2 as1) = some (aA2 v,u) ∧ AtAs (S.after u) outs args F1' ∧ AtAs (S.after u) res v F2' ∧ aI6 (S.after u) J' ∧ Left S u W (F1' ++ (F2' ++ J')):=by
 obtain ⟨A,hA⟩ : ∃ A,A = F1 ++ (F2 ++ J):=⟨_,rfl⟩
 rw [← hA] at hd hc hs
 obtain ⟨w1,w2,w3⟩:=hin.reg (l:=S.lvl) hki
 have a3:=h1.slots (l:=S.lvl)
 obtain ⟨b1,b2,b3⟩:=h2.reg (l:=S.lvl) hkr
 have c3:=h3.reg (l:=S.lvl)
 have hreg : ∀ q ∈ A,bK6 S' S.lvl A q:=fun q hq=>by
  rw [hA] at hq
  rcases List.mem_append.1 hq with hq | hq
  ·exact (a3 q hq).mono fun x hx=>by rw [hA]; exact List.mem_append.2 (.inl hx)
  ·rcases List.mem_append.1 hq with hq | hq
   ·exact (b3 q hq).mono fun x hx=>by rw [hA]; exact List.mem_append.2 (.inr (List.mem_append.2 (.inl hx)))
   ·exact (c3 q hq).mono fun x hx=>by rw [hA]; exact List.mem_append.2 (.inr (List.mem_append.2 (.inr hx)))
 have hdeep : ∀ q ∈ W,∃ s,S.get q = some s ∧ bx5 S S.lvl s ∧ s.deep S.lvl = []:=fun q hq=>by
  obtain ⟨s,k1,k2,k3⟩:=w3 q hq
  refine ⟨s,k1,k2,List.eq_nil_iff_forall_not_mem.2 fun x hx=>?_⟩
  have e1:=hW x (k3 x hx)
  have e2 : S.lvl < x.l:=by
   cases k2 with
   | obj h =>
    obtain ⟨a,ha,hx⟩ : ∃ a,Cx S S.lvl a ∧ x ∈ AV.deep S.lvl a:=by
     clear k1 k3
     rename_i cs
     have : ∀ {cs : List AV},(∀ a ∈ cs,Cx S S.lvl a) → x ∈ AV.an2 S.lvl cs → ∃ a,Cx S S.lvl a ∧ x ∈ AV.deep S.lvl a:=by
      intro cs
      induction cs with
      | nil=>intro _ h; cases h
      | cons a r ih =>
       intro h hx
       simp only [AV.an2,List.mem_append] at hx
       rcases hx with hx | hx
       ·exact ⟨a,h a (List.mem_cons_self ..),hx⟩
       ·exact ih (fun y hy=>h y (List.mem_cons_of_mem _ hy)) hx
     exact this h hx
    exact ha.gt x hx
   | tok=>cases hx
   | map h =>
    obtain ⟨e,he,hx⟩:=List.mem_flatMap.1 hx
    exact (h e he).gt x hx
   | itr=>cases hx
   | row h =>
    have : ∀ {cs : List AV},(∀ a ∈ cs,Cx S S.lvl a) → x ∈ AV.an2 S.lvl cs → ∃ a,Cx S S.lvl a ∧ x ∈ AV.deep S.lvl a:=by
     intro cs
     induction cs with
     | nil=>intro _ h; cases h
     | cons a r ih =>
      intro h hx
      simp only [AV.an2,List.mem_append] at hx
      rcases hx with hx | hx
      ·exact ⟨a,h a (List.mem_cons_self ..),hx⟩
      ·exact ih (fun y hy=>h y (List.mem_cons_of_mem _ hy)) hx
    obtain ⟨a,ha,hx⟩:=this h hx
    exact ha.gt x hx
  omega
 have hargs : args.map (renX S.lvl (fun q=>q)) = args ∧ ∀ ρ,args.map (renX S.lvl ρ) = args:=by
  have : AV.an2 S.lvl args = []:=List.eq_nil_iff_forall_not_mem.2 fun x hx=>by
   have e1:=hW x (w2 x hx)
   have:=bL2 w1 x hx
   omega
  exact ⟨ci8 w1 this,fun ρ=>ci8 w1 this⟩
 have hout : ∀ p,p ∈ S'.outs S.lvl ↔ p ∈ S'.log ∧ p.l ≤ S.lvl:=fun p=>ar8
 have hund : ∀ q,q.l ≤ S.lvl → q ∉ S'.outs S.lvl → S'.get q = S.get q:=fun q hl hn=>hun q hl fun hm=>hn ((hout q).2 ⟨hm,hl⟩)
 -- what is deep
 obtain ⟨D,hD⟩ : ∃ D,D = A.filter fun q=>decide (S.lvl < q.l):=⟨_,rfl⟩
 have memD : ∀ q,q ∈ D ↔ q ∈ A ∧ S.lvl < q.l:=fun q=>by rw [hD,List.mem_filter]; simp
 have gtS : ∀ {s : ae1},bx5 S' S.lvl s → ∀ x ∈ s.deep S.lvl,S.lvl < x.l:=by
  intro s hs x hx
  have lst : ∀ {cs : List AV},(∀ a ∈ cs,Cx S' S.lvl a) → x ∈ AV.an2 S.lvl cs → S.lvl < x.l:=by
   intro cs
   induction cs with
   | nil=>intro _ h; cases h
   | cons a r ih =>
    intro h hx
    simp only [AV.an2,List.mem_append] at hx
    rcases hx with hx | hx
    ·exact (h a (List.mem_cons_self ..)).gt x hx
    ·exact ih (fun y hy=>h y (List.mem_cons_of_mem _ hy)) hx
  cases hs with
  | obj h=>exact lst h hx
  | tok=>cases hx
  | map h =>
   obtain ⟨e,he,hx⟩:=List.mem_flatMap.1 hx
   exact (h e he).gt x hx
  | row h=>exact lst h hx
  | itr=>cases hx
 have outA : ∀ p ∈ S'.outs S.lvl,p ∈ A:=fun p hp=>hc p (hlog p ((hout p).1 hp).1 ((hout p).1 hp).2)
 obtain ⟨u,ρ,R,k1,k2,k3⟩:=handUp_x (f:=f) (S:=S) (S':=S') (v:=aA2 as1) hup (cU7 b1) (fun p hp=>by
   obtain ⟨s,q1,q2,_⟩:=hreg p (outA p hp)
   exact ⟨s,q1,q2⟩) hund (D:=D) (fun d hd=>by
   obtain ⟨e1,e2⟩:=(memD d).1 hd
   obtain ⟨s,q1,q2,q3⟩:=hreg d e1
   exact ⟨e2,s,q1,q2,fun x hx=>(memD x).2 ⟨q3 x hx,gtS q2 x hx⟩⟩) (fun d hd=>by
   rw [b45] at hd
   exact (memD d).2 ⟨by rw [hA]; exact List.mem_append.2 (.inr (List.mem_append.2 (.inl (b2 d hd)))),bL2 b1 d hd⟩) (fun p hp s q1 d hd=>by
   obtain ⟨s',e1,e2,e3⟩:=hreg p (outA p hp)
   rw [q1] at e1; cases e1
   exact (memD d).2 ⟨e3 d hd,gtS e2 d hd⟩)
 -- all that is new and in use is reached
 have hU : ∀ p s,(p.l ≤ S.lvl ∧ p ∈ A ∨ p ∈ R) → S'.get p = some s → ∀ x ∈ s.deep S.lvl,x ∈ R:=fun p s hp hps x hx=>by
  rcases hp with ⟨hp,hpA⟩ | hp
  ·by_cases ho : p ∈ S'.outs S.lvl
   ·exact k3.out p ho s hps x hx
   ·rw [hund p hp ho] at hps
    obtain ⟨s',e1,_,e3⟩:=hdeep p ((hs p hpA).resolve_right (by omega))
    rw [hps] at e1; cases e1
    rw [e3] at hx; cases hx
  ·exact k3.own p hp s hps x hx
 have hf1 : ∀ q ∈ F1,S.lvl < q.l → q ∈ R:=by
  have key : ∀ {os : List OA} {l1 : List AV} {F : List Loc},AtAs S' os l1 F → (∀ q ∈ F,q ∈ A) → (∀ x ∈ AV.an2 S.lvl l1,x ∈ R) → ∀ q ∈ F,S.lvl < q.l → q ∈ R:=by
   intro os l1 F hat hFA hdp
   -- slots above that are not of the region name nothing new here
   have h0 : AtAs S' os l1 F:=hat
   obtain ⟨S2,hS2⟩ : ∃ S2 : AS,S2 = { S' with tab:=S'.tab.filter fun x=>A.contains x.1 }:=⟨_,rfl⟩
   have hget : ∀ p,S2.get p = if p ∈ A then S'.get p else none:=by
    intro p
    rw [hS2]
    show Tab.get (S'.tab.filter fun x=>A.contains x.1) p = _
    have : ∀ t : Tab,Tab.get (t.filter fun x=>A.contains x.1) p = if p ∈ A then Tab.get t p else none:=by
     intro t
     induction t with
     | nil=>simp [Tab.get]
     | cons x r ih =>
      obtain ⟨q,s⟩:=x
      rw [List.filter_cons]
      by_cases hq : q ∈ A
      ·rw [if_pos (List.contains_iff_mem.2 hq)]
       simp only [Tab.get]
       by_cases e : q = p
       ·subst e; simp [hq]
       ·rw [if_neg e,if_neg e]; exact ih
      ·rw [if_neg (fun h=>hq (List.contains_iff_mem.1 h)),ih]
       simp only [Tab.get]
       by_cases e : q = p
       ·subst e; simp [hq]
       ·rw [if_neg e]
    exact this _
   have hat2 : AtAs S2 os l1 F:=hat.local fun q hq=>by rw [hget,if_pos (hFA q hq)]
   exact AtAs.reach (S:=S2) (l:=S.lvl) (R:=R) (fun p s hp hps x hx=>by
    rw [hget] at hps
    split at hps
    ·rename_i hpA
     rcases hp with hp | hp
     ·exact hU p s (.inl ⟨hp,hpA⟩) hps x hx
     ·exact hU p s (.inr hp) hps x hx
    ·cases hps) hat2 hdp
  refine key h1 (fun q hq=>by rw [hA]; exact List.mem_append.2 (.inl hq)) fun x hx=>?_
  have : AV.an2 S.lvl args = []:=List.eq_nil_iff_forall_not_mem.2 fun x hx=>by
   have e1:=hW x (w2 x hx)
   have e2:=bL2 w1 x hx
   omega
  rw [this] at hx; cases hx
 have hf2 : ∀ q ∈ F2,S.lvl < q.l → q ∈ R:=by
  obtain ⟨S2,hS2⟩ : ∃ S2 : AS,S2 = { S' with tab:=S'.tab.filter fun x=>A.contains x.1 }:=⟨_,rfl⟩
  have hget : ∀ p,S2.get p = if p ∈ A then S'.get p else none:=by
   intro p
   rw [hS2]
   show Tab.get (S'.tab.filter fun x=>A.contains x.1) p = _
   have : ∀ t : Tab,Tab.get (t.filter fun x=>A.contains x.1) p = if p ∈ A then Tab.get t p else none:=by
    intro t
    induction t with
    | nil=>simp [Tab.get]
    | cons x r ih =>
     obtain ⟨q,s⟩:=x
     rw [List.filter_cons]
     by_cases hq : q ∈ A
     ·rw [if_pos (List.contains_iff_mem.2 hq)]
      simp only [Tab.get]
      by_cases e : q = p
      ·subst e; simp [hq]
      ·rw [if_neg e,if_neg e]; exact ih
     ·rw [if_neg (fun h=>hq (List.contains_iff_mem.1 h)),ih]
      simp only [Tab.get]
      by_cases e : q = p
      ·subst e; simp [hq]
      ·rw [if_neg e]
   exact this _
  have hat2 : AtAs S2 res as1 F2:=h2.local fun q hq=>by
   rw [hget,if_pos (by rw [hA]; exact List.mem_append.2 (.inr (List.mem_append.2 (.inl hq))))]
  exact AtAs.reach (S:=S2) (l:=S.lvl) (R:=R) (fun p s hp hps x hx=>by
   rw [hget] at hps
   split at hps
   ·rename_i hpA
    rcases hp with hp | hp
    ·exact hU p s (.inl ⟨hp,hpA⟩) hps x hx
    ·exact hU p s (.inr hp) hps x hx
   ·cases hps) hat2 (fun x hx=>k3.val x (by rw [b45]; exact hx))
 have hfr:=au6 k1
 have hlogu : ∀ q ∈ ulog u,q ∈ W ∨ New S q:=fun q hq=>by
  rcases k3.log q hq with h | ⟨p,hp,rfl⟩
  ·exact .inl (hlog q ((hout q).1 h).1 ((hout q).1 h).2)
  ·obtain ⟨e1,e2,e3,e4,_⟩:=k3.new p hp
   exact .inr ⟨e1,e2,e3,e4⟩
 have hturn : ∀ q ∈ A,(S.lvl < q.l → q ∈ R) → ∀ s,S'.get q = some s → (S.after u).get (rL S.lvl ρ q) = some (bx4 S.lvl ρ (rG S.lvl q s.gen) s):=fun q hq hr s hqs=>by
  unfold rL rG
  by_cases hl : q.l ≤ S.lvl
  ·rw [if_pos hl,if_pos hl]
   by_cases ho : q ∈ S'.outs S.lvl
   ·exact k3.outs q s ho hqs
   ·rw [hund q hl ho] at hqs
    obtain ⟨s',e1,e2,e3⟩:=hdeep q ((hs q hq).resolve_right (by omega))
    rw [hqs] at e1; cases e1
    rw [renSX_id e2 e3,hfr q fun hu=>?_]
    ·exact hqs
    ·rcases k3.log q hu with h | ⟨p,hp,rfl⟩
     ·exact ho h
     ·obtain ⟨_,_,_,e4,_⟩:=k3.new p hp
      rw [hqs] at e4; cases e4
  ·rw [if_neg hl,if_neg hl]
   obtain ⟨_,_,_,_,e5⟩:=k3.new q (hr (by omega))
   exact e5 s hqs
 have sub1 : ∀ q ∈ F1,q ∈ A:=fun q hq=>by rw [hA]; exact List.mem_append.2 (.inl hq)
 have sub2 : ∀ q ∈ F2,q ∈ A:=fun q hq=>by rw [hA]; exact List.mem_append.2 (.inr (List.mem_append.2 (.inl hq)))
 have subJ : ∀ q ∈ J,q ∈ A:=fun q hq=>by rw [hA]; exact List.mem_append.2 (.inr (List.mem_append.2 (.inr hq)))
 obtain ⟨J0,hJ0⟩ : ∃ J0,J0 = J.filter fun q=>decide (q.l ≤ S.lvl):=⟨_,rfl⟩
 have memJ : ∀ q,q ∈ J0 ↔ q ∈ J ∧ q.l ≤ S.lvl:=fun q=>by rw [hJ0,List.mem_filter]; simp
 obtain ⟨B,hB⟩ : ∃ B,B = F1 ++ (F2 ++ J0):=⟨_,rfl⟩
 have hBA : ∀ q ∈ B,q ∈ A ∧ (S.lvl < q.l → q ∈ R):=fun q hq=>by
  rw [hB] at hq
  rcases List.mem_append.1 hq with hq | hq
  ·exact ⟨sub1 q hq,hf1 q hq⟩
  ·rcases List.mem_append.1 hq with hq | hq
   ·exact ⟨sub2 q hq,hf2 q hq⟩
   ·obtain ⟨e1,e2⟩:=(memJ q).1 hq
    exact ⟨subJ q e1,fun h=>by omega⟩
 have hBd : B.Nodup:=by
  rw [hB]
  rw [hA] at hd
  have hd1:=List.nodup_append.1 hd
  have hd2:=List.nodup_append.1 hd1.2.1
  rw [List.nodup_append,List.nodup_append]
  refine ⟨hd1.1,⟨hd2.1,by rw [hJ0]; exact hd2.2.1.filter _,fun a ha b hb=>hd2.2.2 a ha b ((memJ b).1 hb).1⟩,fun a ha b hb=>?_⟩
  refine hd1.2.2 a ha b ?_
  rcases List.mem_append.1 hb with hb | hb
  ·exact List.mem_append.2 (.inl hb)
  ·exact List.mem_append.2 (.inr ((memJ b).1 hb).1)
 have hx1 : AtAs (S.after u) outs args (F1.map (rL S.lvl ρ)):=by
  have:=h1.ren (l:=S.lvl) (ρ:=ρ) (S':=S.after u) fun q hq=>hturn q (sub1 q hq) (hf1 q hq)
  rw [hargs.2 ρ] at this
  exact this
 have hx2 : AtAs (S.after u) res (as1.map (renX S.lvl ρ)) (F2.map (rL S.lvl ρ)):=h2.ren (l:=S.lvl) (ρ:=ρ) (S':=S.after u) fun q hq=>hturn q (sub2 q hq) (hf2 q hq)
 have hx3 : aI6 (S.after u) (J0.map (rL S.lvl ρ)):=aI6.ren (S:=S') (fun q hq=>h3 q ((memJ q).1 hq).1) fun q hq=>hturn q (subJ q ((memJ q).1 hq).1) fun h=>by
  have:=((memJ q).1 hq).2
  omega
 refine ⟨as1.map (renX S.lvl ρ),u,F1.map (rL S.lvl ρ),F2.map (rL S.lvl ρ),J0.map (rL S.lvl ρ),?_,hx1,hx2,hx3,?_⟩
 ·rw [k1,cs5 b1]
 ·have hmap : F1.map (rL S.lvl ρ) ++ (F2.map (rL S.lvl ρ) ++ J0.map (rL S.lvl ρ)) = B.map (rL S.lvl ρ):=by rw [hB,List.map_append,List.map_append]
  rw [hmap]
  refine ⟨k3.lvl,k3.fn,k3.dfr,bU9 hBd fun x hx y hy e=>?_,fun q hq=>?_,fun q hq=>?_,hlogu,hfr⟩
  ·obtain ⟨x1,x2⟩:=hBA x hx
   obtain ⟨y1,y2⟩:=hBA y hy
   have up : ∀ z w,z.l ≤ S.lvl → z ∈ A → S.lvl < w.l → w ∈ R → z ≠ ρ w:=fun z w hz hzA hw hwR e=>by
    obtain ⟨s,e1,_⟩:=w3 z ((hs z hzA).resolve_right (by omega))
    obtain ⟨_,_,_,e4,_⟩:=k3.new w hwR
    rw [← e,e1] at e4; cases e4
   unfold rL at e
   by_cases hl : x.l ≤ S.lvl
   ·rw [if_pos hl] at e
    by_cases hl' : y.l ≤ S.lvl
    ·rw [if_pos hl'] at e; exact e
    ·rw [if_neg hl'] at e
     exact absurd e (up x y hl x1 (by omega) (y2 (by omega)))
   ·rw [if_neg hl] at e
    by_cases hl' : y.l ≤ S.lvl
    ·rw [if_pos hl'] at e
     exact absurd e.symm (up y x hl' y1 (by omega) (x2 (by omega)))
    ·rw [if_neg hl'] at e
     exact k3.inj x (x2 (by omega)) y (y2 (by omega)) e
  ·refine List.mem_map.2 ⟨q,?_,by simp [rL,hW q hq]⟩
   have:=hc q hq
   rw [hA] at this
   rw [hB]
   rcases List.mem_append.1 this with h | h
   ·exact List.mem_append.2 (.inl h)
   ·rcases List.mem_append.1 h with h | h
    ·exact List.mem_append.2 (.inr (List.mem_append.2 (.inl h)))
    ·exact List.mem_append.2 (.inr (List.mem_append.2 (.inr ((memJ q).2 ⟨h,hW q hq⟩))))
  ·obtain ⟨p,hp,rfl⟩:=List.mem_map.1 hq
   obtain ⟨p1,p2⟩:=hBA p hp
   unfold rL
   by_cases hl : p.l ≤ S.lvl
   ·rw [if_pos hl]
    exact .inl ((hs p p1).resolve_right (by omega))
   ·rw [if_neg hl]
    obtain ⟨e1,e2,e3,e4,_⟩:=k3.new p (p2 (by omega))
    exact .inr ⟨e1,e2,e3,e4⟩
end Go.Proofs.YtbinfgmdamlkbaaGreatDoor
