/-
  MachShows: any text, shown, is the document's; no byte of it is outside 20 to 7E. No condition of ours.
-/
import Derived.Test.YtjdccpmbaobpdaaGreatDoorCards
import Derived.Test.YtjdccpmbaobpdaaGreatDoorTie
import Derived.Test.YtjdccpmbaobpdaaGreatDoorGlue
import Derived.Test.YtjdccpmbaobpdaaGreatDoorAwk19
import Derived.Test.YtjdccpmbaobpdaaGreatDoorFmt
import Derived.Test.YtjdccpmbaobpdaaGreatDoorA2
import Derived.Test.YtjdccpmbaobpdaaGreatDoorMP
import Derived.Test.YtjdccpmbaobpdaaGreatDoorLawRow
import Derived.Deep.DeepHandedRow
import Derived.Lib.LaidTab
import Derived.SizedLaws
namespace Go.Proofs.YtjdccpmbaobpdaaGreatDoor
open Go.ChangeShapes Go.WideShapes Go.ChangeAt Go.RowKit Go.Deep

theorem own : ownKnob Tryz.prog.godebug = none := by kernel_rfl
theorem laidOut : laidOutB Tryz.prog = true := by kernel_rfl

theorem bldTb : (Tryz.prog.info? 47).any (fun i => i.size != 0) = true := by kernel_rfl
theorem bldFacts : BFacts Tryz.prog 44 47 172 4 65 where
  up := by kernel_rfl
  uu := by kernel_rfl
  ib := by
    have h := bldTb
    cases hi : Tryz.prog.info? 47 with
    | none => rw [hi] at h; cases h
    | some i => rw [hi] at h; exact ⟨i, rfl, by simpa using h⟩
  ne := ⟨_, Tryz.func65, by kernel_rfl⟩
  same := rfl
  nil := fun T S => by kernel_rfl
instance codeAll : CodeAll Tryz.prog where
  mach_Shown := by kernel_rfl
  ref06_Digits := by kernel_rfl
  ref19_Shown := by kernel_rfl
  law19_MachShows := by kernel_rfl
  bld := ⟨bldFacts, by kernel_rfl, by kernel_rfl, by kernel_rfl, rfl, rfl, rfl, rfl, rfl, rfl, rfl, rfl, by kernel_rfl, rfl⟩
  ext_law19_awake r h := by
    cases h
    exact ⟨_, callT_some.2 ⟨400, awake19_run⟩, rfl⟩
  ext_strconv_FormatInt := fmt_run

mutual
/-- The numbers that a datum lists. -/
def cellsOfD : DataW Unit → List Value
  | .lit (.int k n) => [.int k n]
  | .agg l => cellsOfDs l
  | _ => []
def cellsOfDs : List (DataW Unit) → List Value
  | [] => []
  | d :: r => cellsOfD d ++ cellsOfDs r
end
def putCells (cs : Array Value) : Obj → Obj
  | .cells _ t frozen => .cells cs t frozen
  | o => o
/-- The settled world, the library's tables laid. -/
noncomputable def laidWorld (os : Os) : World :=
  { World.holding Tryz.prog os ⟨#[], #[], []⟩ with heap := (((((World.holding Tryz.prog os ⟨#[], #[], []⟩).heap.modify 4 (putCells (cellsOfD Go.Pinned.utf8First).toArray)).modify 5 (putCells (cellsOfD Rows.laid_unicode_utf8_acceptRanges).toArray)).modify 2 (putCells (cellsOfD Rows.laid_math_bits_deBruijn32tab).toArray)).modify 3 (putCells (cellsOfD Rows.laid_math_bits_deBruijn64tab).toArray)).modify 0 (putCells (cellsOfD Rows.laid_internal_strconv_uint64pow10).toArray) }

def deB : List Int := [0, 1, 56, 2, 57, 49, 28, 3, 61, 58, 42, 50, 38, 29, 17, 4, 62, 47, 59, 36, 45, 43, 51, 22, 53, 39, 33, 30, 24, 18, 12, 5, 63, 55, 48, 27, 60, 41, 37, 16, 46, 35, 44, 21, 52, 32, 23, 11, 54, 26, 40, 15, 34, 20, 31, 10, 25, 14, 19, 9, 13, 8, 7, 6]
theorem deB_eq : (Rows.laid_math_bits_deBruijn64tab : DataW Unit) = Go.Lib.tabData .u8 deB := by kernel_rfl

namespace machShows
theorem tabs (W : World) (h : laidMet Tryz.prog Rows.machShowsRow.laid W) : ∀ x ∈ Cfg.tabs, W.cell? ⟨x.1, x.2.1, none⟩ = some x.2.2 := by
  obtain ⟨ps, ⟨_, _, _, _, _, q1, _, _, _, _, ⟨g, t, cs, fuel, p, q, hg, ht, hvar, hd, _, _⟩, _⟩, _⟩ := h
  have hg' : Tryz.prog.globalNamed "math/bits.deBruijn64tab" = some 3 := by kernel_rfl
  obtain rfl := Option.some.inj (hg'.symm.trans hg)
  have ht' : (Tryz.prog.globals[3]?).map (·.type) = some 324 := by kernel_rfl
  obtain rfl := Option.some.inj (ht'.symm.trans ht)
  rw [deB_eq] at hd
  have hT : Go.Lib.TabIs Tryz.prog W "math/bits.deBruijn64tab" .u8 deB := by
    unfold Go.Lib.TabIs
    rw [hvar, ← Go.Lib.cells_of_tab (e := 5) (n := 64) (by kernel_rfl) (by kernel_rfl) (by kernel_rfl) (by kernel_rfl) hd]
  have hc := hT.cell hg' 7 (by decide)
  intro x hx
  have hx' : x ∈ [(3, 7, Value.int .u8 3)] := hx
  rw [List.mem_singleton] at hx'
  subst hx'
  exact hc

theorem runs (s : ByteArray) (W : World) (ht : ∀ x ∈ Cfg.tabs, W.cell? ⟨x.1, x.2.1, none⟩ = some x.2.2) :
    Calls Tryz.prog F.law19_MachShows #[.string s] W fun e W' => e = .returned (.bool true) ∧ Below W.heap.size W W' := by
  obtain ⟨v, h1, h2⟩ := ok_law19_MachShows (P := Tryz.prog) (toL s) true (machShows_eq _) 0 [.lit (.string (bs (toL s)))] ⟨_, _, rfl, rfl, rfl⟩ .bare
  obtain rfl : v = .lit (.bool true) := h2
  rw [bs_toL] at h1
  exact calls_true cfgOk givenOk follows_mixed h1 ht (CRel.cons (.lit _) (CRel.nil _))

set_option maxRecDepth 100000 in
theorem contract (H : Type) (enc : TypeId × Value → H) (W : World) (base : Nat) (args : Array Value) (ds gs : List (DataW H)) (before : List MemPlace)
    (hval : ∀ (j : Nat) t v, Tryz.f3.params[j]? = some t → args[j]? = some v → Value.okWide Tryz.prog W .any base t v)
    (hW : DataW.Whole enc Tryz.prog Tryz.f3.params.toList Rows.machShowsSpec.vars false W args.toList ds gs before) (hlaid : laidMet Tryz.prog Rows.machShowsRow.laid W) :
    Calls Tryz.prog 3 args W fun e W' => ∃ v, e = .returned v ∧ Rows.machShowsSpec.post enc Tryz.prog Tryz.f3 false true false false W args v W' := by
  have hW' := hW
  obtain ⟨p, q, hA0, hV, rfl, hfz, hnd⟩ := hW
  have hA : DataW.TrodAll enc Tryz.prog W 0 (fun _ => true) true Tryz.f3.params.toList args.toList ds p := hA0
  rw [Tryz.params3] at hA hval
  obtain ⟨v0, vs0, d0, ds0, p0, q0, hargs, rfl, rfl, h0, r0⟩ := trodAll_cons hA
  obtain ⟨rfl, rfl, rfl⟩ := trodAll_nil r0
  obtain rfl : args = #[v0] := by cases args; simp_all
  obtain ⟨rfl, rfl⟩ := trodVars_none hV
  obtain ⟨c0, rfl⟩ := okWide_string Tryz.underlying9 (hval 0 9 v0 rfl rfl)
  clear hA0
  refine (runs c0 W (tabs W hlaid)).mono fun e W' ⟨he, hb⟩ => ?_
  subst he
  exact ⟨_, rfl, post_true laidOut (by kernel_rfl) rfl Tryz.underlying4 rfl (fun x hx => by match x, hx with | [a], _ => rfl) hW' hb⟩

def wS : Value := .string ByteArray.empty
theorem laid_met (os : Os) : laidMet Tryz.prog Rows.machShowsRow.laid ((laidWorld os).forCall (fun _ _ => 0) ⟨#[], #[wS], []⟩).memory :=
  laidMet_of_run' 8 (by kernel_rfl) (by kernel_rfl)
theorem reads (os : Os) {H : Type} (enc : TypeId × Value → H) : ∃ ds places, DataW.whole enc Tryz.prog ((laidWorld os).forCall (fun _ _ => 0) ⟨#[], #[wS], []⟩).memory Tryz.f3.params.toList Rows.machShowsSpec.vars false #[wS].toList 8 = some (ds, [], places) :=
  ⟨[.lit (.string [])], [], by kernel_rfl⟩

set_option maxRecDepth 100000 in
theorem lifted (os : Os) (started : os.Started) (H : Type) (enc : TypeId × Value → H) (F : Stop.Interp) :
    ReturnsInHanded {} Tryz.checked os 3 .any ((OpenSpec.ofChange Rows.machShowsSpec).preRow enc Tryz.prog Tryz.f3 Rows.machShowsRow.domain false Rows.machShowsRow.laid) (((OpenSpec.ofChange Rows.machShowsSpec).at F).post enc Tryz.prog Tryz.f3 false true false false) := by
  obtain ⟨ds0, places, hx⟩ := reads os enc
  refine returnsInHanded_of_row (C := Tryz.checked) (s := OpenSpec.ofChange Rows.machShowsSpec) own started (by kernel_rfl) Tryz.func3
    (witness_row_at (enc := enc) (C := Tryz.checked) false (laidWorld os) #[wS] rfl (by kernel_rfl) (by kernel_rfl) (by kernel_rfl)
      (OpenSpec.preRow_of_cond 8 hx (by kernel_rfl) (fun k hk => by cases hk) (by kernel_rfl) (laid_met os))) ?_
  intro W base args ds gs before hval hW _ _ _ hlaid hsh _
  exact contract H enc W base args ds gs before hval hW hlaid

end machShows
end Go.Proofs.YtjdccpmbaobpdaaGreatDoor
