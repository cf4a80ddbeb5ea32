/-
  MachSames: whether any two states are the same is told part by part. No condition of ours.
-/
import Derived.Test.YtaiohgabpbgkdaaGreatDoorCards
import Derived.Test.YtaiohgabpbgkdaaGreatDoorTie
import Derived.Test.YtaiohgabpbgkdaaGreatDoorGlue
import Derived.Test.YtaiohgabpbgkdaaGreatDoorAwk19
import Derived.Test.YtaiohgabpbgkdaaGreatDoorA1
import Derived.Test.YtaiohgabpbgkdaaGreatDoorMP
import Derived.Test.YtaiohgabpbgkdaaGreatDoorLawRow
import Derived.Deep.DeepHandedRow
import Derived.Lib.LaidTab
import Derived.SizedLaws
namespace Go.Proofs.YtaiohgabpbgkdaaGreatDoor
open Go.ChangeShapes Go.WideShapes Go.ChangeAt Go.RowKit Go.Deep

theorem own : ownKnob Tryz.prog.godebug = none := by kernel_rfl
theorem laidOut : laidOutB Tryz.prog = true := by kernel_rfl

instance codeAll : CodeAll Tryz.prog where
  slices_Equal_int_int := by kernel_rfl
  slices_Equal_mach_Item_mach_Item := by kernel_rfl
  mach_Same := by kernel_rfl
  law19_stated := by kernel_rfl
  ref19_Same := by kernel_rfl
  law19_MachSames := by kernel_rfl
  ext_law19_awake r h := by
    cases h
    exact ⟨_, callT_some.2 ⟨400, awake19_run⟩, rfl⟩

mutual
/-- The numbers that a datum lists. -/
def cellsOfD : DataW Unit → List Value
  | .lit (.int k n) => [.int k n]
  | .agg l => cellsOfDs l
  | _ => []
def cellsOfDs : List (DataW Unit) → List Value
  | [] => []
  | d :: r => cellsOfD d ++ cellsOfDs r
end
def putCells (cs : Array Value) : Obj → Obj
  | .cells _ t frozen => .cells cs t frozen
  | o => o
/-- The settled world, the library's tables laid. -/
noncomputable def laidWorld (os : Os) : World :=
  { World.holding Tryz.prog os ⟨#[], #[], []⟩ with heap := (((((World.holding Tryz.prog os ⟨#[], #[], []⟩).heap.modify 4 (putCells (cellsOfD Go.Pinned.utf8First).toArray)).modify 5 (putCells (cellsOfD Rows.laid_unicode_utf8_acceptRanges).toArray)).modify 2 (putCells (cellsOfD Rows.laid_math_bits_deBruijn32tab).toArray)).modify 3 (putCells (cellsOfD Rows.laid_math_bits_deBruijn64tab).toArray)).modify 1 (putCells (cellsOfD Rows.laid_internal_strconv_uint64pow10).toArray) }

/-- The shape of a state that is given. -/
def shI : Sh := .cons .bool (.cons .str .nil)
def shS : Sh := .cons (.int .i64) (.cons .str (.cons .str (.cons .bool (.cons (.int .i64) (.cons (.seq (.int .i64)) (.cons (.seq shI) (.cons .bool .nil)))))))
def toI (y : shI.Ty) : D.ref19_I := ⟨y.1, y.2.1⟩
def toS (y : shS.Ty) : D.ref19_S := ⟨y.1, y.2.1, y.2.2.1, y.2.2.2.1, y.2.2.2.2.1, y.2.2.2.2.2.1.1, y.2.2.2.2.2.2.1.1.map toI, y.2.2.2.2.2.2.2.1⟩
theorem relC_sl {sz : Nat} {es : List (List V)} {as1 : List (List AV)} (k : Option (Option Addr)) (h : RelCLL es as1) : RelC (.sl sz es) (slV sz as1 k) := by
  rcases sl_cases sz as1 k with e | ⟨e, a, e'⟩
  · rw [e]; exact RelC.list rfl h
  · subst e
    rw [e']
    cases es with
    | nil => exact RelC.nil _ _
    | cons => unfold RelCLL at h; obtain ⟨_, _, h, _⟩ := h; cases h
theorem relCLL_map {α : Type} (f : α → List V) (g : α → List AV) (h : ∀ x, RelCL (f x) (g x)) : ∀ l : List α, RelCLL (l.map f) (l.map g)
  | [] => by unfold RelCLL; rfl
  | x :: r => by
    rw [List.map_cons]
    unfold RelCLL
    exact ⟨_, _, rfl, h x, relCLL_map f g h r⟩
theorem relCL_I (y : shI.Ty) : RelCL (c_ref19_I (toI y)) (shI.avs y) := cz_cons cz_bool (cz_cons cz_str cz_nil)
theorem relCL_S (y : shS.Ty) : RelCL (c_ref19_S (toS y)) (shS.avs y) := by
  refine cz_cons cz_int (cz_cons cz_str (cz_cons cz_str (cz_cons cz_bool (cz_cons cz_int (cz_cons ?_ (cz_cons ?_ (cz_cons cz_bool cz_nil)))))))
  · exact relC_sl _ (relCLL_map _ _ (fun n => cz_cons cz_int cz_nil) _)
  · refine relC_sl _ ?_
    show RelCLL ((List.map toI _).map c_ref19_I) _
    rw [List.map_map]
    exact relCLL_map _ _ relCL_I _

/-- A struct that is given. -/
theorem open_struct {P : Program} {w : World} {H : Type} {enc : TypeId × Value → H} {held : Bool} (s : Sh) {t : TypeId} {n : Nat} {cs : Array Value} {x : DataW H × List MemPlace} (hs : s.ok P t = true) (h : DataW.trod enc P w 0 (fun _ => true) held n t cs.toList = some x) :
    ∃ y : s.Ty, VRel (Gh.start w) (.agg (s.avs y)) (.agg cs) := by
  obtain ⟨y, h1, _⟩ := s.open hs h
  exact ⟨y, VRel.agg _ cs.toList h1.1 h1.2⟩

namespace machSames
theorem runs (a b : shS.Ty) (W : World) (args' : Array Value) (ha : CRel (Gh.start W) [.agg (shS.avs a), .agg (shS.avs b)] args'.toList) :
    Calls Tryz.prog F.law19_MachSames args' W fun e W' => e = .returned (.bool true) ∧ Below W.heap.size W W' := by
  obtain ⟨v, h1, h2⟩ := ok_law19_MachSames (P := Tryz.prog) (toS a) (toS b) true (machSames_eq _ _) 0 [.agg (shS.avs a), .agg (shS.avs b)] ⟨_, _, rfl, ⟨_, rfl, (relCL_S a).toS⟩, _, _, rfl, ⟨_, rfl, (relCL_S b).toS⟩, rfl⟩ .bare
  obtain rfl : v = .lit (.bool true) := h2
  exact calls_true cfgOk givenOk follows_mixed h1 ha

set_option maxRecDepth 100000 in
theorem contract (H : Type) (enc : TypeId × Value → H) (W : World) (base : Nat) (args : Array Value) (ds gs : List (DataW H)) (before : List MemPlace)
    (hval : ∀ (j : Nat) t v, Tryz.f7.params[j]? = some t → args[j]? = some v → Value.okWide Tryz.prog W .any base t v)
    (hW : DataW.Whole enc Tryz.prog Tryz.f7.params.toList Rows.machSamesSpec.vars false W args.toList ds gs before) :
    Calls Tryz.prog 7 args W fun e W' => ∃ v, e = .returned v ∧ Rows.machSamesSpec.post enc Tryz.prog Tryz.f7 false true false false W args v W' := by
  have hW' := hW
  obtain ⟨p, q, hA0, hV, rfl, hfz, hnd⟩ := hW
  have hA : DataW.TrodAll enc Tryz.prog W 0 (fun _ => true) true Tryz.f7.params.toList args.toList ds p := hA0
  rw [Tryz.params7] at hA hval
  obtain ⟨v0, vs0, d0, ds0, p0, q0, hargs, rfl, rfl, h0, r0⟩ := trodAll_cons hA
  obtain ⟨v1, vs1, d1, ds1, p1, q1, rfl, rfl, rfl, h1, r1⟩ := trodAll_cons r0
  obtain ⟨rfl, rfl, rfl⟩ := trodAll_nil r1
  obtain rfl : args = #[v0, v1] := by cases args; simp_all
  obtain ⟨rfl, rfl⟩ := trodVars_none hV
  obtain ⟨c0, rfl, _⟩ := okWide_struct Tryz.underlying112 (hval 0 112 v0 rfl rfl)
  obtain ⟨c1, rfl, _⟩ := okWide_struct Tryz.underlying112 (hval 1 112 v1 rfl rfl)
  obtain ⟨fuel, h0⟩ := h0
  obtain ⟨fuel1, h1⟩ := h1
  obtain ⟨y0, e0⟩ := open_struct shS (by kernel_rfl) h0
  obtain ⟨y1, e1⟩ := open_struct shS (by kernel_rfl) h1
  clear hA0
  refine (runs y0 y1 W #[.agg c0, .agg c1] (CRel.cons e0 (CRel.cons e1 (CRel.nil _)))).mono fun e W' ⟨he, hb⟩ => ?_
  subst he
  exact ⟨_, rfl, post_true laidOut (by kernel_rfl) rfl Tryz.underlying4 rfl (fun x hx => by match x, hx with | [a, b], _ => rfl) hW' hb⟩

def wS : Value := .agg #[.int .i64 0, .string ByteArray.empty, .string ByteArray.empty, .bool false, .int .i64 0, .slice none 0 0, .slice none 0 0, .bool false]
theorem laid_met (os : Os) : laidMet Tryz.prog Rows.machSamesRow.laid ((laidWorld os).forCall (fun _ _ => 0) ⟨#[], #[wS, wS], []⟩).memory :=
  laidMet_of_run' 8 (by kernel_rfl) (by kernel_rfl)
theorem reads (os : Os) {H : Type} (enc : TypeId × Value → H) : ∃ ds places, DataW.whole enc Tryz.prog ((laidWorld os).forCall (fun _ _ => 0) ⟨#[], #[wS, wS], []⟩).memory Tryz.f7.params.toList Rows.machSamesSpec.vars false #[wS, wS].toList 8 = some (ds, [], places) :=
  ⟨[.agg [.lit (.int .i64 0), .lit (.string []), .lit (.string []), .lit (.bool false), .lit (.int .i64 0), .nil, .nil, .lit (.bool false)], .agg [.lit (.int .i64 0), .lit (.string []), .lit (.string []), .lit (.bool false), .lit (.int .i64 0), .nil, .nil, .lit (.bool false)]], [], by kernel_rfl⟩

set_option maxRecDepth 100000 in
theorem lifted (os : Os) (started : os.Started) (H : Type) (enc : TypeId × Value → H) (F : Stop.Interp) :
    ReturnsInHanded {} Tryz.checked os 7 .any ((OpenSpec.ofChange Rows.machSamesSpec).preRow enc Tryz.prog Tryz.f7 Rows.machSamesRow.domain false Rows.machSamesRow.laid) (((OpenSpec.ofChange Rows.machSamesSpec).at F).post enc Tryz.prog Tryz.f7 false true false false) := by
  obtain ⟨ds0, places, hx⟩ := reads os enc
  refine returnsInHanded_of_row (C := Tryz.checked) (s := OpenSpec.ofChange Rows.machSamesSpec) own started (by kernel_rfl) Tryz.func7
    (witness_row_at (enc := enc) (C := Tryz.checked) false (laidWorld os) #[wS, wS] rfl (by kernel_rfl) (by kernel_rfl) (by kernel_rfl)
      (OpenSpec.preRow_of_cond 8 hx (by kernel_rfl) (fun k hk => by cases hk) (by kernel_rfl) (laid_met os))) ?_
  intro W base args ds gs before hval hW _ _ _ _ hsh _
  exact contract H enc W base args ds gs before hval hW

end machSames
end Go.Proofs.YtaiohgabpbgkdaaGreatDoor
