/-
  The code is these functions: written by a program.
-/
import Derived.Test.YtaiohgabpbgkdaaGreatDoorGD
import Derived.Test.YtaiohgabpbgkdaaGreatDoorGK
namespace Go.Proofs.YtaiohgabpbgkdaaGreatDoor
open Go.RowKit

def slices_Equal_int_int_l0_N (L : Nat) (p0 : (List Int)) (p1 : (List Int)) (p12 : Int) (v0 : AV) (v1 : AV)  : Int → BT → AS → Prop := fun p13 T S => Ag [(0, v0), (1, v1), (12, .lit (.int .i64 p12)), (13, .lit (.int .i64 p13))] T ∧ StA S L F.slices_Equal_int_int []
def slices_Equal_int_int_l0_B (L : Nat) (p0 : (List Int)) (p1 : (List Int)) (p12 : Int) (v0 : AV) (v1 : AV)  : Unit → BT → AS → Prop := fun _ T S => Ag [] T ∧ StA S L F.slices_Equal_int_int []
set_option maxRecDepth 100000 in
theorem slices_Equal_int_int_l0_ok {P : Program} [hc : CodeAll P] {L : Nat} (p0 : (List Int)) (p1 : (List Int)) (p12 : Int) {v0 : AV} {v1 : AV} (r0 : RelC (.sl 1 (p0.map (c_int .i64))) v0) (r1 : RelC (.sl 1 (p1.map (c_int .i64))) v1) : ∀ (s : Int) (c : Ctl Int Unit Bool), slices_Equal_int_int_l0 p0 p1 p12 s = some c → ∀ T S, slices_Equal_int_int_l0_N L p0 p1 p12 v0 v1 s T S → RunB P K.slices_Equal_int_int_p6 T S (LPost 0 (slices_Equal_int_int_l0_N L p0 p1 p12 v0 v1) (slices_Equal_int_int_l0_B L p0 p1 p12 v0 v1) (fun r => RetPost L K.slices_Equal_int_int.res [.bool r]) c) := by
  rintro p13 c h T S ⟨hT, hS⟩
  unfold slices_Equal_int_int_l0 at h
  refine (show GC P K.slices_Equal_int_int_p6 L F.slices_Equal_int_int [(0, v0), (1, v1), (12, .lit (.int .i64 p12)), (13, .lit (.int .i64 p13))] [] (LPost 0 (slices_Equal_int_int_l0_N L p0 p1 p12 v0 v1) (slices_Equal_int_int_l0_B L p0 p1 p12 v0 v1) (fun r => RetPost L K.slices_Equal_int_int.res [.bool r]) c) from ?_) T S hT hS
  refine g_seq ?_
  refine g_ops ?_
  refine g_val (s_ib rfl rfl rfl) ?_
  refine g_end ?_
  refine g_thn ?_
  refine g_seq ?_
  by_cases h_2 : p13 < p12
  · replace h := iteT h h_2
    refine g_cT rfl (decide_eq_true h_2) ?_
    refine g_skip ?_
    refine g_thn ?_
    refine g_seq ?_
    refine g_block ?_
    refine g_seq ?_
    refine g_ops ?_
    refine g_val (s_mv rfl) ?_
    refine g_val (s_mv rfl) ?_
    refine g_end ?_
    refine g_thn ?_
    refine g_seq ?_
    refine g_draw ?_
    refine g_val (s_mv rfl) ?_
    refine g_val (s_mv rfl) ?_
    obtain ⟨x_5, e_6, h⟩ := bindI h
    refine g_stp (s_ia (c := (c_int .i64)) rfl r0.toS rfl e_6) ?_
    rintro _ ⟨c_3, rfl, r_4⟩
    refine g_val (s_ldcL (v := .int .i64 x_5) (a := .lit (.int .i64 x_5)) rfl r_4 rfl (fun _ => relC_int)) ?_
    refine g_val (s_mv rfl) ?_
    refine g_val (s_mv rfl) ?_
    obtain ⟨x_9, e_10, h⟩ := bindI h
    refine g_stp (s_ia (c := (c_int .i64)) rfl r1.toS rfl e_10) ?_
    rintro _ ⟨c_7, rfl, r_8⟩
    refine g_val (s_ldcL (v := .int .i64 x_9) (a := .lit (.int .i64 x_9)) rfl r_8 rfl (fun _ => relC_int)) ?_
    refine g_val (s_ib rfl rfl rfl) ?_
    refine g_endD rfl ?_
    refine g_thn ?_
    by_cases h_11 : x_5 ≠ x_9
    · replace h := iteT h h_11
      refine g_cT rfl (decide_eq_true h_11) ?_
      refine g_seq ?_
      refine g_ops ?_
      refine g_val (s_mv rfl) ?_
      refine g_end ?_
      refine g_thn ?_
      refine g_ret ?_
      refine g_blkR ?_
      refine g_thnR ?_
      have hh := Option.some.inj h
      subst hh
      exact fun T S hT hS => ⟨rfl, (g_res (rs := [.bool false]) (.t rfl rfl .nil)) T S hT hS⟩
    · replace h := iteF h h_11
      refine g_cF rfl (decide_eq_false h_11) ?_
      refine g_skip ?_
      refine g_blkN ?_
      refine g_thn ?_
      refine g_ops ?_
      refine g_val (s_ib rfl rfl rfl) ?_
      refine g_val (s_mv rfl) ?_
      refine g_end ?_
      have hh := Option.some.inj h
      subst hh
      exact fun T S hT hS => ⟨rfl, ⟨hT.sub (subE.cons rfl (subE.cons rfl (subE.cons rfl (subE.cons rfl (subE.nil _))))), hS.sub memA_nil⟩⟩
  · replace h := iteF h h_2
    refine g_cF rfl (decide_eq_false h_2) ?_
    refine g_exit ?_
    refine g_thnX ?_
    have hh := Option.some.inj h
    subst hh
    exact fun T S hT hS => ⟨rfl, ⟨hT.sub (subE.nil _), hS.sub memA_nil⟩⟩
def S.slices_Equal_int_int (P : Program) (φ : (List Int) → (List Int) → Option Bool) : Prop := ∀ (a0 : (List Int)) (a1 : (List Int)) (r : Bool), φ a0 a1 = some r → ∀ (k0 : Nat) (args : List AV), RVL k0 [.sl 1 (a0.map (c_int .i64)), .sl 1 (a1.map (c_int .i64))] args → CallR P F.slices_Equal_int_int args (ResC [.bool r])
set_option maxRecDepth 100000 in
theorem ok_slices_Equal_int_int {P : Program} [hc : CodeAll P] : S.slices_Equal_int_int P (slices_Equal_int_int) := by
  intro a0 a1 r h k0 args ha
  refine call_intro (b := K.slices_Equal_int_int) rfl hc.slices_Equal_int_int (fun _ => rfl) rfl rfl ?_ ha
  rintro L _ ⟨av0, _, rfl, ar0, av1, _, rfl, ar1, rfl⟩
  unfold slices_Equal_int_int at h
  show GC P _ L F.slices_Equal_int_int [(0, av0), (1, av1)] [] (RetPost L K.slices_Equal_int_int.res [.bool r])
  refine g_seq ?_
  refine g_ops ?_
  refine g_val (s_mv rfl) ?_
  refine g_end ?_
  refine g_thn ?_
  refine g_seq ?_
  refine g_seq ?_
  refine g_ops ?_
  refine g_val (s_mv rfl) ?_
  refine g_val (s_ll (c := (c_int .i64)) rfl ar0.toS) ?_
  refine g_val (s_mv rfl) ?_
  refine g_val (s_ll (c := (c_int .i64)) rfl ar1.toS) ?_
  refine g_val (s_ib rfl rfl rfl) ?_
  refine g_end ?_
  refine g_thn ?_
  by_cases h_1 : (a0.length : Int) ≠ (a1.length : Int)
  · replace h := iteT h h_1
    refine g_cT rfl (decide_eq_true h_1) ?_
    refine g_seq ?_
    refine g_ops ?_
    refine g_val (s_mv rfl) ?_
    refine g_end ?_
    refine g_thn ?_
    refine g_ret ?_
    refine g_thnR ?_
    have hh := Option.some.inj h
    subst hh
    exact g_res (.t rfl rfl .nil)
  · replace h := iteF h h_1
    refine g_cF rfl (decide_eq_false h_1) ?_
    refine g_skip ?_
    refine g_thn ?_
    refine g_seq ?_
    refine g_seq ?_
    refine g_ops ?_
    refine g_val (s_mv rfl) ?_
    refine g_val (s_ll (c := (c_int .i64)) rfl ar0.toS) ?_
    refine g_val (s_mv rfl) ?_
    refine g_end ?_
    refine g_thn ?_
    refine g_block ?_
    obtain ⟨o_12, e_13, h⟩ := bindI h
    refine g_loop (IN := slices_Equal_int_int_l0_N L a0 a1 (a0.length : Int) av0 av1) (IB := slices_Equal_int_int_l0_B L a0 a1 (a0.length : Int) av0 av1) (IR := fun r => RetPost L K.slices_Equal_int_int.res [.bool r]) e_13 (slices_Equal_int_int_l0_ok a0 a1 (a0.length : Int) (v0 := av0) (v1 := av1) ar0 ar1) (fun T S hT hS => ⟨hT.sub (subE.cons rfl (subE.cons rfl (subE.cons rfl (subE.cons rfl (subE.nil _))))), hS.sub memA_nil⟩) ?_
    rintro x T S hO
    cases o_12 with
    | brk s =>
      obtain ⟨rfl, hT, hS⟩ := hO
      refine (show G (.exit 0) L F.slices_Equal_int_int [] [] (Blk 0 (Thn P K.slices_Equal_int_int_p7 (RetPost L K.slices_Equal_int_int.res [.bool r]))) from ?_) T S hT hS
      refine g_blkH ?_
      refine g_thn ?_
      refine g_seq ?_
      refine g_ops ?_
      refine g_val (s_mv rfl) ?_
      refine g_end ?_
      refine g_thn ?_
      refine g_ret ?_
      have hh := Option.some.inj h
      subst hh
      exact g_res (.t rfl rfl .nil)
    | ret r =>
      have hh := Option.some.inj h
      subst hh
      obtain ⟨rfl, hO⟩ := hO
      exact hO
def slices_Equal_mach_Item_mach_Item_l0_N (L : Nat) (p0 : (List D.mach_Item)) (p1 : (List D.mach_Item)) (p12 : Int) (v0 : AV) (v1 : AV)  : Int → BT → AS → Prop := fun p13 T S => Ag [(0, v0), (1, v1), (12, .lit (.int .i64 p12)), (13, .lit (.int .i64 p13))] T ∧ StA S L F.slices_Equal_mach_Item_mach_Item []
def slices_Equal_mach_Item_mach_Item_l0_B (L : Nat) (p0 : (List D.mach_Item)) (p1 : (List D.mach_Item)) (p12 : Int) (v0 : AV) (v1 : AV)  : Unit → BT → AS → Prop := fun _ T S => Ag [] T ∧ StA S L F.slices_Equal_mach_Item_mach_Item []
set_option maxRecDepth 100000 in
theorem slices_Equal_mach_Item_mach_Item_l0_ok {P : Program} [hc : CodeAll P] {L : Nat} (p0 : (List D.mach_Item)) (p1 : (List D.mach_Item)) (p12 : Int) {v0 : AV} {v1 : AV} (r0 : RelC (.sl 2 (p0.map c_mach_Item)) v0) (r1 : RelC (.sl 2 (p1.map c_mach_Item)) v1) : ∀ (s : Int) (c : Ctl Int Unit Bool), slices_Equal_mach_Item_mach_Item_l0 p0 p1 p12 s = some c → ∀ T S, slices_Equal_mach_Item_mach_Item_l0_N L p0 p1 p12 v0 v1 s T S → RunB P K.slices_Equal_mach_Item_mach_Item_p6 T S (LPost 0 (slices_Equal_mach_Item_mach_Item_l0_N L p0 p1 p12 v0 v1) (slices_Equal_mach_Item_mach_Item_l0_B L p0 p1 p12 v0 v1) (fun r => RetPost L K.slices_Equal_mach_Item_mach_Item.res [.bool r]) c) := by
  rintro p13 c h T S ⟨hT, hS⟩
  unfold slices_Equal_mach_Item_mach_Item_l0 at h
  refine (show GC P K.slices_Equal_mach_Item_mach_Item_p6 L F.slices_Equal_mach_Item_mach_Item [(0, v0), (1, v1), (12, .lit (.int .i64 p12)), (13, .lit (.int .i64 p13))] [] (LPost 0 (slices_Equal_mach_Item_mach_Item_l0_N L p0 p1 p12 v0 v1) (slices_Equal_mach_Item_mach_Item_l0_B L p0 p1 p12 v0 v1) (fun r => RetPost L K.slices_Equal_mach_Item_mach_Item.res [.bool r]) c) from ?_) T S hT hS
  refine g_seq ?_
  refine g_ops ?_
  refine g_val (s_ib rfl rfl rfl) ?_
  refine g_end ?_
  refine g_thn ?_
  refine g_seq ?_
  by_cases h_2 : p13 < p12
  · replace h := iteT h h_2
    refine g_cT rfl (decide_eq_true h_2) ?_
    refine g_skip ?_
    refine g_thn ?_
    refine g_seq ?_
    refine g_block ?_
    refine g_seq ?_
    refine g_ops ?_
    refine g_val (s_mv rfl) ?_
    refine g_val (s_mv rfl) ?_
    refine g_end ?_
    refine g_thn ?_
    refine g_seq ?_
    refine g_draw ?_
    refine g_val (s_mv rfl) ?_
    refine g_val (s_mv rfl) ?_
    obtain ⟨x_5, e_6, h⟩ := bindI h
    refine g_stp (s_ia (c := c_mach_Item) rfl r0.toS rfl e_6) ?_
    rintro _ ⟨c_3, rfl, r_4⟩
    refine g_stp (s_ldnc (N := c_mach_Item x_5) rfl r_4 rfl rfl) ?_
    rintro _ ⟨c_7, rfl, r_8⟩
    refine g_val (s_mv rfl) ?_
    refine g_val (s_mv rfl) ?_
    obtain ⟨x_11, e_12, h⟩ := bindI h
    refine g_stp (s_ia (c := c_mach_Item) rfl r1.toS rfl e_12) ?_
    rintro _ ⟨c_9, rfl, r_10⟩
    refine g_stp (s_ldnc (N := c_mach_Item x_11) rfl r_10 rfl rfl) ?_
    rintro _ ⟨c_13, rfl, r_14⟩
    refine g_val (s_ce rfl r_8.toS rfl r_14.toS rfl rfl rfl) ?_
    refine g_endD rfl ?_
    refine g_thn ?_
    by_cases h_15 : ((decide (x_5.File = x_11.File) && (decide (x_5.Text = x_11.Text) && true)) != true) = true
    · replace h := iteT h h_15
      refine g_cT rfl h_15 ?_
      refine g_seq ?_
      refine g_ops ?_
      refine g_val (s_mv rfl) ?_
      refine g_end ?_
      refine g_thn ?_
      refine g_ret ?_
      refine g_blkR ?_
      refine g_thnR ?_
      have hh := Option.some.inj h
      subst hh
      exact fun T S hT hS => ⟨rfl, (g_res (rs := [.bool false]) (.t rfl rfl .nil)) T S hT hS⟩
    · replace h := iteF h h_15
      refine g_cF rfl (Bool.eq_false_iff.2 h_15) ?_
      refine g_skip ?_
      refine g_blkN ?_
      refine g_thn ?_
      refine g_ops ?_
      refine g_val (s_ib rfl rfl rfl) ?_
      refine g_val (s_mv rfl) ?_
      refine g_end ?_
      have hh := Option.some.inj h
      subst hh
      exact fun T S hT hS => ⟨rfl, ⟨hT.sub (subE.cons rfl (subE.cons rfl (subE.cons rfl (subE.cons rfl (subE.nil _))))), hS.sub memA_nil⟩⟩
  · replace h := iteF h h_2
    refine g_cF rfl (decide_eq_false h_2) ?_
    refine g_exit ?_
    refine g_thnX ?_
    have hh := Option.some.inj h
    subst hh
    exact fun T S hT hS => ⟨rfl, ⟨hT.sub (subE.nil _), hS.sub memA_nil⟩⟩
def S.slices_Equal_mach_Item_mach_Item (P : Program) (φ : (List D.mach_Item) → (List D.mach_Item) → Option Bool) : Prop := ∀ (a0 : (List D.mach_Item)) (a1 : (List D.mach_Item)) (r : Bool), φ a0 a1 = some r → ∀ (k0 : Nat) (args : List AV), RVL k0 [.sl 2 (a0.map c_mach_Item), .sl 2 (a1.map c_mach_Item)] args → CallR P F.slices_Equal_mach_Item_mach_Item args (ResC [.bool r])
set_option maxRecDepth 100000 in
theorem ok_slices_Equal_mach_Item_mach_Item {P : Program} [hc : CodeAll P] : S.slices_Equal_mach_Item_mach_Item P (slices_Equal_mach_Item_mach_Item) := by
  intro a0 a1 r h k0 args ha
  refine call_intro (b := K.slices_Equal_mach_Item_mach_Item) rfl hc.slices_Equal_mach_Item_mach_Item (fun _ => rfl) rfl rfl ?_ ha
  rintro L _ ⟨av0, _, rfl, ar0, av1, _, rfl, ar1, rfl⟩
  unfold slices_Equal_mach_Item_mach_Item at h
  show GC P _ L F.slices_Equal_mach_Item_mach_Item [(0, av0), (1, av1)] [] (RetPost L K.slices_Equal_mach_Item_mach_Item.res [.bool r])
  refine g_seq ?_
  refine g_ops ?_
  refine g_val (s_mv rfl) ?_
  refine g_end ?_
  refine g_thn ?_
  refine g_seq ?_
  refine g_seq ?_
  refine g_ops ?_
  refine g_val (s_mv rfl) ?_
  refine g_val (s_ll (c := c_mach_Item) rfl ar0.toS) ?_
  refine g_val (s_mv rfl) ?_
  refine g_val (s_ll (c := c_mach_Item) rfl ar1.toS) ?_
  refine g_val (s_ib rfl rfl rfl) ?_
  refine g_end ?_
  refine g_thn ?_
  by_cases h_1 : (a0.length : Int) ≠ (a1.length : Int)
  · replace h := iteT h h_1
    refine g_cT rfl (decide_eq_true h_1) ?_
    refine g_seq ?_
    refine g_ops ?_
    refine g_val (s_mv rfl) ?_
    refine g_end ?_
    refine g_thn ?_
    refine g_ret ?_
    refine g_thnR ?_
    have hh := Option.some.inj h
    subst hh
    exact g_res (.t rfl rfl .nil)
  · replace h := iteF h h_1
    refine g_cF rfl (decide_eq_false h_1) ?_
    refine g_skip ?_
    refine g_thn ?_
    refine g_seq ?_
    refine g_seq ?_
    refine g_ops ?_
    refine g_val (s_mv rfl) ?_
    refine g_val (s_ll (c := c_mach_Item) rfl ar0.toS) ?_
    refine g_val (s_mv rfl) ?_
    refine g_end ?_
    refine g_thn ?_
    refine g_block ?_
    obtain ⟨o_16, e_17, h⟩ := bindI h
    refine g_loop (IN := slices_Equal_mach_Item_mach_Item_l0_N L a0 a1 (a0.length : Int) av0 av1) (IB := slices_Equal_mach_Item_mach_Item_l0_B L a0 a1 (a0.length : Int) av0 av1) (IR := fun r => RetPost L K.slices_Equal_mach_Item_mach_Item.res [.bool r]) e_17 (slices_Equal_mach_Item_mach_Item_l0_ok a0 a1 (a0.length : Int) (v0 := av0) (v1 := av1) ar0 ar1) (fun T S hT hS => ⟨hT.sub (subE.cons rfl (subE.cons rfl (subE.cons rfl (subE.cons rfl (subE.nil _))))), hS.sub memA_nil⟩) ?_
    rintro x T S hO
    cases o_16 with
    | brk s =>
      obtain ⟨rfl, hT, hS⟩ := hO
      refine (show G (.exit 0) L F.slices_Equal_mach_Item_mach_Item [] [] (Blk 0 (Thn P K.slices_Equal_mach_Item_mach_Item_p7 (RetPost L K.slices_Equal_mach_Item_mach_Item.res [.bool r]))) from ?_) T S hT hS
      refine g_blkH ?_
      refine g_thn ?_
      refine g_seq ?_
      refine g_ops ?_
      refine g_val (s_mv rfl) ?_
      refine g_end ?_
      refine g_thn ?_
      refine g_ret ?_
      have hh := Option.some.inj h
      subst hh
      exact g_res (.t rfl rfl .nil)
    | ret r =>
      have hh := Option.some.inj h
      subst hh
      obtain ⟨rfl, hO⟩ := hO
      exact hO
end Go.Proofs.YtaiohgabpbgkdaaGreatDoor

namespace Go.Proofs.YtaiohgabpbgkdaaGreatDoor
open Go.RowKit

def S.mach_Same (P : Program) (φ : D.mach_State → D.mach_State → Option Bool) : Prop := ∀ (a0 : D.mach_State) (a1 : D.mach_State) (r : Bool), φ a0 a1 = some r → ∀ (k0 : Nat) (args : List AV), RVL k0 [.agg (c_mach_State a0), .agg (c_mach_State a1)] args → CallR P F.mach_Same args (ResC [.bool r])
set_option maxRecDepth 100000 in
theorem ok_mach_Same {P : Program} [hc : CodeAll P] : S.mach_Same P (mach_Same) := by
  intro a0 a1 r h k0 args ha
  refine call_intro (b := K.mach_Same) rfl hc.mach_Same (fun _ => rfl) rfl rfl ?_ ha
  rintro L _ ⟨_, _, rfl, ⟨ac0, rfl, ar0⟩, _, _, rfl, ⟨ac1, rfl, ar1⟩, rfl⟩
  unfold mach_Same at h
  show GC P _ L F.mach_Same [(0, .agg ac0), (1, .agg ac1)] [] (RetPost L K.mach_Same.res [.bool r])
  refine g_seq ?_
  refine g_ops ?_
  refine g_bx rfl rfl rfl fun g_1 => ?_
  refine g_bx rfl rfl rfl fun g_2 => ?_
  refine g_val (s_mv rfl) ?_
  refine g_end ?_
  refine g_thn ?_
  refine g_seq ?_
  refine g_ops ?_
  refine g_val (s_fa rfl rfl) ?_
  refine g_val (s_ldoL (v := .int .i64 a0.Op) (a := .lit (.int .i64 a0.Op)) rfl rfl (ar0).toS rfl (fun _ => relS_int)) ?_
  refine g_val (s_fa rfl rfl) ?_
  refine g_val (s_ldoL (v := .int .i64 a1.Op) (a := .lit (.int .i64 a1.Op)) rfl rfl (ar1).toS rfl (fun _ => relS_int)) ?_
  refine g_val (s_ib rfl rfl rfl) ?_
  refine g_val (s_mv rfl) ?_
  refine g_gua (gb := (decide (a0.Op = a1.Op))) (af := af0) (Q := fun u => u = .ptr ⟨L + 1, 2, 0⟩ g_1 0 1) rfl (wantV_true _) (fun hg => ?_) ?_
  · exact s_fa rfl rfl
  intro v_5 hv_3 hu_4
  refine g_gua (gb := (decide (a0.Op = a1.Op))) (af := (some [2], some [])) (Q := fun u => u = .lit (.string (bs a0.Pattern))) rfl (wantV_true _) (fun hg => ?_) ?_
  · obtain rfl := hv_3 hg; exact s_ldoL (v := .str a0.Pattern) (a := .lit (.string (bs a0.Pattern))) rfl rfl (ar0).toS rfl (fun _ => relS_str)
  intro v_8 hv_6 hu_7
  refine g_gua (gb := (decide (a0.Op = a1.Op))) (af := af0) (Q := fun u => u = .ptr ⟨L + 1, 3, 0⟩ g_2 0 1) rfl (wantV_true _) (fun hg => ?_) ?_
  · exact s_fa rfl rfl
  intro v_11 hv_9 hu_10
  refine g_gua (gb := (decide (a0.Op = a1.Op))) (af := (some [3], some [])) (Q := fun u => u = .lit (.string (bs a1.Pattern))) rfl (wantV_true _) (fun hg => ?_) ?_
  · obtain rfl := hv_9 hg; exact s_ldoL (v := .str a1.Pattern) (a := .lit (.string (bs a1.Pattern))) rfl rfl (ar1).toS rfl (fun _ => relS_str)
  intro v_14 hv_12 hu_13
  refine g_gua (gb := (decide (a0.Op = a1.Op))) (af := af0) (Q := fun u => u = .lit (.bool (decide (a0.Pattern = a1.Pattern)))) rfl (wantV_true _) (fun hg => ?_) ?_
  · obtain rfl := hv_6 hg; obtain rfl := hv_12 hg; exact s_seq1 rfl rfl
  intro v_17 hv_15 hu_16
  refine g_val (s_and rfl rfl (fun hq => by obtain rfl := hv_15 hq; rfl)) ?_
  refine g_val (s_mv rfl) ?_
  refine g_gua (gb := ((decide (a0.Op = a1.Op)) && (decide (a0.Pattern = a1.Pattern)))) (af := af0) (Q := fun u => u = .ptr ⟨L + 1, 2, 0⟩ g_1 0 2) rfl (wantV_true _) (fun hg => ?_) ?_
  · exact s_fa rfl rfl
  intro v_20 hv_18 hu_19
  refine g_gua (gb := ((decide (a0.Op = a1.Op)) && (decide (a0.Pattern = a1.Pattern)))) (af := (some [2], some [])) (Q := fun u => u = .lit (.string (bs a0.Hold))) rfl (wantV_true _) (fun hg => ?_) ?_
  · obtain rfl := hv_18 hg; exact s_ldoL (v := .str a0.Hold) (a := .lit (.string (bs a0.Hold))) rfl rfl (ar0).toS rfl (fun _ => relS_str)
  intro v_23 hv_21 hu_22
  refine g_gua (gb := ((decide (a0.Op = a1.Op)) && (decide (a0.Pattern = a1.Pattern)))) (af := af0) (Q := fun u => u = .ptr ⟨L + 1, 3, 0⟩ g_2 0 2) rfl (wantV_true _) (fun hg => ?_) ?_
  · exact s_fa rfl rfl
  intro v_26 hv_24 hu_25
  refine g_gua (gb := ((decide (a0.Op = a1.Op)) && (decide (a0.Pattern = a1.Pattern)))) (af := (some [3], some [])) (Q := fun u => u = .lit (.string (bs a1.Hold))) rfl (wantV_true _) (fun hg => ?_) ?_
  · obtain rfl := hv_24 hg; exact s_ldoL (v := .str a1.Hold) (a := .lit (.string (bs a1.Hold))) rfl rfl (ar1).toS rfl (fun _ => relS_str)
  intro v_29 hv_27 hu_28
  refine g_gua (gb := ((decide (a0.Op = a1.Op)) && (decide (a0.Pattern = a1.Pattern)))) (af := af0) (Q := fun u => u = .lit (.bool (decide (a0.Hold = a1.Hold)))) rfl (wantV_true _) (fun hg => ?_) ?_
  · obtain rfl := hv_21 hg; obtain rfl := hv_27 hg; exact s_seq1 rfl rfl
  intro v_32 hv_30 hu_31
  refine g_val (s_and rfl rfl (fun hq => by obtain rfl := hv_30 hq; rfl)) ?_
  refine g_val (s_mv rfl) ?_
  refine g_gua (gb := (((decide (a0.Op = a1.Op)) && (decide (a0.Pattern = a1.Pattern))) && (decide (a0.Hold = a1.Hold)))) (af := af0) (Q := fun u => u = .ptr ⟨L + 1, 2, 0⟩ g_1 0 3) rfl (wantV_true _) (fun hg => ?_) ?_
  · exact s_fa rfl rfl
  intro v_35 hv_33 hu_34
  refine g_gua (gb := (((decide (a0.Op = a1.Op)) && (decide (a0.Pattern = a1.Pattern))) && (decide (a0.Hold = a1.Hold)))) (af := (some [2], some [])) (Q := fun u => u = .lit (.bool a0.Flag)) rfl (wantV_true _) (fun hg => ?_) ?_
  · obtain rfl := hv_33 hg; exact s_ldoL (v := .bool a0.Flag) (a := .lit (.bool a0.Flag)) rfl rfl (ar0).toS rfl (fun _ => relS_bool)
  intro v_38 hv_36 hu_37
  refine g_gua (gb := (((decide (a0.Op = a1.Op)) && (decide (a0.Pattern = a1.Pattern))) && (decide (a0.Hold = a1.Hold)))) (af := af0) (Q := fun u => u = .ptr ⟨L + 1, 3, 0⟩ g_2 0 3) rfl (wantV_true _) (fun hg => ?_) ?_
  · exact s_fa rfl rfl
  intro v_41 hv_39 hu_40
  refine g_gua (gb := (((decide (a0.Op = a1.Op)) && (decide (a0.Pattern = a1.Pattern))) && (decide (a0.Hold = a1.Hold)))) (af := (some [3], some [])) (Q := fun u => u = .lit (.bool a1.Flag)) rfl (wantV_true _) (fun hg => ?_) ?_
  · obtain rfl := hv_39 hg; exact s_ldoL (v := .bool a1.Flag) (a := .lit (.bool a1.Flag)) rfl rfl (ar1).toS rfl (fun _ => relS_bool)
  intro v_44 hv_42 hu_43
  refine g_gua (gb := (((decide (a0.Op = a1.Op)) && (decide (a0.Pattern = a1.Pattern))) && (decide (a0.Hold = a1.Hold)))) (af := af0) (Q := fun u => u = .lit (.bool (decide (a0.Flag = a1.Flag) != false))) rfl (wantV_true _) (fun hg => ?_) ?_
  · obtain rfl := hv_36 hg; obtain rfl := hv_42 hg; exact s_bb rfl rfl
  intro v_47 hv_45 hu_46
  refine g_val (s_and rfl rfl (fun hq => by obtain rfl := hv_45 hq; rfl)) ?_
  refine g_val (s_mv rfl) ?_
  refine g_gua (gb := ((((decide (a0.Op = a1.Op)) && (decide (a0.Pattern = a1.Pattern))) && (decide (a0.Hold = a1.Hold))) && (decide (a0.Flag = a1.Flag) != false))) (af := af0) (Q := fun u => u = .ptr ⟨L + 1, 2, 0⟩ g_1 0 4) rfl (wantV_true _) (fun hg => ?_) ?_
  · exact s_fa rfl rfl
  intro v_50 hv_48 hu_49
  refine g_gua (gb := ((((decide (a0.Op = a1.Op)) && (decide (a0.Pattern = a1.Pattern))) && (decide (a0.Hold = a1.Hold))) && (decide (a0.Flag = a1.Flag) != false))) (af := (some [2], some [])) (Q := fun u => u = .lit (.int .i64 a0.Line)) rfl (wantV_true _) (fun hg => ?_) ?_
  · obtain rfl := hv_48 hg; exact s_ldoL (v := .int .i64 a0.Line) (a := .lit (.int .i64 a0.Line)) rfl rfl (ar0).toS rfl (fun _ => relS_int)
  intro v_53 hv_51 hu_52
  refine g_gua (gb := ((((decide (a0.Op = a1.Op)) && (decide (a0.Pattern = a1.Pattern))) && (decide (a0.Hold = a1.Hold))) && (decide (a0.Flag = a1.Flag) != false))) (af := af0) (Q := fun u => u = .ptr ⟨L + 1, 3, 0⟩ g_2 0 4) rfl (wantV_true _) (fun hg => ?_) ?_
  · exact s_fa rfl rfl
  intro v_56 hv_54 hu_55
  refine g_gua (gb := ((((decide (a0.Op = a1.Op)) && (decide (a0.Pattern = a1.Pattern))) && (decide (a0.Hold = a1.Hold))) && (decide (a0.Flag = a1.Flag) != false))) (af := (some [3], some [])) (Q := fun u => u = .lit (.int .i64 a1.Line)) rfl (wantV_true _) (fun hg => ?_) ?_
  · obtain rfl := hv_54 hg; exact s_ldoL (v := .int .i64 a1.Line) (a := .lit (.int .i64 a1.Line)) rfl rfl (ar1).toS rfl (fun _ => relS_int)
  intro v_59 hv_57 hu_58
  refine g_gua (gb := ((((decide (a0.Op = a1.Op)) && (decide (a0.Pattern = a1.Pattern))) && (decide (a0.Hold = a1.Hold))) && (decide (a0.Flag = a1.Flag) != false))) (af := af0) (Q := fun u => u = .lit (.bool (decide (a0.Line = a1.Line)))) rfl (wantV_true _) (fun hg => ?_) ?_
  · obtain rfl := hv_51 hg; obtain rfl := hv_57 hg; exact s_ib rfl rfl rfl
  intro v_62 hv_60 hu_61
  refine g_val (s_and rfl rfl (fun hq => by obtain rfl := hv_60 hq; rfl)) ?_
  refine g_val (s_mv rfl) ?_
  refine g_gua (gb := (((((decide (a0.Op = a1.Op)) && (decide (a0.Pattern = a1.Pattern))) && (decide (a0.Hold = a1.Hold))) && (decide (a0.Flag = a1.Flag) != false)) && (decide (a0.Line = a1.Line)))) (af := af0) (Q := fun u => u = .ptr ⟨L + 1, 2, 0⟩ g_1 0 7) rfl (wantV_true _) (fun hg => ?_) ?_
  · exact s_fa rfl rfl
  intro v_65 hv_63 hu_64
  refine g_gua (gb := (((((decide (a0.Op = a1.Op)) && (decide (a0.Pattern = a1.Pattern))) && (decide (a0.Hold = a1.Hold))) && (decide (a0.Flag = a1.Flag) != false)) && (decide (a0.Line = a1.Line)))) (af := (some [2], some [])) (Q := fun u => u = .lit (.bool a0.Done)) rfl (wantV_true _) (fun hg => ?_) ?_
  · obtain rfl := hv_63 hg; exact s_ldoL (v := .bool a0.Done) (a := .lit (.bool a0.Done)) rfl rfl (ar0).toS rfl (fun _ => relS_bool)
  intro v_68 hv_66 hu_67
  refine g_gua (gb := (((((decide (a0.Op = a1.Op)) && (decide (a0.Pattern = a1.Pattern))) && (decide (a0.Hold = a1.Hold))) && (decide (a0.Flag = a1.Flag) != false)) && (decide (a0.Line = a1.Line)))) (af := af0) (Q := fun u => u = .ptr ⟨L + 1, 3, 0⟩ g_2 0 7) rfl (wantV_true _) (fun hg => ?_) ?_
  · exact s_fa rfl rfl
  intro v_71 hv_69 hu_70
  refine g_gua (gb := (((((decide (a0.Op = a1.Op)) && (decide (a0.Pattern = a1.Pattern))) && (decide (a0.Hold = a1.Hold))) && (decide (a0.Flag = a1.Flag) != false)) && (decide (a0.Line = a1.Line)))) (af := (some [3], some [])) (Q := fun u => u = .lit (.bool a1.Done)) rfl (wantV_true _) (fun hg => ?_) ?_
  · obtain rfl := hv_69 hg; exact s_ldoL (v := .bool a1.Done) (a := .lit (.bool a1.Done)) rfl rfl (ar1).toS rfl (fun _ => relS_bool)
  intro v_74 hv_72 hu_73
  refine g_gua (gb := (((((decide (a0.Op = a1.Op)) && (decide (a0.Pattern = a1.Pattern))) && (decide (a0.Hold = a1.Hold))) && (decide (a0.Flag = a1.Flag) != false)) && (decide (a0.Line = a1.Line)))) (af := af0) (Q := fun u => u = .lit (.bool (decide (a0.Done = a1.Done) != false))) rfl (wantV_true _) (fun hg => ?_) ?_
  · obtain rfl := hv_66 hg; obtain rfl := hv_72 hg; exact s_bb rfl rfl
  intro v_77 hv_75 hu_76
  refine g_val (s_and rfl rfl (fun hq => by obtain rfl := hv_75 hq; rfl)) ?_
  refine g_val (s_mv rfl) ?_
  refine g_gua (gb := ((((((decide (a0.Op = a1.Op)) && (decide (a0.Pattern = a1.Pattern))) && (decide (a0.Hold = a1.Hold))) && (decide (a0.Flag = a1.Flag) != false)) && (decide (a0.Line = a1.Line))) && (decide (a0.Done = a1.Done) != false))) (af := af0) (Q := fun u => u = .ptr ⟨L + 1, 2, 0⟩ g_1 0 5) rfl (wantV_true _) (fun hg => ?_) ?_
  · exact s_fa rfl rfl
  intro v_80 hv_78 hu_79
  refine g_gua (gb := ((((((decide (a0.Op = a1.Op)) && (decide (a0.Pattern = a1.Pattern))) && (decide (a0.Hold = a1.Hold))) && (decide (a0.Flag = a1.Flag) != false)) && (decide (a0.Line = a1.Line))) && (decide (a0.Done = a1.Done) != false))) (af := (some [2], some [])) (Q := fun u => RelC (.sl 1 (a0.Ranges.map (c_int .i64))) u) rfl (wantV_true _) (fun hg => ?_) ?_
  · obtain rfl := hv_78 hg; exact s_ldoC (v := .sl 1 (a0.Ranges.map (c_int .i64))) rfl rfl ar0 rfl
  intro v_86 hv_84 hu_85
  refine g_gua (gb := ((((((decide (a0.Op = a1.Op)) && (decide (a0.Pattern = a1.Pattern))) && (decide (a0.Hold = a1.Hold))) && (decide (a0.Flag = a1.Flag) != false)) && (decide (a0.Line = a1.Line))) && (decide (a0.Done = a1.Done) != false))) (af := af0) (Q := fun u => u = .ptr ⟨L + 1, 3, 0⟩ g_2 0 5) rfl (wantV_true _) (fun hg => ?_) ?_
  · exact s_fa rfl rfl
  intro v_89 hv_87 hu_88
  refine g_gua (gb := ((((((decide (a0.Op = a1.Op)) && (decide (a0.Pattern = a1.Pattern))) && (decide (a0.Hold = a1.Hold))) && (decide (a0.Flag = a1.Flag) != false)) && (decide (a0.Line = a1.Line))) && (decide (a0.Done = a1.Done) != false))) (af := (some [3], some [])) (Q := fun u => RelC (.sl 1 (a1.Ranges.map (c_int .i64))) u) rfl (wantV_true _) (fun hg => ?_) ?_
  · obtain rfl := hv_87 hg; exact s_ldoC (v := .sl 1 (a1.Ranges.map (c_int .i64))) rfl rfl ar1 rfl
  intro v_95 hv_93 hu_94
  obtain ⟨x_96, e_97, h⟩ := bindI h
  refine g_gua (gb := ((((((decide (a0.Op = a1.Op)) && (decide (a0.Pattern = a1.Pattern))) && (decide (a0.Hold = a1.Hold))) && (decide (a0.Flag = a1.Flag) != false)) && (decide (a0.Line = a1.Line))) && (decide (a0.Done = a1.Done) != false))) (af := (none, some [])) (Q := ResC [.bool x_96]) rfl (wantV_true _) (fun hg => ?_) ?_
  · obtain r_91 := hv_93 hg; obtain r_82 := hv_84 hg; exact s_cl (fun _ => rfl) rfl ((ok_slices_Equal_int_int) _ _ _ (whenT e_97 hg) (L + 1) _ ⟨_, _, rfl, r_82.toS, _, _, rfl, r_91.toS, rfl⟩)
  intro v_100 hv_98 hu_99
  refine g_val (s_and rfl rfl (fun hq => by obtain rfl := hv_98 hq; rfl)) ?_
  refine g_val (s_mv rfl) ?_
  refine g_gua (gb := (((((((decide (a0.Op = a1.Op)) && (decide (a0.Pattern = a1.Pattern))) && (decide (a0.Hold = a1.Hold))) && (decide (a0.Flag = a1.Flag) != false)) && (decide (a0.Line = a1.Line))) && (decide (a0.Done = a1.Done) != false)) && x_96)) (af := af0) (Q := fun u => u = .ptr ⟨L + 1, 2, 0⟩ g_1 0 6) rfl (wantV_true _) (fun hg => ?_) ?_
  · exact s_fa rfl rfl
  intro v_103 hv_101 hu_102
  refine g_gua (gb := (((((((decide (a0.Op = a1.Op)) && (decide (a0.Pattern = a1.Pattern))) && (decide (a0.Hold = a1.Hold))) && (decide (a0.Flag = a1.Flag) != false)) && (decide (a0.Line = a1.Line))) && (decide (a0.Done = a1.Done) != false)) && x_96)) (af := (some [2], some [])) (Q := fun u => RelC (.sl 2 (a0.Queue.map c_mach_Item)) u) rfl (wantV_true _) (fun hg => ?_) ?_
  · obtain rfl := hv_101 hg; exact s_ldoC (v := .sl 2 (a0.Queue.map c_mach_Item)) rfl rfl ar0 rfl
  intro v_109 hv_107 hu_108
  refine g_gua (gb := (((((((decide (a0.Op = a1.Op)) && (decide (a0.Pattern = a1.Pattern))) && (decide (a0.Hold = a1.Hold))) && (decide (a0.Flag = a1.Flag) != false)) && (decide (a0.Line = a1.Line))) && (decide (a0.Done = a1.Done) != false)) && x_96)) (af := af0) (Q := fun u => u = .ptr ⟨L + 1, 3, 0⟩ g_2 0 6) rfl (wantV_true _) (fun hg => ?_) ?_
  · exact s_fa rfl rfl
  intro v_112 hv_110 hu_111
  refine g_gua (gb := (((((((decide (a0.Op = a1.Op)) && (decide (a0.Pattern = a1.Pattern))) && (decide (a0.Hold = a1.Hold))) && (decide (a0.Flag = a1.Flag) != false)) && (decide (a0.Line = a1.Line))) && (decide (a0.Done = a1.Done) != false)) && x_96)) (af := (some [3], some [])) (Q := fun u => RelC (.sl 2 (a1.Queue.map c_mach_Item)) u) rfl (wantV_true _) (fun hg => ?_) ?_
  · obtain rfl := hv_110 hg; exact s_ldoC (v := .sl 2 (a1.Queue.map c_mach_Item)) rfl rfl ar1 rfl
  intro v_118 hv_116 hu_117
  obtain ⟨x_119, e_120, h⟩ := bindI h
  refine g_gua (gb := (((((((decide (a0.Op = a1.Op)) && (decide (a0.Pattern = a1.Pattern))) && (decide (a0.Hold = a1.Hold))) && (decide (a0.Flag = a1.Flag) != false)) && (decide (a0.Line = a1.Line))) && (decide (a0.Done = a1.Done) != false)) && x_96)) (af := (none, some [])) (Q := ResC [.bool x_119]) rfl (wantV_true _) (fun hg => ?_) ?_
  · obtain r_114 := hv_116 hg; obtain r_105 := hv_107 hg; exact s_cl (fun _ => rfl) rfl ((ok_slices_Equal_mach_Item_mach_Item) _ _ _ (whenT e_120 hg) (L + 1) _ ⟨_, _, rfl, r_105.toS, _, _, rfl, r_114.toS, rfl⟩)
  intro v_123 hv_121 hu_122
  refine g_val (s_and rfl rfl (fun hq => by obtain rfl := hv_121 hq; rfl)) ?_
  refine g_val (s_mv rfl) ?_
  refine g_end ?_
  refine g_thn ?_
  refine g_ret ?_
  have hh := Option.some.inj h
  subst hh
  exact g_res (.t rfl rfl .nil)
end Go.Proofs.YtaiohgabpbgkdaaGreatDoor

namespace Go.Proofs.YtaiohgabpbgkdaaGreatDoor
open Go.RowKit

def ref19_Same_l0_N (L : Nat) (p67 : Int) (q2 : D.ref19_S) (q3 : D.ref19_S) (g2 : Nat) (d2 : List AV) (g3 : Nat) (d3 : List AV)  : Int → BT → AS → Prop := fun p68 T S => Ag [(2, .ptr ⟨L + 1, 2, 0⟩ g2 0 0), (3, .ptr ⟨L + 1, 3, 0⟩ g3 0 0), (67, .lit (.int .i64 p67)), (68, .lit (.int .i64 p68))] T ∧ StA S L F.ref19_Same [.obj 2 g2 112 d2, .obj 3 g3 112 d3]
def ref19_Same_l0_B (L : Nat) (p67 : Int) (q2 : D.ref19_S) (q3 : D.ref19_S) (g2 : Nat) (d2 : List AV) (g3 : Nat) (d3 : List AV)  : Unit → BT → AS → Prop := fun _ T S => Ag [(2, .ptr ⟨L + 1, 2, 0⟩ g2 0 0), (3, .ptr ⟨L + 1, 3, 0⟩ g3 0 0)] T ∧ StA S L F.ref19_Same [.obj 2 g2 112 d2, .obj 3 g3 112 d3]
set_option maxRecDepth 100000 in
theorem ref19_Same_l0_ok {P : Program} [hc : CodeAll P] {L : Nat} (p67 : Int) (q2 : D.ref19_S) (q3 : D.ref19_S) {g2 : Nat} {d2 : List AV} {g3 : Nat} {d3 : List AV} (s2 : RelCL (c_ref19_S q2) d2) (s3 : RelCL (c_ref19_S q3) d3) : ∀ (s : Int) (c : Ctl Int Unit Bool), ref19_Same_l0 p67 q2 q3 s = some c → ∀ T S, ref19_Same_l0_N L p67 q2 q3 g2 d2 g3 d3 s T S → RunB P K.ref19_Same_p6 T S (LPost 0 (ref19_Same_l0_N L p67 q2 q3 g2 d2 g3 d3) (ref19_Same_l0_B L p67 q2 q3 g2 d2 g3 d3) (fun r => RetPost L K.ref19_Same.res [.bool r]) c) := by
  rintro p68 c h T S ⟨hT, hS⟩
  unfold ref19_Same_l0 at h
  refine (show GC P K.ref19_Same_p6 L F.ref19_Same [(2, .ptr ⟨L + 1, 2, 0⟩ g2 0 0), (3, .ptr ⟨L + 1, 3, 0⟩ g3 0 0), (67, .lit (.int .i64 p67)), (68, .lit (.int .i64 p68))] [.obj 2 g2 112 d2, .obj 3 g3 112 d3] (LPost 0 (ref19_Same_l0_N L p67 q2 q3 g2 d2 g3 d3) (ref19_Same_l0_B L p67 q2 q3 g2 d2 g3 d3) (fun r => RetPost L K.ref19_Same.res [.bool r]) c) from ?_) T S hT hS
  refine g_seq ?_
  refine g_ops ?_
  refine g_val (s_ib rfl rfl rfl) ?_
  refine g_end ?_
  refine g_thn ?_
  refine g_seq ?_
  by_cases h_136 : p68 < p67
  · replace h := iteT h h_136
    refine g_cT rfl (decide_eq_true h_136) ?_
    refine g_skip ?_
    refine g_thn ?_
    refine g_seq ?_
    refine g_block ?_
    refine g_seq ?_
    refine g_ops ?_
    refine g_val (s_mv rfl) ?_
    refine g_val (s_mv rfl) ?_
    refine g_end ?_
    refine g_thn ?_
    refine g_seq ?_
    refine g_draw ?_
    refine g_val (s_fa rfl rfl) ?_
    refine g_stp (s_ldoC (v := .sl 1 (q2.Ranges.map (c_int .i64))) rfl rfl s2 rfl) ?_
    rintro v_137 r_138
    refine g_val (s_mv rfl) ?_
    obtain ⟨x_142, e_143, h⟩ := bindI h
    refine g_stp (s_ia (c := (c_int .i64)) rfl r_138.toS rfl e_143) ?_
    rintro _ ⟨c_140, rfl, r_141⟩
    refine g_val (s_ldcL (v := .int .i64 x_142) (a := .lit (.int .i64 x_142)) rfl r_141 rfl (fun _ => relC_int)) ?_
    refine g_val (s_fa rfl rfl) ?_
    refine g_stp (s_ldoC (v := .sl 1 (q3.Ranges.map (c_int .i64))) rfl rfl s3 rfl) ?_
    rintro v_144 r_145
    refine g_val (s_mv rfl) ?_
    obtain ⟨x_149, e_150, h⟩ := bindI h
    refine g_stp (s_ia (c := (c_int .i64)) rfl r_145.toS rfl e_150) ?_
    rintro _ ⟨c_147, rfl, r_148⟩
    refine g_val (s_ldcL (v := .int .i64 x_149) (a := .lit (.int .i64 x_149)) rfl r_148 rfl (fun _ => relC_int)) ?_
    refine g_val (s_ib rfl rfl rfl) ?_
    refine g_endD rfl ?_
    refine g_thn ?_
    by_cases h_151 : x_142 ≠ x_149
    · replace h := iteT h h_151
      refine g_cT rfl (decide_eq_true h_151) ?_
      refine g_seq ?_
      refine g_ops ?_
      refine g_val (s_mv rfl) ?_
      refine g_end ?_
      refine g_thn ?_
      refine g_ret ?_
      refine g_blkR ?_
      refine g_thnR ?_
      have hh := Option.some.inj h
      subst hh
      exact fun T S hT hS => ⟨rfl, (g_res (rs := [.bool false]) (.t rfl rfl .nil)) T S hT hS⟩
    · replace h := iteF h h_151
      refine g_cF rfl (decide_eq_false h_151) ?_
      refine g_skip ?_
      refine g_blkN ?_
      refine g_thn ?_
      refine g_ops ?_
      refine g_val (s_ib rfl rfl rfl) ?_
      refine g_val (s_mv rfl) ?_
      refine g_end ?_
      have hh := Option.some.inj h
      subst hh
      exact fun T S hT hS => ⟨rfl, ⟨hT.sub (subE.cons rfl (subE.cons rfl (subE.cons rfl (subE.cons rfl (subE.nil _))))), hS.sub (memA_cons (i := 0) rfl (memA_cons (i := 1) rfl memA_nil))⟩⟩
  · replace h := iteF h h_136
    refine g_cF rfl (decide_eq_false h_136) ?_
    refine g_exit ?_
    refine g_thnX ?_
    have hh := Option.some.inj h
    subst hh
    exact fun T S hT hS => ⟨rfl, ⟨hT.sub (subE.cons rfl (subE.cons rfl (subE.nil _))), hS.sub (memA_cons (i := 0) rfl (memA_cons (i := 1) rfl memA_nil))⟩⟩
def ref19_Same_l1_N (L : Nat) (p85 : Int) (q2 : D.ref19_S) (q3 : D.ref19_S) (g2 : Nat) (d2 : List AV) (g3 : Nat) (d3 : List AV)  : Int → BT → AS → Prop := fun p86 T S => Ag [(2, .ptr ⟨L + 1, 2, 0⟩ g2 0 0), (3, .ptr ⟨L + 1, 3, 0⟩ g3 0 0), (85, .lit (.int .i64 p85)), (86, .lit (.int .i64 p86))] T ∧ StA S L F.ref19_Same [.obj 2 g2 112 d2, .obj 3 g3 112 d3]
def ref19_Same_l1_B (L : Nat) (p85 : Int) (q2 : D.ref19_S) (q3 : D.ref19_S) (g2 : Nat) (d2 : List AV) (g3 : Nat) (d3 : List AV)  : Unit → BT → AS → Prop := fun _ T S => Ag [] T ∧ StA S L F.ref19_Same []
set_option maxRecDepth 100000 in
theorem ref19_Same_l1_ok {P : Program} [hc : CodeAll P] {L : Nat} (p85 : Int) (q2 : D.ref19_S) (q3 : D.ref19_S) {g2 : Nat} {d2 : List AV} {g3 : Nat} {d3 : List AV} (s2 : RelCL (c_ref19_S q2) d2) (s3 : RelCL (c_ref19_S q3) d3) : ∀ (s : Int) (c : Ctl Int Unit Bool), ref19_Same_l1 p85 q2 q3 s = some c → ∀ T S, ref19_Same_l1_N L p85 q2 q3 g2 d2 g3 d3 s T S → RunB P K.ref19_Same_p13 T S (LPost 2 (ref19_Same_l1_N L p85 q2 q3 g2 d2 g3 d3) (ref19_Same_l1_B L p85 q2 q3 g2 d2 g3 d3) (fun r => RetPost L K.ref19_Same.res [.bool r]) c) := by
  rintro p86 c h T S ⟨hT, hS⟩
  unfold ref19_Same_l1 at h
  refine (show GC P K.ref19_Same_p13 L F.ref19_Same [(2, .ptr ⟨L + 1, 2, 0⟩ g2 0 0), (3, .ptr ⟨L + 1, 3, 0⟩ g3 0 0), (85, .lit (.int .i64 p85)), (86, .lit (.int .i64 p86))] [.obj 2 g2 112 d2, .obj 3 g3 112 d3] (LPost 2 (ref19_Same_l1_N L p85 q2 q3 g2 d2 g3 d3) (ref19_Same_l1_B L p85 q2 q3 g2 d2 g3 d3) (fun r => RetPost L K.ref19_Same.res [.bool r]) c) from ?_) T S hT hS
  refine g_seq ?_
  refine g_ops ?_
  refine g_val (s_ib rfl rfl rfl) ?_
  refine g_end ?_
  refine g_thn ?_
  refine g_seq ?_
  by_cases h_158 : p86 < p85
  · replace h := iteT h h_158
    refine g_cT rfl (decide_eq_true h_158) ?_
    refine g_skip ?_
    refine g_thn ?_
    refine g_seq ?_
    refine g_block ?_
    refine g_seq ?_
    refine g_ops ?_
    refine g_val (s_mv rfl) ?_
    refine g_val (s_mv rfl) ?_
    refine g_end ?_
    refine g_thn ?_
    refine g_seq ?_
    refine g_draw ?_
    refine g_val (s_fa rfl rfl) ?_
    refine g_stp (s_ldoC (v := .sl 2 (q2.Queue.map c_ref19_I)) rfl rfl s2 rfl) ?_
    rintro v_159 r_160
    refine g_val (s_mv rfl) ?_
    obtain ⟨x_164, e_165, h⟩ := bindI h
    refine g_stp (s_ia (c := c_ref19_I) rfl r_160.toS rfl e_165) ?_
    rintro _ ⟨c_162, rfl, r_163⟩
    refine g_stp (s_ldnc (N := c_ref19_I x_164) rfl r_163 rfl rfl) ?_
    rintro _ ⟨c_166, rfl, r_167⟩
    refine g_val (s_fa rfl rfl) ?_
    refine g_stp (s_ldoC (v := .sl 2 (q3.Queue.map c_ref19_I)) rfl rfl s3 rfl) ?_
    rintro v_168 r_169
    refine g_val (s_mv rfl) ?_
    obtain ⟨x_173, e_174, h⟩ := bindI h
    refine g_stp (s_ia (c := c_ref19_I) rfl r_169.toS rfl e_174) ?_
    rintro _ ⟨c_171, rfl, r_172⟩
    refine g_stp (s_ldnc (N := c_ref19_I x_173) rfl r_172 rfl rfl) ?_
    rintro _ ⟨c_175, rfl, r_176⟩
    refine g_val (s_ce rfl r_167.toS rfl r_176.toS rfl rfl rfl) ?_
    refine g_endD rfl ?_
    refine g_thn ?_
    by_cases h_177 : ((decide (x_164.File = x_173.File) && (decide (x_164.Text = x_173.Text) && true)) != true) = true
    · replace h := iteT h h_177
      refine g_cT rfl h_177 ?_
      refine g_seq ?_
      refine g_ops ?_
      refine g_val (s_mv rfl) ?_
      refine g_end ?_
      refine g_thn ?_
      refine g_ret ?_
      refine g_blkR ?_
      refine g_thnR ?_
      have hh := Option.some.inj h
      subst hh
      exact fun T S hT hS => ⟨rfl, (g_res (rs := [.bool false]) (.t rfl rfl .nil)) T S hT hS⟩
    · replace h := iteF h h_177
      refine g_cF rfl (Bool.eq_false_iff.2 h_177) ?_
      refine g_skip ?_
      refine g_blkN ?_
      refine g_thn ?_
      refine g_ops ?_
      refine g_val (s_ib rfl rfl rfl) ?_
      refine g_val (s_mv rfl) ?_
      refine g_end ?_
      have hh := Option.some.inj h
      subst hh
      exact fun T S hT hS => ⟨rfl, ⟨hT.sub (subE.cons rfl (subE.cons rfl (subE.cons rfl (subE.cons rfl (subE.nil _))))), hS.sub (memA_cons (i := 0) rfl (memA_cons (i := 1) rfl memA_nil))⟩⟩
  · replace h := iteF h h_158
    refine g_cF rfl (decide_eq_false h_158) ?_
    refine g_exit ?_
    refine g_thnX ?_
    have hh := Option.some.inj h
    subst hh
    exact fun T S hT hS => ⟨rfl, ⟨hT.sub (subE.nil _), hS.sub memA_nil⟩⟩
def S.ref19_Same (P : Program) (φ : D.ref19_S → D.ref19_S → Option Bool) : Prop := ∀ (a0 : D.ref19_S) (a1 : D.ref19_S) (r : Bool), φ a0 a1 = some r → ∀ (k0 : Nat) (args : List AV), RVL k0 [.agg (c_ref19_S a0), .agg (c_ref19_S a1)] args → CallR P F.ref19_Same args (ResC [.bool r])
set_option maxRecDepth 100000 in
theorem ok_ref19_Same {P : Program} [hc : CodeAll P] : S.ref19_Same P (ref19_Same) := by
  intro a0 a1 r h k0 args ha
  refine call_intro (b := K.ref19_Same) rfl hc.ref19_Same (fun _ => rfl) rfl rfl ?_ ha
  rintro L _ ⟨_, _, rfl, ⟨ac0, rfl, ar0⟩, _, _, rfl, ⟨ac1, rfl, ar1⟩, rfl⟩
  unfold ref19_Same at h
  show GC P _ L F.ref19_Same [(0, .agg ac0), (1, .agg ac1)] [] (RetPost L K.ref19_Same.res [.bool r])
  refine g_seq ?_
  refine g_ops ?_
  refine g_bx rfl rfl rfl fun g_1 => ?_
  refine g_bx rfl rfl rfl fun g_2 => ?_
  refine g_val (s_mv rfl) ?_
  refine g_end ?_
  refine g_thn ?_
  refine g_seq ?_
  refine g_seq ?_
  refine g_ops ?_
  refine g_val (s_fa rfl rfl) ?_
  refine g_val (s_ldoL (v := .int .i64 a0.Op) (a := .lit (.int .i64 a0.Op)) rfl rfl (ar0).toS rfl (fun _ => relS_int)) ?_
  refine g_val (s_fa rfl rfl) ?_
  refine g_val (s_ldoL (v := .int .i64 a1.Op) (a := .lit (.int .i64 a1.Op)) rfl rfl (ar1).toS rfl (fun _ => relS_int)) ?_
  refine g_val (s_ib rfl rfl rfl) ?_
  refine g_val (s_mv rfl) ?_
  refine g_gua (gb := (!(decide (a0.Op ≠ a1.Op)))) (af := af0) (Q := fun u => u = .ptr ⟨L + 1, 2, 0⟩ g_1 0 1) rfl (wantV_false _) (fun hg => ?_) ?_
  · exact s_fa rfl rfl
  intro v_5 hv_3 hu_4
  refine g_gua (gb := (!(decide (a0.Op ≠ a1.Op)))) (af := (some [2], some [])) (Q := fun u => u = .lit (.string (bs a0.Pattern))) rfl (wantV_false _) (fun hg => ?_) ?_
  · obtain rfl := hv_3 hg; exact s_ldoL (v := .str a0.Pattern) (a := .lit (.string (bs a0.Pattern))) rfl rfl (ar0).toS rfl (fun _ => relS_str)
  intro v_8 hv_6 hu_7
  refine g_gua (gb := (!(decide (a0.Op ≠ a1.Op)))) (af := af0) (Q := fun u => u = .ptr ⟨L + 1, 3, 0⟩ g_2 0 1) rfl (wantV_false _) (fun hg => ?_) ?_
  · exact s_fa rfl rfl
  intro v_11 hv_9 hu_10
  refine g_gua (gb := (!(decide (a0.Op ≠ a1.Op)))) (af := (some [3], some [])) (Q := fun u => u = .lit (.string (bs a1.Pattern))) rfl (wantV_false _) (fun hg => ?_) ?_
  · obtain rfl := hv_9 hg; exact s_ldoL (v := .str a1.Pattern) (a := .lit (.string (bs a1.Pattern))) rfl rfl (ar1).toS rfl (fun _ => relS_str)
  intro v_14 hv_12 hu_13
  refine g_gua (gb := (!(decide (a0.Op ≠ a1.Op)))) (af := af0) (Q := fun u => u = .lit (.bool (decide (a0.Pattern ≠ a1.Pattern)))) rfl (wantV_false _) (fun hg => ?_) ?_
  · obtain rfl := hv_6 hg; obtain rfl := hv_12 hg; exact s_sne rfl rfl
  intro v_17 hv_15 hu_16
  refine g_val (s_or rfl rfl (fun hq => by obtain rfl := hv_15 hq; rfl)) ?_
  refine g_val (s_mv rfl) ?_
  refine g_gua (gb := (!((decide (a0.Op ≠ a1.Op)) || (decide (a0.Pattern ≠ a1.Pattern))))) (af := af0) (Q := fun u => u = .ptr ⟨L + 1, 2, 0⟩ g_1 0 2) rfl (wantV_false _) (fun hg => ?_) ?_
  · exact s_fa rfl rfl
  intro v_20 hv_18 hu_19
  refine g_gua (gb := (!((decide (a0.Op ≠ a1.Op)) || (decide (a0.Pattern ≠ a1.Pattern))))) (af := (some [2], some [])) (Q := fun u => u = .lit (.string (bs a0.Hold))) rfl (wantV_false _) (fun hg => ?_) ?_
  · obtain rfl := hv_18 hg; exact s_ldoL (v := .str a0.Hold) (a := .lit (.string (bs a0.Hold))) rfl rfl (ar0).toS rfl (fun _ => relS_str)
  intro v_23 hv_21 hu_22
  refine g_gua (gb := (!((decide (a0.Op ≠ a1.Op)) || (decide (a0.Pattern ≠ a1.Pattern))))) (af := af0) (Q := fun u => u = .ptr ⟨L + 1, 3, 0⟩ g_2 0 2) rfl (wantV_false _) (fun hg => ?_) ?_
  · exact s_fa rfl rfl
  intro v_26 hv_24 hu_25
  refine g_gua (gb := (!((decide (a0.Op ≠ a1.Op)) || (decide (a0.Pattern ≠ a1.Pattern))))) (af := (some [3], some [])) (Q := fun u => u = .lit (.string (bs a1.Hold))) rfl (wantV_false _) (fun hg => ?_) ?_
  · obtain rfl := hv_24 hg; exact s_ldoL (v := .str a1.Hold) (a := .lit (.string (bs a1.Hold))) rfl rfl (ar1).toS rfl (fun _ => relS_str)
  intro v_29 hv_27 hu_28
  refine g_gua (gb := (!((decide (a0.Op ≠ a1.Op)) || (decide (a0.Pattern ≠ a1.Pattern))))) (af := af0) (Q := fun u => u = .lit (.bool (decide (a0.Hold ≠ a1.Hold)))) rfl (wantV_false _) (fun hg => ?_) ?_
  · obtain rfl := hv_21 hg; obtain rfl := hv_27 hg; exact s_sne rfl rfl
  intro v_32 hv_30 hu_31
  refine g_val (s_or rfl rfl (fun hq => by obtain rfl := hv_30 hq; rfl)) ?_
  refine g_val (s_mv rfl) ?_
  refine g_gua (gb := (!(((decide (a0.Op ≠ a1.Op)) || (decide (a0.Pattern ≠ a1.Pattern))) || (decide (a0.Hold ≠ a1.Hold))))) (af := af0) (Q := fun u => u = .ptr ⟨L + 1, 2, 0⟩ g_1 0 3) rfl (wantV_false _) (fun hg => ?_) ?_
  · exact s_fa rfl rfl
  intro v_35 hv_33 hu_34
  refine g_gua (gb := (!(((decide (a0.Op ≠ a1.Op)) || (decide (a0.Pattern ≠ a1.Pattern))) || (decide (a0.Hold ≠ a1.Hold))))) (af := (some [2], some [])) (Q := fun u => u = .lit (.bool a0.Flag)) rfl (wantV_false _) (fun hg => ?_) ?_
  · obtain rfl := hv_33 hg; exact s_ldoL (v := .bool a0.Flag) (a := .lit (.bool a0.Flag)) rfl rfl (ar0).toS rfl (fun _ => relS_bool)
  intro v_38 hv_36 hu_37
  refine g_gua (gb := (!(((decide (a0.Op ≠ a1.Op)) || (decide (a0.Pattern ≠ a1.Pattern))) || (decide (a0.Hold ≠ a1.Hold))))) (af := af0) (Q := fun u => u = .ptr ⟨L + 1, 3, 0⟩ g_2 0 3) rfl (wantV_false _) (fun hg => ?_) ?_
  · exact s_fa rfl rfl
  intro v_41 hv_39 hu_40
  refine g_gua (gb := (!(((decide (a0.Op ≠ a1.Op)) || (decide (a0.Pattern ≠ a1.Pattern))) || (decide (a0.Hold ≠ a1.Hold))))) (af := (some [3], some [])) (Q := fun u => u = .lit (.bool a1.Flag)) rfl (wantV_false _) (fun hg => ?_) ?_
  · obtain rfl := hv_39 hg; exact s_ldoL (v := .bool a1.Flag) (a := .lit (.bool a1.Flag)) rfl rfl (ar1).toS rfl (fun _ => relS_bool)
  intro v_44 hv_42 hu_43
  refine g_gua (gb := (!(((decide (a0.Op ≠ a1.Op)) || (decide (a0.Pattern ≠ a1.Pattern))) || (decide (a0.Hold ≠ a1.Hold))))) (af := af0) (Q := fun u => u = .lit (.bool (decide (a0.Flag = a1.Flag) != true))) rfl (wantV_false _) (fun hg => ?_) ?_
  · obtain rfl := hv_36 hg; obtain rfl := hv_42 hg; exact s_bb rfl rfl
  intro v_47 hv_45 hu_46
  refine g_val (s_or rfl rfl (fun hq => by obtain rfl := hv_45 hq; rfl)) ?_
  refine g_val (s_mv rfl) ?_
  refine g_gua (gb := (!((((decide (a0.Op ≠ a1.Op)) || (decide (a0.Pattern ≠ a1.Pattern))) || (decide (a0.Hold ≠ a1.Hold))) || (decide (a0.Flag = a1.Flag) != true)))) (af := af0) (Q := fun u => u = .ptr ⟨L + 1, 2, 0⟩ g_1 0 4) rfl (wantV_false _) (fun hg => ?_) ?_
  · exact s_fa rfl rfl
  intro v_50 hv_48 hu_49
  refine g_gua (gb := (!((((decide (a0.Op ≠ a1.Op)) || (decide (a0.Pattern ≠ a1.Pattern))) || (decide (a0.Hold ≠ a1.Hold))) || (decide (a0.Flag = a1.Flag) != true)))) (af := (some [2], some [])) (Q := fun u => u = .lit (.int .i64 a0.Line)) rfl (wantV_false _) (fun hg => ?_) ?_
  · obtain rfl := hv_48 hg; exact s_ldoL (v := .int .i64 a0.Line) (a := .lit (.int .i64 a0.Line)) rfl rfl (ar0).toS rfl (fun _ => relS_int)
  intro v_53 hv_51 hu_52
  refine g_gua (gb := (!((((decide (a0.Op ≠ a1.Op)) || (decide (a0.Pattern ≠ a1.Pattern))) || (decide (a0.Hold ≠ a1.Hold))) || (decide (a0.Flag = a1.Flag) != true)))) (af := af0) (Q := fun u => u = .ptr ⟨L + 1, 3, 0⟩ g_2 0 4) rfl (wantV_false _) (fun hg => ?_) ?_
  · exact s_fa rfl rfl
  intro v_56 hv_54 hu_55
  refine g_gua (gb := (!((((decide (a0.Op ≠ a1.Op)) || (decide (a0.Pattern ≠ a1.Pattern))) || (decide (a0.Hold ≠ a1.Hold))) || (decide (a0.Flag = a1.Flag) != true)))) (af := (some [3], some [])) (Q := fun u => u = .lit (.int .i64 a1.Line)) rfl (wantV_false _) (fun hg => ?_) ?_
  · obtain rfl := hv_54 hg; exact s_ldoL (v := .int .i64 a1.Line) (a := .lit (.int .i64 a1.Line)) rfl rfl (ar1).toS rfl (fun _ => relS_int)
  intro v_59 hv_57 hu_58
  refine g_gua (gb := (!((((decide (a0.Op ≠ a1.Op)) || (decide (a0.Pattern ≠ a1.Pattern))) || (decide (a0.Hold ≠ a1.Hold))) || (decide (a0.Flag = a1.Flag) != true)))) (af := af0) (Q := fun u => u = .lit (.bool (decide (a0.Line ≠ a1.Line)))) rfl (wantV_false _) (fun hg => ?_) ?_
  · obtain rfl := hv_51 hg; obtain rfl := hv_57 hg; exact s_ib rfl rfl rfl
  intro v_62 hv_60 hu_61
  refine g_val (s_or rfl rfl (fun hq => by obtain rfl := hv_60 hq; rfl)) ?_
  refine g_val (s_mv rfl) ?_
  refine g_gua (gb := (!(((((decide (a0.Op ≠ a1.Op)) || (decide (a0.Pattern ≠ a1.Pattern))) || (decide (a0.Hold ≠ a1.Hold))) || (decide (a0.Flag = a1.Flag) != true)) || (decide (a0.Line ≠ a1.Line))))) (af := af0) (Q := fun u => u = .ptr ⟨L + 1, 2, 0⟩ g_1 0 7) rfl (wantV_false _) (fun hg => ?_) ?_
  · exact s_fa rfl rfl
  intro v_65 hv_63 hu_64
  refine g_gua (gb := (!(((((decide (a0.Op ≠ a1.Op)) || (decide (a0.Pattern ≠ a1.Pattern))) || (decide (a0.Hold ≠ a1.Hold))) || (decide (a0.Flag = a1.Flag) != true)) || (decide (a0.Line ≠ a1.Line))))) (af := (some [2], some [])) (Q := fun u => u = .lit (.bool a0.Done)) rfl (wantV_false _) (fun hg => ?_) ?_
  · obtain rfl := hv_63 hg; exact s_ldoL (v := .bool a0.Done) (a := .lit (.bool a0.Done)) rfl rfl (ar0).toS rfl (fun _ => relS_bool)
  intro v_68 hv_66 hu_67
  refine g_gua (gb := (!(((((decide (a0.Op ≠ a1.Op)) || (decide (a0.Pattern ≠ a1.Pattern))) || (decide (a0.Hold ≠ a1.Hold))) || (decide (a0.Flag = a1.Flag) != true)) || (decide (a0.Line ≠ a1.Line))))) (af := af0) (Q := fun u => u = .ptr ⟨L + 1, 3, 0⟩ g_2 0 7) rfl (wantV_false _) (fun hg => ?_) ?_
  · exact s_fa rfl rfl
  intro v_71 hv_69 hu_70
  refine g_gua (gb := (!(((((decide (a0.Op ≠ a1.Op)) || (decide (a0.Pattern ≠ a1.Pattern))) || (decide (a0.Hold ≠ a1.Hold))) || (decide (a0.Flag = a1.Flag) != true)) || (decide (a0.Line ≠ a1.Line))))) (af := (some [3], some [])) (Q := fun u => u = .lit (.bool a1.Done)) rfl (wantV_false _) (fun hg => ?_) ?_
  · obtain rfl := hv_69 hg; exact s_ldoL (v := .bool a1.Done) (a := .lit (.bool a1.Done)) rfl rfl (ar1).toS rfl (fun _ => relS_bool)
  intro v_74 hv_72 hu_73
  refine g_gua (gb := (!(((((decide (a0.Op ≠ a1.Op)) || (decide (a0.Pattern ≠ a1.Pattern))) || (decide (a0.Hold ≠ a1.Hold))) || (decide (a0.Flag = a1.Flag) != true)) || (decide (a0.Line ≠ a1.Line))))) (af := af0) (Q := fun u => u = .lit (.bool (decide (a0.Done = a1.Done) != true))) rfl (wantV_false _) (fun hg => ?_) ?_
  · obtain rfl := hv_66 hg; obtain rfl := hv_72 hg; exact s_bb rfl rfl
  intro v_77 hv_75 hu_76
  refine g_val (s_or rfl rfl (fun hq => by obtain rfl := hv_75 hq; rfl)) ?_
  refine g_val (s_mv rfl) ?_
  refine g_gua (gb := (!((((((decide (a0.Op ≠ a1.Op)) || (decide (a0.Pattern ≠ a1.Pattern))) || (decide (a0.Hold ≠ a1.Hold))) || (decide (a0.Flag = a1.Flag) != true)) || (decide (a0.Line ≠ a1.Line))) || (decide (a0.Done = a1.Done) != true)))) (af := af0) (Q := fun u => u = .ptr ⟨L + 1, 2, 0⟩ g_1 0 5) rfl (wantV_false _) (fun hg => ?_) ?_
  · exact s_fa rfl rfl
  intro v_80 hv_78 hu_79
  refine g_gua (gb := (!((((((decide (a0.Op ≠ a1.Op)) || (decide (a0.Pattern ≠ a1.Pattern))) || (decide (a0.Hold ≠ a1.Hold))) || (decide (a0.Flag = a1.Flag) != true)) || (decide (a0.Line ≠ a1.Line))) || (decide (a0.Done = a1.Done) != true)))) (af := (some [2], some [])) (Q := fun u => RelC (.sl 1 (a0.Ranges.map (c_int .i64))) u) rfl (wantV_false _) (fun hg => ?_) ?_
  · obtain rfl := hv_78 hg; exact s_ldoC (v := .sl 1 (a0.Ranges.map (c_int .i64))) rfl rfl ar0 rfl
  intro v_86 hv_84 hu_85
  refine g_gua (gb := (!((((((decide (a0.Op ≠ a1.Op)) || (decide (a0.Pattern ≠ a1.Pattern))) || (decide (a0.Hold ≠ a1.Hold))) || (decide (a0.Flag = a1.Flag) != true)) || (decide (a0.Line ≠ a1.Line))) || (decide (a0.Done = a1.Done) != true)))) (af := (none, some [])) (Q := fun u => u = .lit (.int .i64 (a0.Ranges.length : Int))) rfl (wantV_false _) (fun hg => ?_) ?_
  · obtain r_82 := hv_84 hg; exact s_ll (c := (c_int .i64)) rfl r_82.toS
  intro v_89 hv_87 hu_88
  refine g_gua (gb := (!((((((decide (a0.Op ≠ a1.Op)) || (decide (a0.Pattern ≠ a1.Pattern))) || (decide (a0.Hold ≠ a1.Hold))) || (decide (a0.Flag = a1.Flag) != true)) || (decide (a0.Line ≠ a1.Line))) || (decide (a0.Done = a1.Done) != true)))) (af := af0) (Q := fun u => u = .ptr ⟨L + 1, 3, 0⟩ g_2 0 5) rfl (wantV_false _) (fun hg => ?_) ?_
  · exact s_fa rfl rfl
  intro v_92 hv_90 hu_91
  refine g_gua (gb := (!((((((decide (a0.Op ≠ a1.Op)) || (decide (a0.Pattern ≠ a1.Pattern))) || (decide (a0.Hold ≠ a1.Hold))) || (decide (a0.Flag = a1.Flag) != true)) || (decide (a0.Line ≠ a1.Line))) || (decide (a0.Done = a1.Done) != true)))) (af := (some [3], some [])) (Q := fun u => RelC (.sl 1 (a1.Ranges.map (c_int .i64))) u) rfl (wantV_false _) (fun hg => ?_) ?_
  · obtain rfl := hv_90 hg; exact s_ldoC (v := .sl 1 (a1.Ranges.map (c_int .i64))) rfl rfl ar1 rfl
  intro v_98 hv_96 hu_97
  refine g_gua (gb := (!((((((decide (a0.Op ≠ a1.Op)) || (decide (a0.Pattern ≠ a1.Pattern))) || (decide (a0.Hold ≠ a1.Hold))) || (decide (a0.Flag = a1.Flag) != true)) || (decide (a0.Line ≠ a1.Line))) || (decide (a0.Done = a1.Done) != true)))) (af := (none, some [])) (Q := fun u => u = .lit (.int .i64 (a1.Ranges.length : Int))) rfl (wantV_false _) (fun hg => ?_) ?_
  · obtain r_94 := hv_96 hg; exact s_ll (c := (c_int .i64)) rfl r_94.toS
  intro v_101 hv_99 hu_100
  refine g_gua (gb := (!((((((decide (a0.Op ≠ a1.Op)) || (decide (a0.Pattern ≠ a1.Pattern))) || (decide (a0.Hold ≠ a1.Hold))) || (decide (a0.Flag = a1.Flag) != true)) || (decide (a0.Line ≠ a1.Line))) || (decide (a0.Done = a1.Done) != true)))) (af := af0) (Q := fun u => u = .lit (.bool (decide ((a0.Ranges.length : Int) ≠ (a1.Ranges.length : Int))))) rfl (wantV_false _) (fun hg => ?_) ?_
  · obtain rfl := hv_87 hg; obtain rfl := hv_99 hg; exact s_ib rfl rfl rfl
  intro v_104 hv_102 hu_103
  refine g_val (s_or rfl rfl (fun hq => by obtain rfl := hv_102 hq; rfl)) ?_
  refine g_val (s_mv rfl) ?_
  refine g_gua (gb := (!(((((((decide (a0.Op ≠ a1.Op)) || (decide (a0.Pattern ≠ a1.Pattern))) || (decide (a0.Hold ≠ a1.Hold))) || (decide (a0.Flag = a1.Flag) != true)) || (decide (a0.Line ≠ a1.Line))) || (decide (a0.Done = a1.Done) != true)) || (decide ((a0.Ranges.length : Int) ≠ (a1.Ranges.length : Int)))))) (af := af0) (Q := fun u => u = .ptr ⟨L + 1, 2, 0⟩ g_1 0 6) rfl (wantV_false _) (fun hg => ?_) ?_
  · exact s_fa rfl rfl
  intro v_107 hv_105 hu_106
  refine g_gua (gb := (!(((((((decide (a0.Op ≠ a1.Op)) || (decide (a0.Pattern ≠ a1.Pattern))) || (decide (a0.Hold ≠ a1.Hold))) || (decide (a0.Flag = a1.Flag) != true)) || (decide (a0.Line ≠ a1.Line))) || (decide (a0.Done = a1.Done) != true)) || (decide ((a0.Ranges.length : Int) ≠ (a1.Ranges.length : Int)))))) (af := (some [2], some [])) (Q := fun u => RelC (.sl 2 (a0.Queue.map c_ref19_I)) u) rfl (wantV_false _) (fun hg => ?_) ?_
  · obtain rfl := hv_105 hg; exact s_ldoC (v := .sl 2 (a0.Queue.map c_ref19_I)) rfl rfl ar0 rfl
  intro v_113 hv_111 hu_112
  refine g_gua (gb := (!(((((((decide (a0.Op ≠ a1.Op)) || (decide (a0.Pattern ≠ a1.Pattern))) || (decide (a0.Hold ≠ a1.Hold))) || (decide (a0.Flag = a1.Flag) != true)) || (decide (a0.Line ≠ a1.Line))) || (decide (a0.Done = a1.Done) != true)) || (decide ((a0.Ranges.length : Int) ≠ (a1.Ranges.length : Int)))))) (af := (none, some [])) (Q := fun u => u = .lit (.int .i64 (a0.Queue.length : Int))) rfl (wantV_false _) (fun hg => ?_) ?_
  · obtain r_109 := hv_111 hg; exact s_ll (c := c_ref19_I) rfl r_109.toS
  intro v_116 hv_114 hu_115
  refine g_gua (gb := (!(((((((decide (a0.Op ≠ a1.Op)) || (decide (a0.Pattern ≠ a1.Pattern))) || (decide (a0.Hold ≠ a1.Hold))) || (decide (a0.Flag = a1.Flag) != true)) || (decide (a0.Line ≠ a1.Line))) || (decide (a0.Done = a1.Done) != true)) || (decide ((a0.Ranges.length : Int) ≠ (a1.Ranges.length : Int)))))) (af := af0) (Q := fun u => u = .ptr ⟨L + 1, 3, 0⟩ g_2 0 6) rfl (wantV_false _) (fun hg => ?_) ?_
  · exact s_fa rfl rfl
  intro v_119 hv_117 hu_118
  refine g_gua (gb := (!(((((((decide (a0.Op ≠ a1.Op)) || (decide (a0.Pattern ≠ a1.Pattern))) || (decide (a0.Hold ≠ a1.Hold))) || (decide (a0.Flag = a1.Flag) != true)) || (decide (a0.Line ≠ a1.Line))) || (decide (a0.Done = a1.Done) != true)) || (decide ((a0.Ranges.length : Int) ≠ (a1.Ranges.length : Int)))))) (af := (some [3], some [])) (Q := fun u => RelC (.sl 2 (a1.Queue.map c_ref19_I)) u) rfl (wantV_false _) (fun hg => ?_) ?_
  · obtain rfl := hv_117 hg; exact s_ldoC (v := .sl 2 (a1.Queue.map c_ref19_I)) rfl rfl ar1 rfl
  intro v_125 hv_123 hu_124
  refine g_gua (gb := (!(((((((decide (a0.Op ≠ a1.Op)) || (decide (a0.Pattern ≠ a1.Pattern))) || (decide (a0.Hold ≠ a1.Hold))) || (decide (a0.Flag = a1.Flag) != true)) || (decide (a0.Line ≠ a1.Line))) || (decide (a0.Done = a1.Done) != true)) || (decide ((a0.Ranges.length : Int) ≠ (a1.Ranges.length : Int)))))) (af := (none, some [])) (Q := fun u => u = .lit (.int .i64 (a1.Queue.length : Int))) rfl (wantV_false _) (fun hg => ?_) ?_
  · obtain r_121 := hv_123 hg; exact s_ll (c := c_ref19_I) rfl r_121.toS
  intro v_128 hv_126 hu_127
  refine g_gua (gb := (!(((((((decide (a0.Op ≠ a1.Op)) || (decide (a0.Pattern ≠ a1.Pattern))) || (decide (a0.Hold ≠ a1.Hold))) || (decide (a0.Flag = a1.Flag) != true)) || (decide (a0.Line ≠ a1.Line))) || (decide (a0.Done = a1.Done) != true)) || (decide ((a0.Ranges.length : Int) ≠ (a1.Ranges.length : Int)))))) (af := af0) (Q := fun u => u = .lit (.bool (decide ((a0.Queue.length : Int) ≠ (a1.Queue.length : Int))))) rfl (wantV_false _) (fun hg => ?_) ?_
  · obtain rfl := hv_114 hg; obtain rfl := hv_126 hg; exact s_ib rfl rfl rfl
  intro v_131 hv_129 hu_130
  refine g_val (s_or rfl rfl (fun hq => by obtain rfl := hv_129 hq; rfl)) ?_
  refine g_end ?_
  refine g_thn ?_
  by_cases h_132 : ((((((((decide (a0.Op ≠ a1.Op)) || (decide (a0.Pattern ≠ a1.Pattern))) || (decide (a0.Hold ≠ a1.Hold))) || (decide (a0.Flag = a1.Flag) != true)) || (decide (a0.Line ≠ a1.Line))) || (decide (a0.Done = a1.Done) != true)) || (decide ((a0.Ranges.length : Int) ≠ (a1.Ranges.length : Int)))) || (decide ((a0.Queue.length : Int) ≠ (a1.Queue.length : Int)))) = true
  · replace h := iteT h h_132
    refine g_cT rfl h_132 ?_
    refine g_seq ?_
    refine g_ops ?_
    refine g_val (s_mv rfl) ?_
    refine g_end ?_
    refine g_thn ?_
    refine g_ret ?_
    refine g_thnR ?_
    have hh := Option.some.inj h
    subst hh
    exact g_res (.t rfl rfl .nil)
  · replace h := iteF h h_132
    refine g_cF rfl (Bool.eq_false_iff.2 h_132) ?_
    refine g_skip ?_
    refine g_thn ?_
    refine g_seq ?_
    refine g_seq ?_
    refine g_ops ?_
    refine g_val (s_fa rfl rfl) ?_
    refine g_stp (s_ldoC (v := .sl 1 (a0.Ranges.map (c_int .i64))) rfl rfl ar0 rfl) ?_
    rintro v_133 r_134
    refine g_val (s_ll (c := (c_int .i64)) rfl r_134.toS) ?_
    refine g_val (s_mv rfl) ?_
    refine g_end ?_
    refine g_thn ?_
    refine g_block ?_
    obtain ⟨o_152, e_153, h⟩ := bindI h
    refine g_loop (IN := ref19_Same_l0_N L (a0.Ranges.length : Int) a0 a1 g_1 ac0 g_2 ac1) (IB := ref19_Same_l0_B L (a0.Ranges.length : Int) a0 a1 g_1 ac0 g_2 ac1) (IR := fun r => RetPost L K.ref19_Same.res [.bool r]) e_153 (ref19_Same_l0_ok (a0.Ranges.length : Int) a0 a1 (g2 := g_1) (d2 := ac0) (g3 := g_2) (d3 := ac1) ar0 ar1) (fun T S hT hS => ⟨hT.sub (subE.cons rfl (subE.cons rfl (subE.cons rfl (subE.cons rfl (subE.nil _))))), hS.sub (memA_cons (i := 0) rfl (memA_cons (i := 1) rfl memA_nil))⟩) ?_
    rintro x T S hO
    cases o_152 with
    | brk s =>
      obtain ⟨rfl, hT, hS⟩ := hO
      refine (show G (.exit 0) L F.ref19_Same [(2, .ptr ⟨L + 1, 2, 0⟩ g_1 0 0), (3, .ptr ⟨L + 1, 3, 0⟩ g_2 0 0)] [.obj 2 g_1 112 ac0, .obj 3 g_2 112 ac1] (Blk 0 (Thn P K.ref19_Same_p16 (RetPost L K.ref19_Same.res [.bool r]))) from ?_) T S hT hS
      refine g_blkH ?_
      refine g_thn ?_
      refine g_seq ?_
      refine g_seq ?_
      refine g_ops ?_
      refine g_val (s_fa rfl rfl) ?_
      refine g_stp (s_ldoC (v := .sl 2 (a0.Queue.map c_ref19_I)) rfl rfl ar0 rfl) ?_
      rintro v_155 r_156
      refine g_val (s_ll (c := c_ref19_I) rfl r_156.toS) ?_
      refine g_val (s_mv rfl) ?_
      refine g_end ?_
      refine g_thn ?_
      refine g_block ?_
      obtain ⟨o_178, e_179, h⟩ := bindI h
      refine g_loop (IN := ref19_Same_l1_N L (a0.Queue.length : Int) a0 a1 g_1 ac0 g_2 ac1) (IB := ref19_Same_l1_B L (a0.Queue.length : Int) a0 a1 g_1 ac0 g_2 ac1) (IR := fun r => RetPost L K.ref19_Same.res [.bool r]) e_179 (ref19_Same_l1_ok (a0.Queue.length : Int) a0 a1 (g2 := g_1) (d2 := ac0) (g3 := g_2) (d3 := ac1) ar0 ar1) (fun T S hT hS => ⟨hT.sub (subE.cons rfl (subE.cons rfl (subE.cons rfl (subE.cons rfl (subE.nil _))))), hS.sub (memA_cons (i := 0) rfl (memA_cons (i := 1) rfl memA_nil))⟩) ?_
      rintro x T S hO
      cases o_178 with
      | brk s =>
        obtain ⟨rfl, hT, hS⟩ := hO
        refine (show G (.exit 2) L F.ref19_Same [] [] (Blk 2 (Thn P K.ref19_Same_p14 (RetPost L K.ref19_Same.res [.bool r]))) from ?_) T S hT hS
        refine g_blkH ?_
        refine g_thn ?_
        refine g_seq ?_
        refine g_ops ?_
        refine g_val (s_mv rfl) ?_
        refine g_end ?_
        refine g_thn ?_
        refine g_ret ?_
        have hh := Option.some.inj h
        subst hh
        exact g_res (.t rfl rfl .nil)
      | ret r =>
        have hh := Option.some.inj h
        subst hh
        obtain ⟨rfl, hO⟩ := hO
        exact hO
    | ret r =>
      have hh := Option.some.inj h
      subst hh
      obtain ⟨rfl, hO⟩ := hO
      exact hO
end Go.Proofs.YtaiohgabpbgkdaaGreatDoor

namespace Go.Proofs.YtaiohgabpbgkdaaGreatDoor
open Go.RowKit

def law19_stated_l0_N (L : Nat) (p24 : (List D.ref19_I)) (p25 : Int) (q2 : D.mach_State) (v24 : AV) (g2 : Nat) (d2 : List AV) (g3 : Nat)  : (Int × D.mach_State) → BT → AS → Prop := fun (p26, q3) T S => ∃ (d3 : List AV) (w3_6 : AV), RelSL (L + 1) (c_mach_State q3) d3 ∧ d3[6]? = some w3_6 ∧ Ag [(2, .ptr ⟨L + 1, 2, 0⟩ g2 0 0), (3, .ptr ⟨L + 1, 3, 0⟩ g3 0 0), (24, v24), (25, .lit (.int .i64 p25)), (26, .lit (.int .i64 p26))] T ∧ StA S L F.law19_stated [.obj 2 g2 118 d2, .obj 3 g3 118 d3, .tok [38] 2 213 w3_6]
def law19_stated_l0_B (L : Nat) (p24 : (List D.ref19_I)) (p25 : Int) (q2 : D.mach_State) (v24 : AV) (g2 : Nat) (d2 : List AV) (g3 : Nat)  : D.mach_State → BT → AS → Prop := fun q3 T S => ∃ (d3 : List AV) (w3_6 : AV), RelSL (L + 1) (c_mach_State q3) d3 ∧ d3[6]? = some w3_6 ∧ Ag [(2, .ptr ⟨L + 1, 2, 0⟩ g2 0 0), (3, .ptr ⟨L + 1, 3, 0⟩ g3 0 0)] T ∧ StA S L F.law19_stated [.obj 2 g2 118 d2, .obj 3 g3 118 d3, .tok [38] 2 213 w3_6]
set_option maxRecDepth 100000 in
theorem law19_stated_l0_ok {P : Program} [hc : CodeAll P] {L : Nat} (p24 : (List D.ref19_I)) (p25 : Int) (q2 : D.mach_State) {v24 : AV} {g2 : Nat} {d2 : List AV} {g3 : Nat} (r24 : RelC (.sl 2 (p24.map c_ref19_I)) v24) (s2 : RelCL (c_mach_State q2) d2) : ∀ (s : (Int × D.mach_State)) (c : Ctl (Int × D.mach_State) D.mach_State D.mach_State), law19_stated_l0 p24 p25 q2 s = some c → ∀ T S, law19_stated_l0_N L p24 p25 q2 v24 g2 d2 g3 s T S → RunB P K.law19_stated_p4 T S (LPost 0 (law19_stated_l0_N L p24 p25 q2 v24 g2 d2 g3) (law19_stated_l0_B L p24 p25 q2 v24 g2 d2 g3) (fun r => RetPost L K.law19_stated.res [.agg (c_mach_State r)]) c) := by
  rintro ⟨p26, q3⟩ c h T S ⟨d3, w3_6, s3, f3_6, hT, hS⟩
  unfold law19_stated_l0 at h
  refine (show GC P K.law19_stated_p4 L F.law19_stated [(2, .ptr ⟨L + 1, 2, 0⟩ g2 0 0), (3, .ptr ⟨L + 1, 3, 0⟩ g3 0 0), (24, v24), (25, .lit (.int .i64 p25)), (26, .lit (.int .i64 p26))] [.obj 2 g2 118 d2, .obj 3 g3 118 d3, .tok [38] 2 213 w3_6] (LPost 0 (law19_stated_l0_N L p24 p25 q2 v24 g2 d2 g3) (law19_stated_l0_B L p24 p25 q2 v24 g2 d2 g3) (fun r => RetPost L K.law19_stated.res [.agg (c_mach_State r)]) c) from ?_) T S hT hS
  refine g_seq ?_
  refine g_ops ?_
  refine g_val (s_ib rfl rfl rfl) ?_
  refine g_end ?_
  refine g_thn ?_
  refine g_seq ?_
  by_cases h_25 : p26 < p25
  · replace h := iteT h h_25
    refine g_cT rfl (decide_eq_true h_25) ?_
    refine g_skip ?_
    refine g_thn ?_
    refine g_seq ?_
    refine g_block ?_
    refine g_seq ?_
    refine g_ops ?_
    obtain ⟨x_28, e_29, h⟩ := bindI h
    refine g_stp (s_ia (c := c_ref19_I) rfl r24.toS rfl e_29) ?_
    rintro _ ⟨c_26, rfl, r_27⟩
    refine g_stp (s_ldnc (N := c_ref19_I x_28) rfl r_27 rfl rfl) ?_
    rintro _ ⟨c_30, rfl, r_31⟩
    refine g_al rfl fun g_32 => ?_
    refine g_stC (Xs := c_ref19_I x_28) (M' := c_ref19_I x_28) rfl rfl rfl rfl z_ref19_I r_31 rfl rfl rfl fun d_33 s_34 q_35 => ?_
    refine g_end ?_
    refine g_thn ?_
    refine g_ops ?_
    refine g_val (s_fa rfl rfl) ?_
    refine g_stp (s_ldo (v := .sl 2 (q3.Queue.map c_mach_Item)) rfl rfl s3 rfl) ?_
    rintro v_36 ⟨r_37, f_38⟩
    obtain rfl : w3_6 = v_36 := Option.some.inj (f3_6.symm.trans f_38)
    refine g_val (s_fa rfl rfl) ?_
    refine g_val (s_ldoL (v := .bool x_28.File) (a := .lit (.bool x_28.File)) rfl rfl (s_34).toS rfl (fun _ => relS_bool)) ?_
    refine g_val (s_fa rfl rfl) ?_
    refine g_val (s_ldoL (v := .str x_28.Text) (a := .lit (.string (bs x_28.Text))) rfl rfl (s_34).toS rfl (fun _ => relS_str)) ?_
    refine g_stp (s_bdC (M' := c_mach_Item (D.mach_Item.mk x_28.File x_28.Text)) z_mach_Item (.cons (Xs := [.bool x_28.File]) rfl (relCL_bool _) rfl rfl (.cons (Xs := [.str x_28.Text]) rfl (relCL_str _) rfl rfl (.nil _))) rfl) ?_
    rintro _ ⟨c_39, rfl, r_40, kf_41⟩
    refine g_stp (s_bsl (es' := List.map c_mach_Item [(D.mach_Item.mk x_28.File x_28.Text)]) rfl (.cons (Xs := c_mach_Item (D.mach_Item.mk x_28.File x_28.Text)) rfl r_40 rfl .nil) rfl) ?_
    rintro v_42 ⟨r_43, k_44⟩
    obtain ⟨x_45, e_46, h⟩ := bindI h
    refine g_apC (i := 2) (c := c_mach_Item) rfl rfl rfl rfl r_37 r_43 rfl rfl e_46 fun v_47 r_48 => ?_
    refine g_val (s_fa rfl rfl) ?_
    refine g_st (Xs := [.sl 2 (x_45.map c_mach_Item)]) (M' := c_mach_State { q3 with Queue := x_45 }) rfl rfl rfl rfl s3 (relSL1 r_48) rfl rfl rfl fun d_49 s_50 q_51 => ?_
    have f_52 : d_49[6]? = some v_47 := by rw [q_51]; exact splice_at r_48.cells (by rw [s3.length]; exact of_blt rfl)
    refine g_end ?_
    refine g_blkN ?_
    refine g_thn ?_
    refine g_ops ?_
    refine g_val (s_ib rfl rfl rfl) ?_
    refine g_val (s_mv rfl) ?_
    refine g_end ?_
    have hh := Option.some.inj h
    subst hh
    exact fun T S hT hS => ⟨rfl, ⟨d_49, v_47, s_50, f_52, hT.sub (subE.cons rfl (subE.cons rfl (subE.cons rfl (subE.cons rfl (subE.cons rfl (subE.nil _)))))), hS.sub (memA_cons (i := 0) rfl (memA_cons (i := 1) rfl (memA_cons (i := 2) rfl memA_nil)))⟩⟩
  · replace h := iteF h h_25
    refine g_cF rfl (decide_eq_false h_25) ?_
    refine g_exit ?_
    refine g_thnX ?_
    have hh := Option.some.inj h
    subst hh
    exact fun T S hT hS => ⟨rfl, ⟨d3, w3_6, s3, f3_6, hT.sub (subE.cons rfl (subE.cons rfl (subE.nil _))), hS.sub (memA_cons (i := 0) rfl (memA_cons (i := 1) rfl (memA_cons (i := 2) rfl memA_nil)))⟩⟩
def S.law19_stated (P : Program) (φ : D.ref19_S → Option D.mach_State) : Prop := ∀ (a0 : D.ref19_S) (r : D.mach_State), φ a0 = some r → ∀ (k0 : Nat) (args : List AV), RVL k0 [.agg (c_ref19_S a0)] args → CallR P F.law19_stated args (ResC [.agg (c_mach_State r)])
set_option maxRecDepth 100000 in
theorem ok_law19_stated {P : Program} [hc : CodeAll P] : S.law19_stated P (law19_stated) := by
  intro a0 r h k0 args ha
  refine call_intro (b := K.law19_stated) rfl hc.law19_stated (fun _ => rfl) rfl rfl ?_ ha
  rintro L _ ⟨_, _, rfl, ⟨ac0, rfl, ar0⟩, rfl⟩
  unfold law19_stated at h
  show GC P _ L F.law19_stated [(0, .agg ac0)] [] (RetPost L K.law19_stated.res [.agg (c_mach_State r)])
  refine g_seq ?_
  refine g_ops ?_
  refine g_bx rfl rfl rfl fun g_1 => ?_
  refine g_al rfl fun g_2 => ?_
  refine g_end ?_
  refine g_thn ?_
  refine g_seq ?_
  refine g_draw ?_
  refine g_val (s_fa rfl rfl) ?_
  refine g_val (s_ldoL (v := .int .i64 a0.Op) (a := .lit (.int .i64 a0.Op)) rfl rfl (ar0).toS rfl (fun _ => relS_int)) ?_
  refine g_val (s_fa rfl rfl) ?_
  refine g_val (s_ldoL (v := .str a0.Pattern) (a := .lit (.string (bs a0.Pattern))) rfl rfl (ar0).toS rfl (fun _ => relS_str)) ?_
  refine g_val (s_fa rfl rfl) ?_
  refine g_val (s_ldoL (v := .str a0.Hold) (a := .lit (.string (bs a0.Hold))) rfl rfl (ar0).toS rfl (fun _ => relS_str)) ?_
  refine g_val (s_fa rfl rfl) ?_
  refine g_val (s_ldoL (v := .bool a0.Flag) (a := .lit (.bool a0.Flag)) rfl rfl (ar0).toS rfl (fun _ => relS_bool)) ?_
  refine g_val (s_fa rfl rfl) ?_
  refine g_val (s_ldoL (v := .int .i64 a0.Line) (a := .lit (.int .i64 a0.Line)) rfl rfl (ar0).toS rfl (fun _ => relS_int)) ?_
  refine g_stp (s_bsl (es' := List.map (c_int .i64) []) rfl .nil rfl) ?_
  rintro v_3 ⟨r_4, k_5⟩
  refine g_val (s_fa rfl rfl) ?_
  refine g_stp (s_ldoC (v := .sl 1 (a0.Ranges.map (c_int .i64))) rfl rfl ar0 rfl) ?_
  rintro v_6 r_7
  obtain ⟨x_9, e_10, h⟩ := bindI h
  refine g_add (ks := [19]) (n := 1) (e := 3) (x := v_3) (.inr k_5) ?_
  refine g_apC (i := 0) (c := (c_int .i64)) rfl rfl rfl rfl r_4.toS r_7 rfl rfl e_10 fun v_11 r_12 => ?_
  refine g_val (s_fa rfl rfl) ?_
  refine g_val (s_ldoL (v := .bool a0.Done) (a := .lit (.bool a0.Done)) rfl rfl (ar0).toS rfl (fun _ => relS_bool)) ?_
  refine g_stp (s_bd (M' := c_mach_State (D.mach_State.mk a0.Op a0.Pattern a0.Hold a0.Flag a0.Line x_9 [] a0.Done)) z_mach_State.toS (.cons (Xs := [.int .i64 a0.Op]) rfl (relSL_int _ _) rfl rfl (.cons (Xs := [.str a0.Pattern]) rfl (relSL_str _) rfl rfl (.cons (Xs := [.str a0.Hold]) rfl (relSL_str _) rfl rfl (.cons (Xs := [.bool a0.Flag]) rfl (relSL_bool _) rfl rfl (.cons (Xs := [.int .i64 a0.Line]) rfl (relSL_int _ _) rfl rfl (.cons (Xs := [.sl 1 (x_9.map (c_int .i64))]) rfl (relSL1 r_12) rfl rfl (.cons (Xs := [.bool a0.Done]) rfl (relSL_bool _) rfl rfl (.nil _)))))))) rfl) ?_
  rintro _ ⟨c_13, rfl, r_14, kf_15⟩
  refine g_al rfl fun g_16 => ?_
  refine g_add (ks := [38]) (n := 2) (e := 213) (x := (.lit (.slice none 0 0))) (.inl ⟨_, rfl⟩) ?_
  refine g_st (Xs := c_mach_State (D.mach_State.mk a0.Op a0.Pattern a0.Hold a0.Flag a0.Line x_9 [] a0.Done)) (M' := c_mach_State (D.mach_State.mk a0.Op a0.Pattern a0.Hold a0.Flag a0.Line x_9 [] a0.Done)) rfl rfl rfl rfl (z_mach_State).toS r_14 rfl rfl rfl fun d_18 s_19 q_20 => ?_
  have f_21 : d_18[6]? = some ((.lit (.slice none 0 0))) := by rw [q_20]; exact splice_in (off := 0) (j := 6) (kf_15 6 rfl) (Nat.zero_le _)
  refine g_endD rfl ?_
  refine g_thn ?_
  refine g_seq ?_
  refine g_seq ?_
  refine g_ops ?_
  refine g_val (s_fa rfl rfl) ?_
  refine g_stp (s_ldoC (v := .sl 2 (a0.Queue.map c_ref19_I)) rfl rfl ar0 rfl) ?_
  rintro v_22 r_23
  refine g_val (s_ll (c := c_ref19_I) rfl r_23.toS) ?_
  refine g_val (s_mv rfl) ?_
  refine g_end ?_
  refine g_thn ?_
  refine g_block ?_
  obtain ⟨o_53, e_54, h⟩ := bindI h
  refine g_loop (IN := law19_stated_l0_N L a0.Queue (a0.Queue.length : Int) (D.mach_State.mk 0 [] [] false 0 [] [] false) v_22 g_2 [.lit (.int .i64 0), .lit (.string (bs [])), .lit (.string (bs [])), .lit (.bool false), .lit (.int .i64 0), .lit (.slice none 0 0), .lit (.slice none 0 0), .lit (.bool false)] g_16) (IB := law19_stated_l0_B L a0.Queue (a0.Queue.length : Int) (D.mach_State.mk 0 [] [] false 0 [] [] false) v_22 g_2 [.lit (.int .i64 0), .lit (.string (bs [])), .lit (.string (bs [])), .lit (.bool false), .lit (.int .i64 0), .lit (.slice none 0 0), .lit (.slice none 0 0), .lit (.bool false)] g_16) (IR := fun r => RetPost L K.law19_stated.res [.agg (c_mach_State r)]) e_54 (law19_stated_l0_ok a0.Queue (a0.Queue.length : Int) (D.mach_State.mk 0 [] [] false 0 [] [] false) (v24 := v_22) (g2 := g_2) (d2 := [.lit (.int .i64 0), .lit (.string (bs [])), .lit (.string (bs [])), .lit (.bool false), .lit (.int .i64 0), .lit (.slice none 0 0), .lit (.slice none 0 0), .lit (.bool false)]) (g3 := g_16) r_23 z_mach_State) (fun T S hT hS => ⟨d_18, ((.lit (.slice none 0 0))), s_19, f_21, hT.sub (subE.cons rfl (subE.cons rfl (subE.cons rfl (subE.cons rfl (subE.cons rfl (subE.nil _)))))), hS.sub (memA_cons (i := 3) rfl (memA_cons (i := 4) rfl (memA_cons (i := 0) rfl memA_nil)))⟩) ?_
  rintro x T S hO
  cases o_53 with
  | brk q3b_55 =>
    obtain ⟨rfl, d3b_55, w3_6b_55, s3b_55, f3_6b_55, hT, hS⟩ := hO
    refine (show G (.exit 0) L F.law19_stated [(2, .ptr ⟨L + 1, 2, 0⟩ g_2 0 0), (3, .ptr ⟨L + 1, 3, 0⟩ g_16 0 0)] [.obj 2 g_2 118 [.lit (.int .i64 0), .lit (.string (bs [])), .lit (.string (bs [])), .lit (.bool false), .lit (.int .i64 0), .lit (.slice none 0 0), .lit (.slice none 0 0), .lit (.bool false)], .obj 3 g_16 118 d3b_55, .tok [38] 2 213 w3_6b_55] (Blk 0 (Thn P K.law19_stated_p5 (RetPost L K.law19_stated.res [.agg (c_mach_State r)]))) from ?_) T S hT hS
    refine g_blkH ?_
    refine g_thn ?_
    refine g_seq ?_
    refine g_ops ?_
    refine g_stp (s_ldno (N := c_mach_State q3b_55) rfl rfl s3b_55 rfl rfl) ?_
    rintro _ ⟨c_56, rfl, r_57, _⟩
    refine g_st (Xs := c_mach_State q3b_55) (M' := c_mach_State q3b_55) rfl rfl rfl rfl (z_mach_State).toS r_57 rfl rfl rfl fun d_58 s_59 q_60 => ?_
    refine g_end ?_
    refine g_thn ?_
    refine g_ret ?_
    have hh := Option.some.inj h
    subst hh
    exact g_res (.cn rfl rfl s_59 rfl .nil)
  | ret r =>
    have hh := Option.some.inj h
    subst hh
    obtain ⟨rfl, hO⟩ := hO
    exact hO
def S.law19_MachSames (P : Program) (φ : D.ref19_S → D.ref19_S → Option Bool) : Prop := ∀ (a0 : D.ref19_S) (a1 : D.ref19_S) (r : Bool), φ a0 a1 = some r → ∀ (k0 : Nat) (args : List AV), RVL k0 [.agg (c_ref19_S a0), .agg (c_ref19_S a1)] args → CallR P F.law19_MachSames args (ResC [.bool r])
set_option maxRecDepth 100000 in
theorem ok_law19_MachSames {P : Program} [hc : CodeAll P] : S.law19_MachSames P (law19_MachSames) := by
  intro a0 a1 r h k0 args ha
  refine call_intro (b := K.law19_MachSames) rfl hc.law19_MachSames (fun _ => rfl) rfl rfl ?_ ha
  rintro L _ ⟨_, _, rfl, ⟨ac0, rfl, ar0⟩, _, _, rfl, ⟨ac1, rfl, ar1⟩, rfl⟩
  unfold law19_MachSames at h
  show GC P _ L F.law19_MachSames [(0, .agg ac0), (1, .agg ac1)] [] (RetPost L K.law19_MachSames.res [.bool r])
  refine g_seq ?_
  refine g_ops ?_
  refine g_bx rfl rfl rfl fun g_1 => ?_
  refine g_bx rfl rfl rfl fun g_2 => ?_
  refine g_val (s_mv rfl) ?_
  refine g_end ?_
  refine g_thn ?_
  refine g_seq ?_
  refine g_seq ?_
  refine g_ops ?_
  obtain ⟨x_3, e_4, h⟩ := bindI h
  refine g_stp (s_clX (fun _ => rfl) rfl rfl (hc.ext_law19_awake _ e_4)) ?_
  rintro _ rfl
  refine g_val (s_nt rfl) ?_
  refine g_val (s_mv rfl) ?_
  refine g_gua (gb := (!(!x_3))) (af := af0) (Q := fun u => u = .ptr ⟨L + 1, 2, 0⟩ g_1 0 5) rfl (wantV_false _) (fun hg => ?_) ?_
  · exact s_fa rfl rfl
  intro v_7 hv_5 hu_6
  refine g_gua (gb := (!(!x_3))) (af := (some [2], some [])) (Q := fun u => RelC (.sl 1 (a0.Ranges.map (c_int .i64))) u) rfl (wantV_false _) (fun hg => ?_) ?_
  · obtain rfl := hv_5 hg; exact s_ldoC (v := .sl 1 (a0.Ranges.map (c_int .i64))) rfl rfl ar0 rfl
  intro v_13 hv_11 hu_12
  refine g_gua (gb := (!(!x_3))) (af := (none, some [])) (Q := fun u => u = .lit (.int .i64 (a0.Ranges.length : Int))) rfl (wantV_false _) (fun hg => ?_) ?_
  · obtain r_9 := hv_11 hg; exact s_ll (c := (c_int .i64)) rfl r_9.toS
  intro v_16 hv_14 hu_15
  refine g_gua (gb := (!(!x_3))) (af := af0) (Q := fun u => u = .lit (.bool (decide ((a0.Ranges.length : Int) > 30)))) rfl (wantV_false _) (fun hg => ?_) ?_
  · obtain rfl := hv_14 hg; exact s_ib rfl rfl rfl
  intro v_19 hv_17 hu_18
  refine g_val (s_or rfl rfl (fun hq => by obtain rfl := hv_17 hq; rfl)) ?_
  refine g_val (s_mv rfl) ?_
  refine g_gua (gb := (!((!x_3) || (decide ((a0.Ranges.length : Int) > 30))))) (af := af0) (Q := fun u => u = .ptr ⟨L + 1, 3, 0⟩ g_2 0 5) rfl (wantV_false _) (fun hg => ?_) ?_
  · exact s_fa rfl rfl
  intro v_22 hv_20 hu_21
  refine g_gua (gb := (!((!x_3) || (decide ((a0.Ranges.length : Int) > 30))))) (af := (some [3], some [])) (Q := fun u => RelC (.sl 1 (a1.Ranges.map (c_int .i64))) u) rfl (wantV_false _) (fun hg => ?_) ?_
  · obtain rfl := hv_20 hg; exact s_ldoC (v := .sl 1 (a1.Ranges.map (c_int .i64))) rfl rfl ar1 rfl
  intro v_28 hv_26 hu_27
  refine g_gua (gb := (!((!x_3) || (decide ((a0.Ranges.length : Int) > 30))))) (af := (none, some [])) (Q := fun u => u = .lit (.int .i64 (a1.Ranges.length : Int))) rfl (wantV_false _) (fun hg => ?_) ?_
  · obtain r_24 := hv_26 hg; exact s_ll (c := (c_int .i64)) rfl r_24.toS
  intro v_31 hv_29 hu_30
  refine g_gua (gb := (!((!x_3) || (decide ((a0.Ranges.length : Int) > 30))))) (af := af0) (Q := fun u => u = .lit (.bool (decide ((a1.Ranges.length : Int) > 30)))) rfl (wantV_false _) (fun hg => ?_) ?_
  · obtain rfl := hv_29 hg; exact s_ib rfl rfl rfl
  intro v_34 hv_32 hu_33
  refine g_val (s_or rfl rfl (fun hq => by obtain rfl := hv_32 hq; rfl)) ?_
  refine g_val (s_mv rfl) ?_
  refine g_gua (gb := (!(((!x_3) || (decide ((a0.Ranges.length : Int) > 30))) || (decide ((a1.Ranges.length : Int) > 30))))) (af := af0) (Q := fun u => u = .ptr ⟨L + 1, 2, 0⟩ g_1 0 6) rfl (wantV_false _) (fun hg => ?_) ?_
  · exact s_fa rfl rfl
  intro v_37 hv_35 hu_36
  refine g_gua (gb := (!(((!x_3) || (decide ((a0.Ranges.length : Int) > 30))) || (decide ((a1.Ranges.length : Int) > 30))))) (af := (some [2], some [])) (Q := fun u => RelC (.sl 2 (a0.Queue.map c_ref19_I)) u) rfl (wantV_false _) (fun hg => ?_) ?_
  · obtain rfl := hv_35 hg; exact s_ldoC (v := .sl 2 (a0.Queue.map c_ref19_I)) rfl rfl ar0 rfl
  intro v_43 hv_41 hu_42
  refine g_gua (gb := (!(((!x_3) || (decide ((a0.Ranges.length : Int) > 30))) || (decide ((a1.Ranges.length : Int) > 30))))) (af := (none, some [])) (Q := fun u => u = .lit (.int .i64 (a0.Queue.length : Int))) rfl (wantV_false _) (fun hg => ?_) ?_
  · obtain r_39 := hv_41 hg; exact s_ll (c := c_ref19_I) rfl r_39.toS
  intro v_46 hv_44 hu_45
  refine g_gua (gb := (!(((!x_3) || (decide ((a0.Ranges.length : Int) > 30))) || (decide ((a1.Ranges.length : Int) > 30))))) (af := af0) (Q := fun u => u = .lit (.bool (decide ((a0.Queue.length : Int) > 30)))) rfl (wantV_false _) (fun hg => ?_) ?_
  · obtain rfl := hv_44 hg; exact s_ib rfl rfl rfl
  intro v_49 hv_47 hu_48
  refine g_val (s_or rfl rfl (fun hq => by obtain rfl := hv_47 hq; rfl)) ?_
  refine g_val (s_mv rfl) ?_
  refine g_gua (gb := (!((((!x_3) || (decide ((a0.Ranges.length : Int) > 30))) || (decide ((a1.Ranges.length : Int) > 30))) || (decide ((a0.Queue.length : Int) > 30))))) (af := af0) (Q := fun u => u = .ptr ⟨L + 1, 3, 0⟩ g_2 0 6) rfl (wantV_false _) (fun hg => ?_) ?_
  · exact s_fa rfl rfl
  intro v_52 hv_50 hu_51
  refine g_gua (gb := (!((((!x_3) || (decide ((a0.Ranges.length : Int) > 30))) || (decide ((a1.Ranges.length : Int) > 30))) || (decide ((a0.Queue.length : Int) > 30))))) (af := (some [3], some [])) (Q := fun u => RelC (.sl 2 (a1.Queue.map c_ref19_I)) u) rfl (wantV_false _) (fun hg => ?_) ?_
  · obtain rfl := hv_50 hg; exact s_ldoC (v := .sl 2 (a1.Queue.map c_ref19_I)) rfl rfl ar1 rfl
  intro v_58 hv_56 hu_57
  refine g_gua (gb := (!((((!x_3) || (decide ((a0.Ranges.length : Int) > 30))) || (decide ((a1.Ranges.length : Int) > 30))) || (decide ((a0.Queue.length : Int) > 30))))) (af := (none, some [])) (Q := fun u => u = .lit (.int .i64 (a1.Queue.length : Int))) rfl (wantV_false _) (fun hg => ?_) ?_
  · obtain r_54 := hv_56 hg; exact s_ll (c := c_ref19_I) rfl r_54.toS
  intro v_61 hv_59 hu_60
  refine g_gua (gb := (!((((!x_3) || (decide ((a0.Ranges.length : Int) > 30))) || (decide ((a1.Ranges.length : Int) > 30))) || (decide ((a0.Queue.length : Int) > 30))))) (af := af0) (Q := fun u => u = .lit (.bool (decide ((a1.Queue.length : Int) > 30)))) rfl (wantV_false _) (fun hg => ?_) ?_
  · obtain rfl := hv_59 hg; exact s_ib rfl rfl rfl
  intro v_64 hv_62 hu_63
  refine g_val (s_or rfl rfl (fun hq => by obtain rfl := hv_62 hq; rfl)) ?_
  refine g_end ?_
  refine g_thn ?_
  by_cases h_65 : (((((!x_3) || (decide ((a0.Ranges.length : Int) > 30))) || (decide ((a1.Ranges.length : Int) > 30))) || (decide ((a0.Queue.length : Int) > 30))) || (decide ((a1.Queue.length : Int) > 30))) = true
  · replace h := iteT h h_65
    refine g_cT rfl h_65 ?_
    refine g_seq ?_
    refine g_ops ?_
    obtain ⟨x_66, e_67, h⟩ := bindI h
    refine g_stp (s_clX (fun _ => rfl) rfl rfl (hc.ext_law19_awake _ e_67)) ?_
    rintro _ rfl
    refine g_val (s_mv rfl) ?_
    refine g_end ?_
    refine g_thn ?_
    refine g_ret ?_
    refine g_thnR ?_
    have hh := Option.some.inj h
    subst hh
    exact g_res (.t rfl rfl .nil)
  · replace h := iteF h h_65
    refine g_cF rfl (Bool.eq_false_iff.2 h_65) ?_
    refine g_skip ?_
    refine g_thn ?_
    refine g_seq ?_
    refine g_draw ?_
    refine g_stp (s_ldnoC (N := c_ref19_S a0) rfl rfl ar0 rfl rfl) ?_
    rintro _ ⟨c_68, rfl, r_69⟩
    obtain ⟨x_70, e_71, h⟩ := bindI h
    refine g_stp (s_clC (fun _ => rfl) rfl (by simp [AV.closedL, AV.closed, r_69.closed]) ((ok_law19_stated) _ _ e_71 (L + 1) _ ⟨_, _, rfl, ⟨_, rfl, r_69.toS⟩, rfl⟩)) ?_
    rintro _ ⟨c_72, rfl, r_73⟩
    refine g_stp (s_ldnoC (N := c_ref19_S a1) rfl rfl ar1 rfl rfl) ?_
    rintro _ ⟨c_74, rfl, r_75⟩
    obtain ⟨x_76, e_77, h⟩ := bindI h
    refine g_stp (s_clC (fun _ => rfl) rfl (by simp [AV.closedL, AV.closed, r_75.closed]) ((ok_law19_stated) _ _ e_77 (L + 1) _ ⟨_, _, rfl, ⟨_, rfl, r_75.toS⟩, rfl⟩)) ?_
    rintro _ ⟨c_78, rfl, r_79⟩
    obtain ⟨x_80, e_81, h⟩ := bindI h
    refine g_stp (s_clC (fun _ => rfl) rfl (by simp [AV.closedL, AV.closed, r_79.closed, r_73.closed]) ((ok_mach_Same) _ _ _ e_81 (L + 1) _ ⟨_, _, rfl, ⟨_, rfl, r_73.toS⟩, _, _, rfl, ⟨_, rfl, r_79.toS⟩, rfl⟩)) ?_
    rintro _ rfl
    refine g_stp (s_ldnoC (N := c_ref19_S a0) rfl rfl ar0 rfl rfl) ?_
    rintro _ ⟨c_82, rfl, r_83⟩
    refine g_stp (s_ldnoC (N := c_ref19_S a1) rfl rfl ar1 rfl rfl) ?_
    rintro _ ⟨c_84, rfl, r_85⟩
    obtain ⟨x_86, e_87, h⟩ := bindI h
    refine g_stp (s_clC (fun _ => rfl) rfl (by simp [AV.closedL, AV.closed, r_85.closed, r_83.closed]) ((ok_ref19_Same) _ _ _ e_87 (L + 1) _ ⟨_, _, rfl, ⟨_, rfl, r_83.toS⟩, _, _, rfl, ⟨_, rfl, r_85.toS⟩, rfl⟩)) ?_
    rintro _ rfl
    refine g_val (s_bb rfl rfl) ?_
    refine g_val (s_mv rfl) ?_
    refine g_gua (gb := (decide (x_80 = x_86) != false)) (af := (some [2], some [])) (Q := fun u => ∃ zs, u = .agg zs ∧ RelCL (c_ref19_S a0) zs) rfl (wantV_true _) (fun hg => ?_) ?_
    · exact s_ldnoC (N := c_ref19_S a0) rfl rfl ar0 rfl rfl
    intro v_92 hv_90 hu_91
    obtain ⟨x_93, e_94, h⟩ := bindI h
    refine g_gua (gb := (decide (x_80 = x_86) != false)) (af := af0) (Q := ResC [.agg (c_mach_State x_93)]) rfl (wantV_true _) (fun hg => ?_) ?_
    · obtain ⟨c_88, rfl, r_89⟩ := hv_90 hg; exact s_clC (fun _ => rfl) rfl (by simp [AV.closedL, AV.closed, r_89.closed]) ((ok_law19_stated) _ _ (whenT e_94 hg) (L + 1) _ ⟨_, _, rfl, ⟨_, rfl, r_89.toS⟩, rfl⟩)
    intro v_99 hv_97 hu_98
    refine g_gua (gb := (decide (x_80 = x_86) != false)) (af := (some [2], some [])) (Q := fun u => ∃ zs, u = .agg zs ∧ RelCL (c_ref19_S a0) zs) rfl (wantV_true _) (fun hg => ?_) ?_
    · exact s_ldnoC (N := c_ref19_S a0) rfl rfl ar0 rfl rfl
    intro v_104 hv_102 hu_103
    obtain ⟨x_105, e_106, h⟩ := bindI h
    refine g_gua (gb := (decide (x_80 = x_86) != false)) (af := af0) (Q := ResC [.agg (c_mach_State x_105)]) rfl (wantV_true _) (fun hg => ?_) ?_
    · obtain ⟨c_100, rfl, r_101⟩ := hv_102 hg; exact s_clC (fun _ => rfl) rfl (by simp [AV.closedL, AV.closed, r_101.closed]) ((ok_law19_stated) _ _ (whenT e_106 hg) (L + 1) _ ⟨_, _, rfl, ⟨_, rfl, r_101.toS⟩, rfl⟩)
    intro v_111 hv_109 hu_110
    obtain ⟨x_112, e_113, h⟩ := bindI h
    refine g_gua (gb := (decide (x_80 = x_86) != false)) (af := af0) (Q := ResC [.bool x_112]) rfl (wantV_true _) (fun hg => ?_) ?_
    · obtain ⟨c_107, rfl, r_108⟩ := hv_109 hg; obtain ⟨c_95, rfl, r_96⟩ := hv_97 hg; exact s_clC (fun _ => rfl) rfl (by simp [AV.closedL, AV.closed, r_108.closed, r_96.closed]) ((ok_mach_Same) _ _ _ (whenT e_113 hg) (L + 1) _ ⟨_, _, rfl, ⟨_, rfl, r_96.toS⟩, _, _, rfl, ⟨_, rfl, r_108.toS⟩, rfl⟩)
    intro v_116 hv_114 hu_115
    refine g_val (s_and rfl rfl (fun hq => by obtain rfl := hv_114 hq; rfl)) ?_
    refine g_val (s_mv rfl) ?_
    refine g_endD rfl ?_
    refine g_thn ?_
    refine g_ret ?_
    have hh := Option.some.inj h
    subst hh
    exact g_res (.t rfl rfl .nil)
end Go.Proofs.YtaiohgabpbgkdaaGreatDoor
