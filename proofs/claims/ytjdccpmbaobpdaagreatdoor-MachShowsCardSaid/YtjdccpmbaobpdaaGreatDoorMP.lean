/-
  The code is these functions: written by a program.
-/
import Derived.Test.YtjdccpmbaobpdaaGreatDoorGD
import Derived.Test.YtjdccpmbaobpdaaGreatDoorGK
namespace Go.Proofs.YtjdccpmbaobpdaaGreatDoor
open Go.RowKit

def S.mach_Shown (P : Program) (φ : List UInt8 → Option (List UInt8)) : Prop := ∀ (a0 : List UInt8) (r : List UInt8), φ a0 = some r → ∀ (k0 : Nat) (args : List AV), RVL k0 [.str a0] args → CallR P F.mach_Shown args (ResC [.str r])
def mach_Shown_l0_N (L : Nat) (p0 : List UInt8) (p7 : Int) (g3 : Nat)  : (Int × List UInt8) → BT → AS → Prop := fun (p8, q3) T S => Ag [(0, .lit (.string (bs p0))), (3, .ptr ⟨L + 1, 3, 0⟩ g3 0 0), (7, .lit (.int .i64 p7)), (8, .lit (.int .i64 p8))] T ∧ StA S L F.mach_Shown [.bld 3 g3 47 5 q3]
def mach_Shown_l0_B (L : Nat) (p0 : List UInt8) (p7 : Int) (g3 : Nat)  : List UInt8 → BT → AS → Prop := fun q3 T S => Ag [(3, .ptr ⟨L + 1, 3, 0⟩ g3 0 0)] T ∧ StA S L F.mach_Shown [.bld 3 g3 47 5 q3]
set_option maxRecDepth 100000 in
set_option maxHeartbeats 4000000 in
theorem mach_Shown_l0_ok {P : Program} [hc : CodeAll P] {L : Nat} (p0 : List UInt8) (p7 : Int) {g3 : Nat}  : ∀ (s : (Int × List UInt8)) (c : Ctl (Int × List UInt8) (List UInt8) (List UInt8)), mach_Shown_l0 p0 p7 s = some c → ∀ T S, mach_Shown_l0_N L p0 p7 g3 s T S → RunB P K.mach_Shown_p15 T S (LPost 0 (mach_Shown_l0_N L p0 p7 g3) (mach_Shown_l0_B L p0 p7 g3) (fun r => RetPost L K.mach_Shown.res [.str r]) c) := by
  rintro ⟨p8, q3⟩ c h T S ⟨hT, hS⟩
  unfold mach_Shown_l0 at h
  refine (show GC P K.mach_Shown_p15 L F.mach_Shown [(0, .lit (.string (bs p0))), (3, .ptr ⟨L + 1, 3, 0⟩ g3 0 0), (7, .lit (.int .i64 p7)), (8, .lit (.int .i64 p8))] [.bld 3 g3 47 5 q3] (LPost 0 (mach_Shown_l0_N L p0 p7 g3) (mach_Shown_l0_B L p0 p7 g3) (fun r => RetPost L K.mach_Shown.res [.str r]) c) from ?_) T S hT hS
  refine g_seq ?_
  refine g_ops ?_
  refine g_val (s_ib rfl rfl rfl) ?_
  refine g_end ?_
  refine g_thn ?_
  refine g_seq ?_
  by_cases h_2 : p8 < p7
  · replace h := iteT h h_2
    refine g_cT rfl (decide_eq_true h_2) ?_
    refine g_skip ?_
    refine g_thn ?_
    refine g_seq ?_
    refine g_block ?_
    refine g_seq ?_
    refine g_ops ?_
    refine g_val (s_mv rfl) ?_
    refine g_val (s_mv rfl) ?_
    refine g_end ?_
    refine g_thn ?_
    refine g_seq ?_
    refine g_ops ?_
    refine g_val (s_mv rfl) ?_
    refine g_val (s_mv rfl) ?_
    obtain ⟨x_3, e_4, h⟩ := bindI h
    refine g_val (s_xs rfl rfl e_4) ?_
    refine g_val (s_mv rfl) ?_
    refine g_end ?_
    refine g_thn ?_
    refine g_block ?_
    refine g_seq ?_
    refine g_ops ?_
    refine g_val (s_mv rfl) ?_
    refine g_val (s_ib rfl rfl rfl) ?_
    refine g_val (s_mv rfl) ?_
    refine g_end ?_
    refine g_thn ?_
    by_cases h_5 : x_3 = 92
    · replace h := iteT h h_5
      refine g_cT rfl (decide_eq_true h_5) ?_
      refine g_ops ?_
      obtain ⟨x_6, e_7, h⟩ := bindI h
      refine g_bws (i := 0) hc.bld rfl rfl rfl rfl rfl e_7 fun v_8 => ?_
      refine g_end ?_
      refine g_blkN ?_
      refine g_blkN ?_
      refine g_thn ?_
      refine g_ops ?_
      refine g_val (s_ib rfl rfl rfl) ?_
      refine g_val (s_mv rfl) ?_
      refine g_end ?_
      have hh := Option.some.inj h
      subst hh
      exact fun T S hT hS => ⟨rfl, ⟨hT.sub (subE.cons rfl (subE.cons rfl (subE.cons rfl (subE.cons rfl (subE.nil _))))), hS.sub (memA_cons (i := 0) rfl memA_nil)⟩⟩
    · replace h := iteF h h_5
      refine g_cF rfl (decide_eq_false h_5) ?_
      refine g_seq ?_
      refine g_ops ?_
      refine g_val (s_mv rfl) ?_
      refine g_val (s_ib rfl rfl rfl) ?_
      refine g_val (s_mv rfl) ?_
      refine g_gua (gb := (decide (x_3 ≥ 32))) (af := af0) (Q := fun u => u = .lit (.int .u8 x_3)) rfl (wantV_true _) (fun hg => ?_) ?_
      · exact s_mv rfl
      intro v_11 hv_9 hu_10
      refine g_gua (gb := (decide (x_3 ≥ 32))) (af := af0) (Q := fun u => u = .lit (.bool (decide (x_3 ≤ 126)))) rfl (wantV_true _) (fun hg => ?_) ?_
      · obtain rfl := hv_9 hg; exact s_ib rfl rfl rfl
      intro v_14 hv_12 hu_13
      refine g_val (s_and rfl rfl (fun hq => by obtain rfl := hv_12 hq; rfl)) ?_
      refine g_val (s_mv rfl) ?_
      refine g_end ?_
      refine g_thn ?_
      by_cases h_15 : ((decide (x_3 ≥ 32)) && (decide (x_3 ≤ 126))) = true
      · replace h := iteT h h_15
        refine g_cT rfl h_15 ?_
        refine g_ops ?_
        refine g_val (s_mv rfl) ?_
        obtain ⟨x_16, e_17, h⟩ := bindI h
        refine g_bwb (i := 0) hc.bld rfl rfl rfl rfl rfl e_17 fun v_18 => ?_
        refine g_end ?_
        refine g_blkN ?_
        refine g_blkN ?_
        refine g_thn ?_
        refine g_ops ?_
        refine g_val (s_ib rfl rfl rfl) ?_
        refine g_val (s_mv rfl) ?_
        refine g_end ?_
        have hh := Option.some.inj h
        subst hh
        exact fun T S hT hS => ⟨rfl, ⟨hT.sub (subE.cons rfl (subE.cons rfl (subE.cons rfl (subE.cons rfl (subE.nil _))))), hS.sub (memA_cons (i := 0) rfl memA_nil)⟩⟩
      · replace h := iteF h h_15
        refine g_cF rfl (Bool.eq_false_iff.2 h_15) ?_
        refine g_seq ?_
        refine g_ops ?_
        refine g_val (s_mv rfl) ?_
        refine g_val (s_ib rfl rfl rfl) ?_
        refine g_val (s_mv rfl) ?_
        refine g_gua (gb := (decide (x_3 ≥ 7))) (af := af0) (Q := fun u => u = .lit (.int .u8 x_3)) rfl (wantV_true _) (fun hg => ?_) ?_
        · exact s_mv rfl
        intro v_21 hv_19 hu_20
        refine g_gua (gb := (decide (x_3 ≥ 7))) (af := af0) (Q := fun u => u = .lit (.bool (decide (x_3 ≤ 13)))) rfl (wantV_true _) (fun hg => ?_) ?_
        · obtain rfl := hv_19 hg; exact s_ib rfl rfl rfl
        intro v_24 hv_22 hu_23
        refine g_val (s_and rfl rfl (fun hq => by obtain rfl := hv_22 hq; rfl)) ?_
        refine g_val (s_mv rfl) ?_
        refine g_end ?_
        refine g_thn ?_
        by_cases h_25 : ((decide (x_3 ≥ 7)) && (decide (x_3 ≤ 13))) = true
        · replace h := iteT h h_25
          refine g_cT rfl h_25 ?_
          refine g_seq ?_
          refine g_ops ?_
          obtain ⟨x_26, e_27, h⟩ := bindI h
          refine g_bwb (i := 0) hc.bld rfl rfl rfl rfl rfl e_27 fun v_28 => ?_
          refine g_end ?_
          refine g_thn ?_
          refine g_ops ?_
          refine g_val (s_mv rfl) ?_
          refine g_val (s_ib rfl rfl rfl) ?_
          obtain ⟨x_29, e_30, h⟩ := bindI h
          refine g_val (s_xs rfl rfl e_30) ?_
          obtain ⟨x_31, e_32, h⟩ := bindI h
          refine g_bwb (i := 0) hc.bld rfl rfl rfl rfl rfl e_32 fun v_33 => ?_
          refine g_end ?_
          refine g_blkN ?_
          refine g_blkN ?_
          refine g_thn ?_
          refine g_ops ?_
          refine g_val (s_ib rfl rfl rfl) ?_
          refine g_val (s_mv rfl) ?_
          refine g_end ?_
          have hh := Option.some.inj h
          subst hh
          exact fun T S hT hS => ⟨rfl, ⟨hT.sub (subE.cons rfl (subE.cons rfl (subE.cons rfl (subE.cons rfl (subE.nil _))))), hS.sub (memA_cons (i := 0) rfl memA_nil)⟩⟩
        · replace h := iteF h h_25
          refine g_cF rfl (Bool.eq_false_iff.2 h_25) ?_
          refine g_ops ?_
          refine g_val (s_mv rfl) ?_
          refine g_val (s_cvi rfl) ?_
          refine g_val (s_ib rfl rfl rfl) ?_
          obtain ⟨x_34, e_35, h⟩ := bindI h
          refine g_stp (s_clX (fun _ => rfl) rfl rfl (hc.ext_strconv_FormatInt _ _ _ e_35)) ?_
          rintro _ rfl
          obtain ⟨x_36, e_37, h⟩ := bindI h
          refine g_val (s_slsL rfl rfl e_37) ?_
          obtain ⟨x_38, e_39, h⟩ := bindI h
          refine g_val (s_cat rfl rfl e_39) ?_
          obtain ⟨x_40, e_41, h⟩ := bindI h
          refine g_bws (i := 0) hc.bld rfl rfl rfl rfl rfl e_41 fun v_42 => ?_
          refine g_end ?_
          refine g_blkN ?_
          refine g_blkN ?_
          refine g_thn ?_
          refine g_ops ?_
          refine g_val (s_ib rfl rfl rfl) ?_
          refine g_val (s_mv rfl) ?_
          refine g_end ?_
          have hh := Option.some.inj h
          subst hh
          exact fun T S hT hS => ⟨rfl, ⟨hT.sub (subE.cons rfl (subE.cons rfl (subE.cons rfl (subE.cons rfl (subE.nil _))))), hS.sub (memA_cons (i := 0) rfl memA_nil)⟩⟩
  · replace h := iteF h h_2
    refine g_cF rfl (decide_eq_false h_2) ?_
    refine g_exit ?_
    refine g_thnX ?_
    have hh := Option.some.inj h
    subst hh
    exact fun T S hT hS => ⟨rfl, ⟨hT.sub (subE.cons rfl (subE.nil _)), hS.sub (memA_cons (i := 0) rfl memA_nil)⟩⟩
set_option maxRecDepth 100000 in
set_option maxHeartbeats 4000000 in
theorem ok_mach_Shown {P : Program} [hc : CodeAll P] : S.mach_Shown P (mach_Shown) := by
  intro a0 r h k0 args ha
  refine call_intro (b := K.mach_Shown) rfl hc.mach_Shown (fun _ => rfl) rfl rfl ?_ ha
  rintro L _ ⟨_, _, rfl, rfl, rfl⟩
  unfold mach_Shown at h
  show GC P _ L F.mach_Shown [(0, .lit (.string (bs a0)))] [] (RetPost L K.mach_Shown.res [.str r])
  refine g_seq ?_
  refine g_ops ?_
  refine g_val (s_mv rfl) ?_
  refine g_end ?_
  refine g_thn ?_
  refine g_seq ?_
  refine g_ops ?_
  refine g_alB (te := 5) rfl (fun g_1 => ?_) rfl
  refine g_end ?_
  refine g_thn ?_
  refine g_seq ?_
  refine g_seq ?_
  refine g_ops ?_
  refine g_val (s_mv rfl) ?_
  refine g_val (s_ls rfl) ?_
  refine g_val (s_mv rfl) ?_
  refine g_end ?_
  refine g_thn ?_
  refine g_block ?_
  obtain ⟨o_43, e_44, h⟩ := bindI h
  refine g_loop (IN := mach_Shown_l0_N L a0 (a0.length : Int) g_1) (IB := mach_Shown_l0_B L a0 (a0.length : Int) g_1) (IR := fun r => RetPost L K.mach_Shown.res [.str r]) e_44 (mach_Shown_l0_ok a0 (a0.length : Int) (g3 := g_1) ) (fun T S hT hS => ⟨hT.sub (subE.cons rfl (subE.cons rfl (subE.cons rfl (subE.cons rfl (subE.nil _))))), hS.sub (memA_cons (i := 0) rfl memA_nil)⟩) ?_
  rintro x T S hO
  cases o_43 with
  | brk q3b_45 =>
    obtain ⟨rfl, hT, hS⟩ := hO
    refine (show G (.exit 0) L F.mach_Shown [(3, .ptr ⟨L + 1, 3, 0⟩ g_1 0 0)] [.bld 3 g_1 47 5 q3b_45] (Blk 0 (Thn P K.mach_Shown_p16 (RetPost L K.mach_Shown.res [.str r]))) from ?_) T S hT hS
    refine g_blkH ?_
    refine g_thn ?_
    refine g_seq ?_
    refine g_ops ?_
    refine g_val (s_bst (i := 0) hc.bld rfl rfl) ?_
    refine g_val (s_mv rfl) ?_
    refine g_end ?_
    refine g_thn ?_
    refine g_ret ?_
    have hh := Option.some.inj h
    subst hh
    exact g_res (.t rfl rfl .nil)
  | ret r =>
    have hh := Option.some.inj h
    subst hh
    obtain ⟨rfl, hO⟩ := hO
    exact hO
end Go.Proofs.YtjdccpmbaobpdaaGreatDoor

namespace Go.Proofs.YtjdccpmbaobpdaaGreatDoor
open Go.RowKit

def S.ref06_Digits (P : Program) (φ : Int → Option (List UInt8)) : Prop := ∀ (a0 : Int) (r : List UInt8), φ a0 = some r → ∀ (k0 : Nat) (args : List AV), RVL k0 [.int .i64 a0] args → CallR P F.ref06_Digits args (ResC [.str r])
def ref06_Digits_l0_N (L : Nat)   : (Int × List UInt8) → BT → AS → Prop := fun (p0, p3) T S => Ag [(0, .lit (.int .i64 p0)), (3, .lit (.string (bs p3)))] T ∧ StA S L F.ref06_Digits []
def ref06_Digits_l0_B (L : Nat)   : (Int × List UInt8) → BT → AS → Prop := fun (p0, p3) T S => Ag [(0, .lit (.int .i64 p0)), (3, .lit (.string (bs p3)))] T ∧ StA S L F.ref06_Digits []
set_option maxRecDepth 100000 in
set_option maxHeartbeats 4000000 in
theorem ref06_Digits_l0_ok {P : Program} [hc : CodeAll P] {L : Nat}   : ∀ (s : (Int × List UInt8)) (c : Ctl (Int × List UInt8) (Int × List UInt8) (List UInt8)), ref06_Digits_l0  s = some c → ∀ T S, ref06_Digits_l0_N L  s T S → RunB P K.ref06_Digits_p3 T S (LPost 0 (ref06_Digits_l0_N L ) (ref06_Digits_l0_B L ) (fun r => RetPost L K.ref06_Digits.res [.str r]) c) := by
  rintro ⟨p0, p3⟩ c h T S ⟨hT, hS⟩
  unfold ref06_Digits_l0 at h
  refine (show GC P K.ref06_Digits_p3 L F.ref06_Digits [(0, .lit (.int .i64 p0)), (3, .lit (.string (bs p3)))] [] (LPost 0 (ref06_Digits_l0_N L ) (ref06_Digits_l0_B L ) (fun r => RetPost L K.ref06_Digits.res [.str r]) c) from ?_) T S hT hS
  refine g_seq ?_
  refine g_seq ?_
  refine g_ops ?_
  refine g_val (s_mv rfl) ?_
  refine g_val (s_ib rfl rfl rfl) ?_
  refine g_end ?_
  refine g_thn ?_
  by_cases h_1 : p0 ≥ 10
  · replace h := iteT h h_1
    refine g_cT rfl (decide_eq_true h_1) ?_
    refine g_skip ?_
    refine g_thn ?_
    refine g_block ?_
    refine g_seq ?_
    refine g_ops ?_
    refine g_val (s_mv rfl) ?_
    refine g_val (s_ib rfl rfl (ibV_rem (by decide))) ?_
    refine g_val (s_mv rfl) ?_
    refine g_val (s_ib rfl rfl (ibV_rem (by decide))) ?_
    refine g_val (s_ib rfl rfl rfl) ?_
    obtain ⟨x_2, e_3, h⟩ := bindI h
    refine g_val (s_sls rfl rfl rfl e_3) ?_
    refine g_val (s_mv rfl) ?_
    obtain ⟨x_4, e_5, h⟩ := bindI h
    refine g_val (s_cat rfl rfl e_5) ?_
    refine g_val (s_mv rfl) ?_
    refine g_end ?_
    refine g_thn ?_
    refine g_ops ?_
    refine g_val (s_mv rfl) ?_
    refine g_val (s_ib rfl rfl (ibV_quo (by decide))) ?_
    refine g_val (s_mv rfl) ?_
    refine g_end ?_
    refine g_blkN ?_
    have hh := Option.some.inj h
    subst hh
    exact fun T S hT hS => ⟨rfl, ⟨hT.sub (subE.cons rfl (subE.cons rfl (subE.nil _))), hS.sub memA_nil⟩⟩
  · replace h := iteF h h_1
    refine g_cF rfl (decide_eq_false h_1) ?_
    refine g_exit ?_
    refine g_thnX ?_
    have hh := Option.some.inj h
    subst hh
    exact fun T S hT hS => ⟨rfl, ⟨hT.sub (subE.cons rfl (subE.cons rfl (subE.nil _))), hS.sub memA_nil⟩⟩
set_option maxRecDepth 100000 in
set_option maxHeartbeats 4000000 in
theorem ok_ref06_Digits {P : Program} [hc : CodeAll P] : S.ref06_Digits P (ref06_Digits) := by
  intro a0 r h k0 args ha
  refine call_intro (b := K.ref06_Digits) rfl hc.ref06_Digits (fun _ => rfl) rfl rfl ?_ ha
  rintro L _ ⟨_, _, rfl, rfl, rfl⟩
  unfold ref06_Digits at h
  show GC P _ L F.ref06_Digits [(0, .lit (.int .i64 a0))] [] (RetPost L K.ref06_Digits.res [.str r])
  refine g_seq ?_
  refine g_ops ?_
  refine g_val (s_mv rfl) ?_
  refine g_end ?_
  refine g_thn ?_
  refine g_seq ?_
  refine g_ops ?_
  refine g_val (s_mv rfl) ?_
  refine g_end ?_
  refine g_thn ?_
  refine g_seq ?_
  refine g_block ?_
  obtain ⟨o_6, e_7, h⟩ := bindI h
  refine g_loop (IN := ref06_Digits_l0_N L ) (IB := ref06_Digits_l0_B L ) (IR := fun r => RetPost L K.ref06_Digits.res [.str r]) e_7 (ref06_Digits_l0_ok   ) (fun T S hT hS => ⟨hT.sub (subE.cons rfl (subE.cons rfl (subE.nil _))), hS.sub memA_nil⟩) ?_
  rintro x T S hO
  cases o_6 with
  | brk s =>
    obtain ⟨p0b_8, p3b_8⟩ := s
    obtain ⟨rfl, hT, hS⟩ := hO
    refine (show G (.exit 0) L F.ref06_Digits [(0, .lit (.int .i64 p0b_8)), (3, .lit (.string (bs p3b_8)))] [] (Blk 0 (Thn P K.ref06_Digits_p4 (RetPost L K.ref06_Digits.res [.str r]))) from ?_) T S hT hS
    refine g_blkH ?_
    refine g_thn ?_
    refine g_seq ?_
    refine g_ops ?_
    refine g_val (s_mv rfl) ?_
    refine g_val (s_mv rfl) ?_
    refine g_val (s_ib rfl rfl rfl) ?_
    obtain ⟨x_9, e_10, h⟩ := bindI h
    refine g_val (s_sls rfl rfl rfl e_10) ?_
    refine g_val (s_mv rfl) ?_
    obtain ⟨x_11, e_12, h⟩ := bindI h
    refine g_val (s_cat rfl rfl e_12) ?_
    refine g_val (s_mv rfl) ?_
    refine g_end ?_
    refine g_thn ?_
    refine g_ret ?_
    have hh := Option.some.inj h
    subst hh
    exact g_res (.t rfl rfl .nil)
  | ret r =>
    have hh := Option.some.inj h
    subst hh
    obtain ⟨rfl, hO⟩ := hO
    exact hO
end Go.Proofs.YtjdccpmbaobpdaaGreatDoor

namespace Go.Proofs.YtjdccpmbaobpdaaGreatDoor
open Go.RowKit

def S.ref19_Shown (P : Program) (φ : List UInt8 → Option (List UInt8)) : Prop := ∀ (a0 : List UInt8) (r : List UInt8), φ a0 = some r → ∀ (k0 : Nat) (args : List AV), RVL k0 [.str a0] args → CallR P F.ref19_Shown args (ResC [.str r])
def ref19_Shown_l0_N (L : Nat) (p0 : List UInt8) (p7 : Int)  : (List UInt8 × Int) → BT → AS → Prop := fun (p3, p8) T S => Ag [(0, .lit (.string (bs p0))), (3, .lit (.string (bs p3))), (7, .lit (.int .i64 p7)), (8, .lit (.int .i64 p8))] T ∧ StA S L F.ref19_Shown []
def ref19_Shown_l0_B (L : Nat) (p0 : List UInt8) (p7 : Int)  : List UInt8 → BT → AS → Prop := fun p3 T S => Ag [(3, .lit (.string (bs p3)))] T ∧ StA S L F.ref19_Shown []
set_option maxRecDepth 100000 in
set_option maxHeartbeats 4000000 in
theorem ref19_Shown_l0_ok {P : Program} [hc : CodeAll P] {L : Nat} (p0 : List UInt8) (p7 : Int)  : ∀ (s : (List UInt8 × Int)) (c : Ctl (List UInt8 × Int) (List UInt8) (List UInt8)), ref19_Shown_l0 p0 p7 s = some c → ∀ T S, ref19_Shown_l0_N L p0 p7 s T S → RunB P K.ref19_Shown_p14 T S (LPost 0 (ref19_Shown_l0_N L p0 p7) (ref19_Shown_l0_B L p0 p7) (fun r => RetPost L K.ref19_Shown.res [.str r]) c) := by
  rintro ⟨p3, p8⟩ c h T S ⟨hT, hS⟩
  unfold ref19_Shown_l0 at h
  refine (show GC P K.ref19_Shown_p14 L F.ref19_Shown [(0, .lit (.string (bs p0))), (3, .lit (.string (bs p3))), (7, .lit (.int .i64 p7)), (8, .lit (.int .i64 p8))] [] (LPost 0 (ref19_Shown_l0_N L p0 p7) (ref19_Shown_l0_B L p0 p7) (fun r => RetPost L K.ref19_Shown.res [.str r]) c) from ?_) T S hT hS
  refine g_seq ?_
  refine g_ops ?_
  refine g_val (s_ib rfl rfl rfl) ?_
  refine g_end ?_
  refine g_thn ?_
  refine g_seq ?_
  by_cases h_1 : p8 < p7
  · replace h := iteT h h_1
    refine g_cT rfl (decide_eq_true h_1) ?_
    refine g_skip ?_
    refine g_thn ?_
    refine g_seq ?_
    refine g_block ?_
    refine g_seq ?_
    refine g_ops ?_
    refine g_val (s_mv rfl) ?_
    refine g_val (s_mv rfl) ?_
    refine g_end ?_
    refine g_thn ?_
    refine g_seq ?_
    refine g_ops ?_
    refine g_val (s_mv rfl) ?_
    refine g_val (s_mv rfl) ?_
    obtain ⟨x_2, e_3, h⟩ := bindI h
    refine g_val (s_xs rfl rfl e_3) ?_
    refine g_val (s_mv rfl) ?_
    refine g_end ?_
    refine g_thn ?_
    refine g_block ?_
    refine g_seq ?_
    refine g_ops ?_
    refine g_val (s_mv rfl) ?_
    refine g_val (s_ib rfl rfl rfl) ?_
    refine g_val (s_mv rfl) ?_
    refine g_end ?_
    refine g_thn ?_
    by_cases h_4 : x_2 = 92
    · replace h := iteT h h_4
      refine g_cT rfl (decide_eq_true h_4) ?_
      refine g_ops ?_
      refine g_val (s_mv rfl) ?_
      obtain ⟨x_5, e_6, h⟩ := bindI h
      refine g_val (s_cat rfl rfl e_6) ?_
      refine g_val (s_mv rfl) ?_
      refine g_end ?_
      refine g_blkN ?_
      refine g_blkN ?_
      refine g_thn ?_
      refine g_ops ?_
      refine g_val (s_ib rfl rfl rfl) ?_
      refine g_val (s_mv rfl) ?_
      refine g_end ?_
      have hh := Option.some.inj h
      subst hh
      exact fun T S hT hS => ⟨rfl, ⟨hT.sub (subE.cons rfl (subE.cons rfl (subE.cons rfl (subE.cons rfl (subE.nil _))))), hS.sub memA_nil⟩⟩
    · replace h := iteF h h_4
      refine g_cF rfl (decide_eq_false h_4) ?_
      refine g_seq ?_
      refine g_ops ?_
      refine g_val (s_mv rfl) ?_
      refine g_val (s_ib rfl rfl rfl) ?_
      refine g_val (s_mv rfl) ?_
      refine g_gua (gb := (decide (x_2 ≥ 32))) (af := af0) (Q := fun u => u = .lit (.int .u8 x_2)) rfl (wantV_true _) (fun hg => ?_) ?_
      · exact s_mv rfl
      intro v_9 hv_7 hu_8
      refine g_gua (gb := (decide (x_2 ≥ 32))) (af := af0) (Q := fun u => u = .lit (.bool (decide (x_2 < 127)))) rfl (wantV_true _) (fun hg => ?_) ?_
      · obtain rfl := hv_7 hg; exact s_ib rfl rfl rfl
      intro v_12 hv_10 hu_11
      refine g_val (s_and rfl rfl (fun hq => by obtain rfl := hv_10 hq; rfl)) ?_
      refine g_val (s_mv rfl) ?_
      refine g_end ?_
      refine g_thn ?_
      by_cases h_13 : ((decide (x_2 ≥ 32)) && (decide (x_2 < 127))) = true
      · replace h := iteT h h_13
        refine g_cT rfl h_13 ?_
        refine g_ops ?_
        refine g_val (s_mv rfl) ?_
        refine g_val (s_mv rfl) ?_
        refine g_val (s_mv rfl) ?_
        refine g_val (s_mv rfl) ?_
        refine g_val (s_ib rfl rfl rfl) ?_
        obtain ⟨x_14, e_15, h⟩ := bindI h
        refine g_val (s_sls rfl rfl rfl e_15) ?_
        obtain ⟨x_16, e_17, h⟩ := bindI h
        refine g_val (s_cat rfl rfl e_17) ?_
        refine g_val (s_mv rfl) ?_
        refine g_end ?_
        refine g_blkN ?_
        refine g_blkN ?_
        refine g_thn ?_
        refine g_ops ?_
        refine g_val (s_ib rfl rfl rfl) ?_
        refine g_val (s_mv rfl) ?_
        refine g_end ?_
        have hh := Option.some.inj h
        subst hh
        exact fun T S hT hS => ⟨rfl, ⟨hT.sub (subE.cons rfl (subE.cons rfl (subE.cons rfl (subE.cons rfl (subE.nil _))))), hS.sub memA_nil⟩⟩
      · replace h := iteF h h_13
        refine g_cF rfl (Bool.eq_false_iff.2 h_13) ?_
        refine g_seq ?_
        refine g_ops ?_
        refine g_val (s_mv rfl) ?_
        refine g_val (s_ib rfl rfl rfl) ?_
        refine g_val (s_mv rfl) ?_
        refine g_gua (gb := (decide (x_2 ≥ 7))) (af := af0) (Q := fun u => u = .lit (.int .u8 x_2)) rfl (wantV_true _) (fun hg => ?_) ?_
        · exact s_mv rfl
        intro v_20 hv_18 hu_19
        refine g_gua (gb := (decide (x_2 ≥ 7))) (af := af0) (Q := fun u => u = .lit (.bool (decide (x_2 ≤ 13)))) rfl (wantV_true _) (fun hg => ?_) ?_
        · obtain rfl := hv_18 hg; exact s_ib rfl rfl rfl
        intro v_23 hv_21 hu_22
        refine g_val (s_and rfl rfl (fun hq => by obtain rfl := hv_21 hq; rfl)) ?_
        refine g_val (s_mv rfl) ?_
        refine g_end ?_
        refine g_thn ?_
        by_cases h_24 : ((decide (x_2 ≥ 7)) && (decide (x_2 ≤ 13))) = true
        · replace h := iteT h h_24
          refine g_cT rfl h_24 ?_
          refine g_ops ?_
          refine g_val (s_mv rfl) ?_
          obtain ⟨x_25, e_26, h⟩ := bindI h
          refine g_val (s_cat rfl rfl e_26) ?_
          refine g_val (s_mv rfl) ?_
          refine g_val (s_ib rfl rfl rfl) ?_
          refine g_val (s_mv rfl) ?_
          refine g_val (s_ib rfl rfl rfl) ?_
          obtain ⟨x_27, e_28, h⟩ := bindI h
          refine g_val (s_sls rfl rfl rfl e_28) ?_
          obtain ⟨x_29, e_30, h⟩ := bindI h
          refine g_val (s_cat rfl rfl e_30) ?_
          refine g_val (s_mv rfl) ?_
          refine g_end ?_
          refine g_blkN ?_
          refine g_blkN ?_
          refine g_thn ?_
          refine g_ops ?_
          refine g_val (s_ib rfl rfl rfl) ?_
          refine g_val (s_mv rfl) ?_
          refine g_end ?_
          have hh := Option.some.inj h
          subst hh
          exact fun T S hT hS => ⟨rfl, ⟨hT.sub (subE.cons rfl (subE.cons rfl (subE.cons rfl (subE.cons rfl (subE.nil _))))), hS.sub memA_nil⟩⟩
        · replace h := iteF h h_24
          refine g_cF rfl (Bool.eq_false_iff.2 h_24) ?_
          refine g_ops ?_
          refine g_val (s_mv rfl) ?_
          obtain ⟨x_31, e_32, h⟩ := bindI h
          refine g_val (s_cat rfl rfl e_32) ?_
          refine g_val (s_mv rfl) ?_
          refine g_val (s_ib rfl rfl (ibV_quo (by decide))) ?_
          refine g_val (s_cvi rfl) ?_
          obtain ⟨x_33, e_34, h⟩ := bindI h
          refine g_stp (s_cl (fun _ => rfl) rfl ((ok_ref06_Digits) _ _ e_34 (L + 1) _ ⟨_, _, rfl, rfl, rfl⟩)) ?_
          rintro _ rfl
          obtain ⟨x_35, e_36, h⟩ := bindI h
          refine g_val (s_cat rfl rfl e_36) ?_
          refine g_val (s_mv rfl) ?_
          refine g_val (s_ib rfl rfl (ibV_quo (by decide))) ?_
          refine g_val (s_ib rfl rfl (ibV_rem (by decide))) ?_
          refine g_val (s_cvi rfl) ?_
          obtain ⟨x_37, e_38, h⟩ := bindI h
          refine g_stp (s_cl (fun _ => rfl) rfl ((ok_ref06_Digits) _ _ e_38 (L + 1) _ ⟨_, _, rfl, rfl, rfl⟩)) ?_
          rintro _ rfl
          obtain ⟨x_39, e_40, h⟩ := bindI h
          refine g_val (s_cat rfl rfl e_40) ?_
          refine g_val (s_mv rfl) ?_
          refine g_val (s_ib rfl rfl (ibV_rem (by decide))) ?_
          refine g_val (s_cvi rfl) ?_
          obtain ⟨x_41, e_42, h⟩ := bindI h
          refine g_stp (s_cl (fun _ => rfl) rfl ((ok_ref06_Digits) _ _ e_42 (L + 1) _ ⟨_, _, rfl, rfl, rfl⟩)) ?_
          rintro _ rfl
          obtain ⟨x_43, e_44, h⟩ := bindI h
          refine g_val (s_cat rfl rfl e_44) ?_
          refine g_val (s_mv rfl) ?_
          refine g_end ?_
          refine g_blkN ?_
          refine g_blkN ?_
          refine g_thn ?_
          refine g_ops ?_
          refine g_val (s_ib rfl rfl rfl) ?_
          refine g_val (s_mv rfl) ?_
          refine g_end ?_
          have hh := Option.some.inj h
          subst hh
          exact fun T S hT hS => ⟨rfl, ⟨hT.sub (subE.cons rfl (subE.cons rfl (subE.cons rfl (subE.cons rfl (subE.nil _))))), hS.sub memA_nil⟩⟩
  · replace h := iteF h h_1
    refine g_cF rfl (decide_eq_false h_1) ?_
    refine g_exit ?_
    refine g_thnX ?_
    have hh := Option.some.inj h
    subst hh
    exact fun T S hT hS => ⟨rfl, ⟨hT.sub (subE.cons rfl (subE.nil _)), hS.sub memA_nil⟩⟩
set_option maxRecDepth 100000 in
set_option maxHeartbeats 4000000 in
theorem ok_ref19_Shown {P : Program} [hc : CodeAll P] : S.ref19_Shown P (ref19_Shown) := by
  intro a0 r h k0 args ha
  refine call_intro (b := K.ref19_Shown) rfl hc.ref19_Shown (fun _ => rfl) rfl rfl ?_ ha
  rintro L _ ⟨_, _, rfl, rfl, rfl⟩
  unfold ref19_Shown at h
  show GC P _ L F.ref19_Shown [(0, .lit (.string (bs a0)))] [] (RetPost L K.ref19_Shown.res [.str r])
  refine g_seq ?_
  refine g_ops ?_
  refine g_val (s_mv rfl) ?_
  refine g_end ?_
  refine g_thn ?_
  refine g_seq ?_
  refine g_ops ?_
  refine g_val (s_mv rfl) ?_
  refine g_end ?_
  refine g_thn ?_
  refine g_seq ?_
  refine g_seq ?_
  refine g_ops ?_
  refine g_val (s_mv rfl) ?_
  refine g_val (s_ls rfl) ?_
  refine g_val (s_mv rfl) ?_
  refine g_end ?_
  refine g_thn ?_
  refine g_block ?_
  obtain ⟨o_45, e_46, h⟩ := bindI h
  refine g_loop (IN := ref19_Shown_l0_N L a0 (a0.length : Int)) (IB := ref19_Shown_l0_B L a0 (a0.length : Int)) (IR := fun r => RetPost L K.ref19_Shown.res [.str r]) e_46 (ref19_Shown_l0_ok a0 (a0.length : Int)  ) (fun T S hT hS => ⟨hT.sub (subE.cons rfl (subE.cons rfl (subE.cons rfl (subE.cons rfl (subE.nil _))))), hS.sub memA_nil⟩) ?_
  rintro x T S hO
  cases o_45 with
  | brk p3b_47 =>
    obtain ⟨rfl, hT, hS⟩ := hO
    refine (show G (.exit 0) L F.ref19_Shown [(3, .lit (.string (bs p3b_47)))] [] (Blk 0 (Thn P K.ref19_Shown_p15 (RetPost L K.ref19_Shown.res [.str r]))) from ?_) T S hT hS
    refine g_blkH ?_
    refine g_thn ?_
    refine g_seq ?_
    refine g_ops ?_
    refine g_val (s_mv rfl) ?_
    refine g_val (s_mv rfl) ?_
    refine g_end ?_
    refine g_thn ?_
    refine g_ret ?_
    have hh := Option.some.inj h
    subst hh
    exact g_res (.t rfl rfl .nil)
  | ret r =>
    have hh := Option.some.inj h
    subst hh
    obtain ⟨rfl, hO⟩ := hO
    exact hO
end Go.Proofs.YtjdccpmbaobpdaaGreatDoor

namespace Go.Proofs.YtjdccpmbaobpdaaGreatDoor
open Go.RowKit

def S.law19_MachShows (P : Program) (φ : List UInt8 → Option Bool) : Prop := ∀ (a0 : List UInt8) (r : Bool), φ a0 = some r → ∀ (k0 : Nat) (args : List AV), RVL k0 [.str a0] args → CallR P F.law19_MachShows args (ResC [.bool r])
def law19_MachShows_l0_N (L : Nat) (p0 : List UInt8) (p3 : List UInt8) (p16 : Int)  : Int → BT → AS → Prop := fun p17 T S => Ag [(0, .lit (.string (bs p0))), (3, .lit (.string (bs p3))), (16, .lit (.int .i64 p16)), (17, .lit (.int .i64 p17))] T ∧ StA S L F.law19_MachShows []
def law19_MachShows_l0_B (L : Nat) (p0 : List UInt8) (p3 : List UInt8) (p16 : Int)  : Unit → BT → AS → Prop := fun _ T S => Ag [(0, .lit (.string (bs p0))), (3, .lit (.string (bs p3)))] T ∧ StA S L F.law19_MachShows []
set_option maxRecDepth 100000 in
set_option maxHeartbeats 4000000 in
theorem law19_MachShows_l0_ok {P : Program} [hc : CodeAll P] {L : Nat} (p0 : List UInt8) (p3 : List UInt8) (p16 : Int)  : ∀ (s : Int) (c : Ctl Int Unit Bool), law19_MachShows_l0 p0 p3 p16 s = some c → ∀ T S, law19_MachShows_l0_N L p0 p3 p16 s T S → RunB P K.law19_MachShows_p6 T S (LPost 0 (law19_MachShows_l0_N L p0 p3 p16) (law19_MachShows_l0_B L p0 p3 p16) (fun r => RetPost L K.law19_MachShows.res [.bool r]) c) := by
  rintro p17 c h T S ⟨hT, hS⟩
  unfold law19_MachShows_l0 at h
  refine (show GC P K.law19_MachShows_p6 L F.law19_MachShows [(0, .lit (.string (bs p0))), (3, .lit (.string (bs p3))), (16, .lit (.int .i64 p16)), (17, .lit (.int .i64 p17))] [] (LPost 0 (law19_MachShows_l0_N L p0 p3 p16) (law19_MachShows_l0_B L p0 p3 p16) (fun r => RetPost L K.law19_MachShows.res [.bool r]) c) from ?_) T S hT hS
  refine g_seq ?_
  refine g_ops ?_
  refine g_val (s_ib rfl rfl rfl) ?_
  refine g_end ?_
  refine g_thn ?_
  refine g_seq ?_
  by_cases h_17 : p17 < p16
  · replace h := iteT h h_17
    refine g_cT rfl (decide_eq_true h_17) ?_
    refine g_skip ?_
    refine g_thn ?_
    refine g_seq ?_
    refine g_block ?_
    refine g_seq ?_
    refine g_ops ?_
    refine g_val (s_mv rfl) ?_
    refine g_val (s_mv rfl) ?_
    refine g_end ?_
    refine g_thn ?_
    refine g_seq ?_
    refine g_ops ?_
    refine g_val (s_mv rfl) ?_
    refine g_val (s_mv rfl) ?_
    obtain ⟨x_18, e_19, h⟩ := bindI h
    refine g_val (s_xs rfl rfl e_19) ?_
    refine g_val (s_ib rfl rfl rfl) ?_
    refine g_val (s_mv rfl) ?_
    refine g_gua (gb := (!(decide (x_18 < 32)))) (af := af0) (Q := fun u => u = .lit (.string (bs p3))) rfl (wantV_false _) (fun hg => ?_) ?_
    · exact s_mv rfl
    intro v_22 hv_20 hu_21
    refine g_gua (gb := (!(decide (x_18 < 32)))) (af := af0) (Q := fun u => u = .lit (.int .i64 p17)) rfl (wantV_false _) (fun hg => ?_) ?_
    · exact s_mv rfl
    intro v_25 hv_23 hu_24
    obtain ⟨x_26, e_27, h⟩ := bindI h
    refine g_gua (gb := (!(decide (x_18 < 32)))) (af := af0) (Q := fun u => u = .lit (.int .u8 x_26)) rfl (wantV_false _) (fun hg => ?_) ?_
    · obtain rfl := hv_20 hg; obtain rfl := hv_23 hg; exact s_xs rfl rfl (whenT e_27 hg)
    intro v_30 hv_28 hu_29
    refine g_gua (gb := (!(decide (x_18 < 32)))) (af := af0) (Q := fun u => u = .lit (.bool (decide (x_26 > 126)))) rfl (wantV_false _) (fun hg => ?_) ?_
    · obtain rfl := hv_28 hg; exact s_ib rfl rfl rfl
    intro v_33 hv_31 hu_32
    refine g_val (s_or rfl rfl (fun hq => by obtain rfl := hv_31 hq; rfl)) ?_
    refine g_end ?_
    refine g_thn ?_
    by_cases h_34 : ((decide (x_18 < 32)) || (decide (x_26 > 126))) = true
    · replace h := iteT h h_34
      refine g_cT rfl h_34 ?_
      refine g_seq ?_
      refine g_ops ?_
      refine g_val (s_mv rfl) ?_
      refine g_end ?_
      refine g_thn ?_
      refine g_ret ?_
      refine g_blkR ?_
      refine g_thnR ?_
      have hh := Option.some.inj h
      subst hh
      exact fun T S hT hS => ⟨rfl, (g_res (rs := [.bool false]) (.t rfl rfl .nil)) T S hT hS⟩
    · replace h := iteF h h_34
      refine g_cF rfl (Bool.eq_false_iff.2 h_34) ?_
      refine g_skip ?_
      refine g_blkN ?_
      refine g_thn ?_
      refine g_ops ?_
      refine g_val (s_ib rfl rfl rfl) ?_
      refine g_val (s_mv rfl) ?_
      refine g_end ?_
      have hh := Option.some.inj h
      subst hh
      exact fun T S hT hS => ⟨rfl, ⟨hT.sub (subE.cons rfl (subE.cons rfl (subE.cons rfl (subE.cons rfl (subE.nil _))))), hS.sub memA_nil⟩⟩
  · replace h := iteF h h_17
    refine g_cF rfl (decide_eq_false h_17) ?_
    refine g_exit ?_
    refine g_thnX ?_
    have hh := Option.some.inj h
    subst hh
    exact fun T S hT hS => ⟨rfl, ⟨hT.sub (subE.cons rfl (subE.cons rfl (subE.nil _))), hS.sub memA_nil⟩⟩
set_option maxRecDepth 100000 in
set_option maxHeartbeats 4000000 in
theorem ok_law19_MachShows {P : Program} [hc : CodeAll P] : S.law19_MachShows P (law19_MachShows) := by
  intro a0 r h k0 args ha
  refine call_intro (b := K.law19_MachShows) rfl hc.law19_MachShows (fun _ => rfl) rfl rfl ?_ ha
  rintro L _ ⟨_, _, rfl, rfl, rfl⟩
  unfold law19_MachShows at h
  show GC P _ L F.law19_MachShows [(0, .lit (.string (bs a0)))] [] (RetPost L K.law19_MachShows.res [.bool r])
  refine g_seq ?_
  refine g_ops ?_
  refine g_val (s_mv rfl) ?_
  refine g_end ?_
  refine g_thn ?_
  refine g_seq ?_
  refine g_seq ?_
  refine g_ops ?_
  obtain ⟨x_1, e_2, h⟩ := bindI h
  refine g_stp (s_clX (fun _ => rfl) rfl rfl (hc.ext_law19_awake _ e_2)) ?_
  rintro _ rfl
  refine g_val (s_nt rfl) ?_
  refine g_val (s_mv rfl) ?_
  refine g_gua (gb := (!(!x_1))) (af := af0) (Q := fun u => u = .lit (.string (bs a0))) rfl (wantV_false _) (fun hg => ?_) ?_
  · exact s_mv rfl
  intro v_5 hv_3 hu_4
  refine g_gua (gb := (!(!x_1))) (af := af0) (Q := fun u => u = .lit (.int .i64 (a0.length : Int))) rfl (wantV_false _) (fun hg => ?_) ?_
  · obtain rfl := hv_3 hg; exact s_ls rfl
  intro v_8 hv_6 hu_7
  refine g_gua (gb := (!(!x_1))) (af := af0) (Q := fun u => u = .lit (.bool (decide ((a0.length : Int) > 300)))) rfl (wantV_false _) (fun hg => ?_) ?_
  · obtain rfl := hv_6 hg; exact s_ib rfl rfl rfl
  intro v_11 hv_9 hu_10
  refine g_val (s_or rfl rfl (fun hq => by obtain rfl := hv_9 hq; rfl)) ?_
  refine g_end ?_
  refine g_thn ?_
  by_cases h_12 : ((!x_1) || (decide ((a0.length : Int) > 300))) = true
  · replace h := iteT h h_12
    refine g_cT rfl h_12 ?_
    refine g_seq ?_
    refine g_ops ?_
    obtain ⟨x_13, e_14, h⟩ := bindI h
    refine g_stp (s_clX (fun _ => rfl) rfl rfl (hc.ext_law19_awake _ e_14)) ?_
    rintro _ rfl
    refine g_val (s_mv rfl) ?_
    refine g_end ?_
    refine g_thn ?_
    refine g_ret ?_
    refine g_thnR ?_
    have hh := Option.some.inj h
    subst hh
    exact g_res (.t rfl rfl .nil)
  · replace h := iteF h h_12
    refine g_cF rfl (Bool.eq_false_iff.2 h_12) ?_
    refine g_skip ?_
    refine g_thn ?_
    refine g_seq ?_
    refine g_ops ?_
    refine g_val (s_mv rfl) ?_
    obtain ⟨x_15, e_16, h⟩ := bindI h
    refine g_stp (s_cl (fun _ => rfl) rfl ((ok_mach_Shown) _ _ e_16 (L + 1) _ ⟨_, _, rfl, rfl, rfl⟩)) ?_
    rintro _ rfl
    refine g_val (s_mv rfl) ?_
    refine g_end ?_
    refine g_thn ?_
    refine g_seq ?_
    refine g_seq ?_
    refine g_ops ?_
    refine g_val (s_mv rfl) ?_
    refine g_val (s_ls rfl) ?_
    refine g_val (s_mv rfl) ?_
    refine g_end ?_
    refine g_thn ?_
    refine g_block ?_
    obtain ⟨o_35, e_36, h⟩ := bindI h
    refine g_loop (IN := law19_MachShows_l0_N L a0 x_15 (x_15.length : Int)) (IB := law19_MachShows_l0_B L a0 x_15 (x_15.length : Int)) (IR := fun r => RetPost L K.law19_MachShows.res [.bool r]) e_36 (law19_MachShows_l0_ok a0 x_15 (x_15.length : Int)  ) (fun T S hT hS => ⟨hT.sub (subE.cons rfl (subE.cons rfl (subE.cons rfl (subE.cons rfl (subE.nil _))))), hS.sub memA_nil⟩) ?_
    rintro x T S hO
    cases o_35 with
    | brk s =>
      obtain ⟨rfl, hT, hS⟩ := hO
      refine (show G (.exit 0) L F.law19_MachShows [(0, .lit (.string (bs a0))), (3, .lit (.string (bs x_15)))] [] (Blk 0 (Thn P K.law19_MachShows_p7 (RetPost L K.law19_MachShows.res [.bool r]))) from ?_) T S hT hS
      refine g_blkH ?_
      refine g_thn ?_
      refine g_seq ?_
      refine g_ops ?_
      refine g_val (s_mv rfl) ?_
      refine g_val (s_mv rfl) ?_
      obtain ⟨x_38, e_39, h⟩ := bindI h
      refine g_stp (s_cl (fun _ => rfl) rfl ((ok_ref19_Shown) _ _ e_39 (L + 1) _ ⟨_, _, rfl, rfl, rfl⟩)) ?_
      rintro _ rfl
      refine g_val (s_seq1 rfl rfl) ?_
      refine g_val (s_mv rfl) ?_
      refine g_end ?_
      refine g_thn ?_
      refine g_ret ?_
      have hh := Option.some.inj h
      subst hh
      exact g_res (.t rfl rfl .nil)
    | ret r =>
      have hh := Option.some.inj h
      subst hh
      obtain ⟨rfl, hO⟩ := hO
      exact hO
end Go.Proofs.YtjdccpmbaobpdaaGreatDoor
