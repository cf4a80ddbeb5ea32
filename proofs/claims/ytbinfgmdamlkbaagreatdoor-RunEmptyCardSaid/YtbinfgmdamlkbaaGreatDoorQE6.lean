/-
  A part of the proof: packed by a program.
-/
import Derived.Test.YtbinfgmdamlkbaaGreatDoorQE5
import Derived.Test.YtbinfgmdamlkbaaGreatDoorRows
import Derived.KernelRfl
import Derived.JoinedCond
import GoSem.ClaimGoes
set_option maxRecDepth 100000
set_option maxHeartbeats 4000000
set_option linter.unusedVariables false
set_option linter.unusedSimpArgs false
namespace Go.Proofs.YtbinfgmdamlkbaaGreatDoor
open Go.RowKit
def S.ad3 (P : Program) (φ : D.o5 → Option Bool) : Prop := ∀ (a0 : D.o5) (r : Bool), φ a0 = some r → cI5 P F.ad3 [.o (.ptr 80 (l9 a0))] [.bool r]
theorem bs8 {P : Program} [hc : ae8 P] : S.ad3 P (ad3) := by
 intro a0 r h
 refine bC0 (b := K.ad3) rfl hc.ad3 (fun _ => rfl) rfl rfl rfl ?_
 rintro L S0 _ _ _ ⟨av0, _, F0, _, _, rfl, rfl, rfl, rfl, rfl, rfl⟩
 unfold ad3 at h
 refine (show GC P _ L (⟨F.ad3, (F0 ++ []), S0, false, true⟩ : Fr) (numE 0 [av0]) [.own true [] (.ptr 80 (l9 a0)) av0 F0] (ae2 L K.ad3.res [.bool r]) from ?_)
 generalize ((F0 ++ []) : List Loc) = W
 refine aK7 (Mv.opn rfl) ?_
 rintro _ ⟨p_1, g_2, _, _, rfl, hO_19, rfl⟩
 obtain ⟨v_3, w_5, F_6, w_7, F_8, w_9, F_10, b_11, w_13, F_14, w_15, F_16, w_17, F_18, rfl, rfl, r_4, h_12⟩ := ac8 hO_19
 refine aa1 (aa2 (o6 (s_mv rfl) (aa4 (aa0 (aa1 (av3 (o6 (s_mv rfl) ?_)))))))
 refine o6 (ag4 rfl) (o6 (s_fa (o' := 6) rfl rfl) (o6 (s_fa (o' := 10) rfl rfl) (o6 (ar8 (i := 0) rfl rfl rfl) (o6 (s_mv rfl) (o6 (ag4 rfl) (o6 (s_fa (o' := 2) rfl rfl) (o6 (ar8 (i := 0) rfl rfl rfl) ?_)))))))
 refine bP3 (i := 2) (es := List.map aa8 a0.input) rfl fun ra_20 => ?_
 refine o6 (s_llA (c := aa8) rfl ra_20) (o6 (s_ib rfl rfl rfl) (o6 (s_mv rfl) (aG1 rfl (aa0 (ar4 ?_)))))
 obtain rfl := Option.some.inj h
 exact b05 (.tr rfl rfl .nil)
def S.ab8 (P : Program) (φ : D.o5 → Option (D.o5 × List UInt8 × Bool)) : Prop := ∀ (a0 : D.o5) (r : (D.o5 × List UInt8 × Bool)), φ a0 = some r → bd8 P F.ab8 [.o (.ptr 80 (l9 a0))] false [.o (.ptr 80 (l9 r.1))] [.r (.str r.2.1), .r (.bool r.2.2)]
theorem aw8 {P : Program} [hc : ae8 P] : S.ab8 P (ab8) := by
 intro a0 r h
 refine al5 (b := K.ab8) rfl hc.ab8 rfl rfl rfl ?_
 rintro L S0 _ _ _ ⟨av0, _, F0, _, _, rfl, rfl, rfl, rfl, rfl, rfl⟩
 unfold ab8 at h
 refine (show GC P _ L (⟨F.ab8, (F0 ++ []), S0, true, false⟩ : Fr) (numE 0 [av0]) [.own true [] (.ptr 80 (l9 a0)) av0 F0] (RetO (⟨F.ab8, (F0 ++ []), S0, true, false⟩ : Fr) L false [av0] K.ab8.res [.o (.ptr 80 (l9 r.1))] [.r (.str r.2.1), .r (.bool r.2.2)]) from ?_)
 generalize ((F0 ++ []) : List Loc) = W
 refine aK7 (Mv.opn rfl) ?_
 rintro _ ⟨p_1, g_2, _, _, rfl, hO_19, rfl⟩
 obtain ⟨v_3, w_5, F_6, w_7, F_8, w_9, F_10, b_11, w_13, F_14, w_15, F_16, w_17, F_18, rfl, rfl, r_4, h_12⟩ := ac8 hO_19
 refine aa1 (aa2 (o6 (s_mv rfl) (o6 (s_mv rfl) (aa4 (aa0 (aa1 (aa1 ?_)))))))
 refine aa2 (o6 (s_mv rfl) (aq4 (Mv.sht (os := (l9 a0)) (N := [.own true [] (.gs 1 88 (List.map (al3 y9) a0.regexes)) w_5 F_6, .own true [] (.gs 1 9 (List.map aa8 a0.input)) w_7 F_8, .own true [] (.ptr 96 (o7 a0.files)) w_9 F_10, .own true [] (.bb 5 a0.out) w_13 F_14, .own true [] (.rw true 1 3 (List.map (aj3 .i64) a0.state.Ranges)) w_15 F_16, .own true [] (.gs 2 122 (List.map y8 a0.state.Queue)) w_17 F_18]) rfl ⟨(CV.rel.2 (CV.rel.1 r_4)), rfl, rfl, rfl, rfl, rfl, rfl, h_12, rfl, rfl, rfl, rfl, rfl, rfl, rfl, rfl, rfl, rfl, rfl, rfl, rfl, rfl⟩) ?_))
 rintro _ ⟨F_20, rfl⟩
 obtain ⟨x_21, e_22, h⟩ := ae5 h
 refine ah6 (s_clQ (A1 := [.own true [] (.ptr 80 (l9 a0)) (.ptr p_1 g_2 0 0) F_20]) (fun _ => rfl) rfl rfl rfl (show InC [.o (.ptr 80 (l9 a0))] _ _ from ⟨rfl, rfl, rfl, rfl⟩) rfl ((bs8) _ _ e_22)) ?_
 rintro _ rfl
 refine aa4 (aa0 ?_)
 by_cases h_23 : x_21 = true
 ·replace h := iteT h h_23
  refine g_cT rfl h_23 (aa1 (aa2 (o6 (s_mv rfl) (o6 (ag4 rfl) (aq4 (Mv.opn2 rfl) ?_)))))
  rintro _ ⟨_, _, hO_40, rfl⟩
  obtain ⟨v_24, w_26, F_27, w_28, F_29, w_30, F_31, b_32, w_34, F_35, w_36, F_37, w_38, F_39, rfl, rfl, r_25, h_33⟩ := ac8 hO_40
  refine o6 (s_fa (o' := 6) rfl rfl) (o6 (s_fa (o' := 13) rfl rfl) (aq6 (i := 0) rfl rfl rfl ⟨rfl, rfl⟩ (.c rfl) rfl rfl rfl (aa4 (aa0 (aa1 (aa2 (o6 (s_mv rfl) ?_)))))))
  refine o6 (s_mv rfl) (aa4 (aa0 (ar4 (aY6 ?_))))
  obtain rfl := Option.some.inj h
  refine g_mv (Mv.sht (os := (l9 (D.o5.mk a0.f a0.regexes a0.input a0.files a0.out (D.y7.mk a0.state.Op a0.state.Pattern a0.state.Hold a0.state.Flag a0.state.Line a0.state.Ranges a0.state.Queue true)))) (N := [.own true [] (.gs 1 88 (List.map (al3 y9) a0.regexes)) w_26 F_27, .own true [] (.gs 1 9 (List.map aa8 a0.input)) w_28 F_29, .own true [] (.ptr 96 (o7 a0.files)) w_30 F_31, .own true [] (.bb 5 a0.out) w_34 F_35, .own true [] (.rw true 1 3 (List.map (aj3 .i64) a0.state.Ranges)) w_36 F_37, .own true [] (.gs 2 122 (List.map y8 a0.state.Queue)) w_38 F_39]) rfl ⟨(CV.rel.2 (CV.rel.1 r_25)), rfl, rfl, rfl, rfl, rfl, rfl, h_33, rfl, rfl, rfl, rfl, rfl, rfl, rfl, rfl, rfl, rfl, rfl, rfl, rfl, rfl⟩) ?_
  rintro _ ⟨F_41, rfl⟩
  exact ak9 (A1 := [.own true [] (.ptr 80 (l9 (D.o5.mk a0.f a0.regexes a0.input a0.files a0.out (D.y7.mk a0.state.Op a0.state.Pattern a0.state.Hold a0.state.Flag a0.state.Line a0.state.Ranges a0.state.Queue true)))) (.ptr p_1 g_2 0 0) F_41]) (A2 := []) (A3 := []) rfl ⟨rfl, rfl, rfl, rfl⟩ (.tr rfl rfl (.tr rfl rfl .nil)) rfl rfl
 ·replace h := iteF h h_23
  refine g_cF rfl (Bool.eq_false_iff.2 h_23) (ai6 (aa0 (aa1 (aa2 (o6 (s_mv rfl) (o6 (ag4 rfl) (aq4 (Mv.opn2 rfl) ?_)))))))
  rintro _ ⟨_, _, hO_58, rfl⟩
  obtain ⟨v_42, w_44, F_45, w_46, F_47, w_48, F_49, b_50, w_52, F_53, w_54, F_55, w_56, F_57, rfl, rfl, r_43, h_51⟩ := ac8 hO_58
  refine o6 (s_fa (o' := 6) rfl rfl) (o6 (s_fa (o' := 10) rfl rfl) (o6 (ar8 (i := 0) rfl rfl rfl) (o6 (s_ib rfl rfl rfl) (o6 (ag4 rfl) (o6 (s_fa (o' := 6) rfl rfl) (o6 (s_fa (o' := 10) rfl rfl) (aq6 (i := 0) rfl rfl rfl ⟨rfl, rfl⟩ (.c rfl) rfl rfl rfl ?_)))))))
  refine aa4 (aa0 (aa1 (av3 (o6 (s_mv rfl) (o6 (ag4 rfl) (o6 (s_fa (o' := 2) rfl rfl) (o6 (ar8 (i := 0) rfl rfl rfl) ?_)))))))
  refine o6 (s_mv rfl) (o6 (ag4 rfl) (o6 (s_fa (o' := 6) rfl rfl) (o6 (s_fa (o' := 10) rfl rfl) (o6 (ar8 (i := 0) rfl rfl rfl) (o6 (s_ib rfl rfl rfl) ?_)))))
  refine bP3 (i := 2) (es := List.map aa8 a0.input) rfl fun ra_59 => ?_
  obtain ⟨x_62, e_63, h⟩ := ae5 h
  refine ah6 (s_iaA (c := aa8) rfl ra_59 rfl e_63) ?_
  rintro _ ⟨c_60, rfl, r_61⟩
  refine o6 (aO7 (v := .str x_62) (a := .lit (.string (bs x_62))) rfl r_61 rfl (fun _ => aw4)) (o6 (s_mv rfl) (o6 (s_mv rfl) (aG1 rfl (aa0 (ar4 ?_)))))
  obtain rfl := Option.some.inj h
  refine g_mv (Mv.sht (os := (l9 (D.o5.mk a0.f a0.regexes a0.input a0.files a0.out (D.y7.mk a0.state.Op a0.state.Pattern a0.state.Hold a0.state.Flag (G.addI a0.state.Line 1) a0.state.Ranges a0.state.Queue a0.state.Done)))) (N := [.own true [] (.gs 1 88 (List.map (al3 y9) a0.regexes)) w_44 F_45, .own true [] (.gs 1 9 (List.map aa8 a0.input)) w_46 F_47, .own true [] (.ptr 96 (o7 a0.files)) w_48 F_49, .own true [] (.bb 5 a0.out) w_52 F_53, .own true [] (.rw true 1 3 (List.map (aj3 .i64) a0.state.Ranges)) w_54 F_55, .own true [] (.gs 2 122 (List.map y8 a0.state.Queue)) w_56 F_57]) rfl ⟨(CV.rel.2 (CV.rel.1 r_43)), rfl, rfl, rfl, rfl, rfl, rfl, h_51, rfl, rfl, rfl, rfl, rfl, rfl, rfl, rfl, rfl, rfl, rfl, rfl, rfl, rfl⟩) ?_
  rintro _ ⟨F_64, rfl⟩
  exact ak9 (A1 := [.own true [] (.ptr 80 (l9 (D.o5.mk a0.f a0.regexes a0.input a0.files a0.out (D.y7.mk a0.state.Op a0.state.Pattern a0.state.Hold a0.state.Flag (G.addI a0.state.Line 1) a0.state.Ranges a0.state.Queue a0.state.Done)))) (.ptr p_1 g_2 0 0) F_64]) (A2 := []) (A3 := []) rfl ⟨rfl, rfl, rfl, rfl⟩ (.tr rfl rfl (.tr rfl rfl .nil)) rfl rfl
def S.aa7 (P : Program) (φ : D.o5 → Option D.o5) : Prop := ∀ (a0 : D.o5) (r : D.o5), φ a0 = some r → bd8 P F.aa7 [.o (.ptr 80 (l9 a0))] false [.o (.ptr 80 (l9 r))] []
theorem aK8 {P : Program} [hc : ae8 P] : S.aa7 P (aa7) := by
 intro a0 r h
 refine al5 (b := K.aa7) rfl hc.aa7 rfl rfl rfl ?_
 rintro L S0 _ _ _ ⟨av0, _, F0, _, _, rfl, rfl, rfl, rfl, rfl, rfl⟩
 unfold aa7 at h
 refine (show GC P _ L (⟨F.aa7, (F0 ++ []), S0, true, false⟩ : Fr) (numE 0 [av0]) [.own true [] (.ptr 80 (l9 a0)) av0 F0] (RetO (⟨F.aa7, (F0 ++ []), S0, true, false⟩ : Fr) L false [av0] K.aa7.res [.o (.ptr 80 (l9 r))] []) from ?_)
 generalize ((F0 ++ []) : List Loc) = W
 refine aK7 (Mv.opn rfl) ?_
 rintro _ ⟨p_1, g_2, _, _, rfl, hO_19, rfl⟩
 obtain ⟨v_3, w_5, F_6, w_7, F_8, w_9, F_10, b_11, w_13, F_14, w_15, F_16, w_17, F_18, rfl, rfl, r_4, h_12⟩ := ac8 hO_19
 refine aa1 (aa2 (o6 (s_mv rfl) (aq4 (Mv.sht (os := (l9 a0)) (N := [.own true [] (.gs 1 88 (List.map (al3 y9) a0.regexes)) w_5 F_6, .own true [] (.gs 1 9 (List.map aa8 a0.input)) w_7 F_8, .own true [] (.ptr 96 (o7 a0.files)) w_9 F_10, .own true [] (.bb 5 a0.out) w_13 F_14, .own true [] (.rw true 1 3 (List.map (aj3 .i64) a0.state.Ranges)) w_15 F_16, .own true [] (.gs 2 122 (List.map y8 a0.state.Queue)) w_17 F_18]) rfl ⟨(CV.rel.2 (CV.rel.1 r_4)), rfl, rfl, rfl, rfl, rfl, rfl, h_12, rfl, rfl, rfl, rfl, rfl, rfl, rfl, rfl, rfl, rfl, rfl, rfl, rfl, rfl⟩) ?_)))
 rintro _ ⟨F_20, rfl⟩
 obtain ⟨x_21, e_22, h⟩ := ae5 h
 refine aN0 (A1 := [.own true [] (.ptr 80 (l9 a0)) (.ptr p_1 g_2 0 0) F_20]) rfl rfl (show InC [.o (.ptr 80 (l9 a0))] _ _ from ⟨rfl, rfl, rfl, rfl⟩) rfl rfl rfl rfl rfl ((aw8) _ _ e_22) ?_
 rintro _ _ _ J_24 ⟨F_25, _, rfl, rfl⟩ ⟨_, rfl, _, _, rfl, rfl, _, _, rfl, rfl, rfl, rfl⟩
 refine o6 (s_mv rfl) (o6 (s_ex rfl rfl) (o6 (s_ex rfl rfl) (o6 (s_mv rfl) (o6 (s_mv rfl) (aa4 (aa0 (aa1 ?_)))))))
 refine aa2 (o6 (s_mv rfl) (aa4 (aa0 ?_)))
 by_cases h_26 : x_21.2.2 = true
 ·replace h := iteT h h_26
  refine g_cT rfl h_26 (aa2 (o6 (s_mv rfl) (o6 (s_mv rfl) (o6 (s_mv rfl) (o6 (s_mv rfl) (o6 (ag4 rfl) (aq4 (Mv.opn2 rfl) ?_)))))))
  rintro _ ⟨_, _, hO_43, rfl⟩
  obtain ⟨v_27, w_29, F_30, w_31, F_32, w_33, F_34, b_35, w_37, F_38, w_39, F_40, w_41, F_42, rfl, rfl, r_28, h_36⟩ := ac8 hO_43
  refine o6 (s_fa (o' := 6) rfl rfl) (o6 (s_fa (o' := 7) rfl rfl) (aq6 (i := 0) rfl rfl rfl ⟨rfl, rfl⟩ (.c rfl) rfl rfl rfl (o6 (ag4 rfl) (o6 (s_fa (o' := 6) rfl rfl) (o6 (s_fa (o' := 9) rfl rfl) (aq6 (i := 0) rfl rfl rfl ⟨rfl, rfl⟩ (.c rfl) rfl rfl rfl (o6 (ag4 rfl) ?_)))))))
  refine o6 (s_fa (o' := 6) rfl rfl) (o6 (s_fa (o' := 6) rfl rfl) (aq6 (i := 0) rfl rfl rfl ⟨rfl, rfl⟩ (.c rfl) rfl rfl rfl (aa4 ?_)))
  obtain rfl := Option.some.inj h
  refine g_mv (Mv.sht (os := (l9 (D.o5.mk x_21.1.f x_21.1.regexes x_21.1.input x_21.1.files x_21.1.out (D.y7.mk 0 x_21.2.1 x_21.1.state.Hold false x_21.1.state.Line x_21.1.state.Ranges x_21.1.state.Queue x_21.1.state.Done)))) (N := [.own true [] (.gs 1 88 (List.map (al3 y9) x_21.1.regexes)) w_29 F_30, .own true [] (.gs 1 9 (List.map aa8 x_21.1.input)) w_31 F_32, .own true [] (.ptr 96 (o7 x_21.1.files)) w_33 F_34, .own true [] (.bb 5 x_21.1.out) w_37 F_38, .own true [] (.rw true 1 3 (List.map (aj3 .i64) x_21.1.state.Ranges)) w_39 F_40, .own true [] (.gs 2 122 (List.map y8 x_21.1.state.Queue)) w_41 F_42]) rfl ⟨(CV.rel.2 (CV.rel.1 r_28)), rfl, rfl, rfl, rfl, rfl, rfl, h_36, rfl, rfl, rfl, rfl, rfl, rfl, rfl, rfl, rfl, rfl, rfl, rfl, rfl, rfl⟩) ?_
  rintro _ ⟨F_44, rfl⟩
  exact ak9 (A1 := [.own true [] (.ptr 80 (l9 (D.o5.mk x_21.1.f x_21.1.regexes x_21.1.input x_21.1.files x_21.1.out (D.y7.mk 0 x_21.2.1 x_21.1.state.Hold false x_21.1.state.Line x_21.1.state.Ranges x_21.1.state.Queue x_21.1.state.Done)))) (.ptr p_1 g_2 0 0) F_44]) (A2 := []) (A3 := [.jnk true [] J_24]) rfl ⟨rfl, rfl, rfl, rfl⟩ .nil rfl rfl
 ·replace h := iteF h h_26
  refine g_cF rfl (Bool.eq_false_iff.2 h_26) (ai6 ?_)
  obtain rfl := Option.some.inj h
  exact ak9 (A1 := [.own true [] (.ptr 80 (l9 x_21.1)) (.ptr p_1 g_2 0 0) F_25]) (A2 := []) (A3 := [.jnk true [] J_24]) rfl ⟨rfl, rfl, rfl, rfl⟩ .nil rfl rfl
def S.ac6 (P : Program) (φ : (Option D.ab9) → (List (List UInt8)) → D.y5 → Option (D.y5 × D.o5)) : Prop := ∀ (a0 : (Option D.ab9)) (a1 : (List (List UInt8))) (a2 : D.y5) (r : (D.y5 × D.o5)), φ a0 a1 a2 = some r → bd8 P F.ac6 [.r (.v (vref ac2 a0)), .r (.sl 1 (a1.map aa8)), .o (.ptr 96 (o7 a2))] false [.x, .x, .o (.ptr 96 (o7 r.1))] [.o (.ptr 80 (l9 r.2))]
def aM5 (L : Nat) (W : List Loc) (S0 : AS) (a0 : (Option D.ab9)) (av0 : AV) (a1 : (List (List UInt8))) (av1 : AV) (p_1 : Loc) (g_2 : Nat) (p0 : (Option D.ab9)) (p1 : (List (List UInt8))) (p22 : (List D.av8)) (p23 : Int) (G_i6 : Nat) (v0 : AV) (v1 : AV) (v22 : AV) : (D.o5 × D.y5 × Int) → BT → AS → Prop := fun (q_i6, q_i0, p24) T S => ∃ (w_i11 : AV) (F_i11 : List Loc) (w_i10 : AV) (F_i10 : List Loc) (w_i9 : AV) (F_i9 : List Loc) (w_i8 : AV) (F_i8 : List Loc) (w_i7 : AV) (F_i7 : List Loc) (z_i6_0 : AV) (b_i6_4 : AV) (w_i3 : AV) (F_i3 : List Loc) (F_i0 : List Loc) (J_i4 : List Loc), RelC (vref ac2 q_i6.f) z_i6_0 ∧ (b_i6_4 = .lit (.pointer none) ∨ b_i6_4 = .ptr ⟨L + 1, 18, 0⟩ G_i6 0 4) ∧ Ag [(0, v0), (1, v1), (7, .ptr ⟨L + 1, 18, 0⟩ G_i6 0 0), (22, v22), (23, .lit (.int .i64 p23)), (24, .lit (.int .i64 p24))] T ∧ StA S L (⟨F.ac6, W, S0, true, false⟩ : Fr) [.own false [] (.gs 2 122 (List.map y8 q_i6.state.Queue)) w_i11 F_i11, .own false [] (.rw true 1 3 (List.map (aj3 .i64) q_i6.state.Ranges)) w_i10 F_i10, .own false [] (.bb 5 q_i6.out) w_i9 F_i9, .own false [] (.gs 1 9 (List.map aa8 q_i6.input)) w_i8 F_i8, .own false [] (.gs 1 88 (List.map (al3 y9) q_i6.regexes)) w_i7 F_i7, .cel false [18] ⟨L + 1, 18, 0⟩ G_i6 80 [z_i6_0, w_i7, w_i8, w_i3, b_i6_4, w_i9, .lit (.int .i64 q_i6.state.Op), .lit (.string (bs q_i6.state.Pattern)), .lit (.string (bs q_i6.state.Hold)), .lit (.bool q_i6.state.Flag), .lit (.int .i64 q_i6.state.Line), w_i10, w_i11, .lit (.bool q_i6.state.Done)], .own true [] (.ptr 96 (o7 q_i6.files)) w_i3 F_i3, .own true [] (.ptr 96 (o7 q_i0)) (.ptr p_1 g_2 0 0) F_i0, .jnk true [] J_i4]
def aX6 (L : Nat) (W : List Loc) (S0 : AS) (a0 : (Option D.ab9)) (av0 : AV) (a1 : (List (List UInt8))) (av1 : AV) (p_1 : Loc) (g_2 : Nat) (p0 : (Option D.ab9)) (p1 : (List (List UInt8))) (p22 : (List D.av8)) (p23 : Int) (G_i6 : Nat) (v0 : AV) (v1 : AV) (v22 : AV) : (D.o5 × D.y5) → BT → AS → Prop := fun (q_i6, q_i0) T S => ∃ (w_i11 : AV) (F_i11 : List Loc) (w_i10 : AV) (F_i10 : List Loc) (w_i9 : AV) (F_i9 : List Loc) (w_i8 : AV) (F_i8 : List Loc) (w_i7 : AV) (F_i7 : List Loc) (z_i6_0 : AV) (b_i6_4 : AV) (w_i3 : AV) (F_i3 : List Loc) (F_i0 : List Loc) (J_i4 : List Loc), RelC (vref ac2 q_i6.f) z_i6_0 ∧ (b_i6_4 = .lit (.pointer none) ∨ b_i6_4 = .ptr ⟨L + 1, 18, 0⟩ G_i6 0 4) ∧ Ag [(0, v0), (1, v1), (7, .ptr ⟨L + 1, 18, 0⟩ G_i6 0 0)] T ∧ StA S L (⟨F.ac6, W, S0, true, false⟩ : Fr) [.own false [] (.gs 2 122 (List.map y8 q_i6.state.Queue)) w_i11 F_i11, .own false [] (.rw true 1 3 (List.map (aj3 .i64) q_i6.state.Ranges)) w_i10 F_i10, .own false [] (.bb 5 q_i6.out) w_i9 F_i9, .own false [] (.gs 1 9 (List.map aa8 q_i6.input)) w_i8 F_i8, .own false [] (.gs 1 88 (List.map (al3 y9) q_i6.regexes)) w_i7 F_i7, .cel false [18] ⟨L + 1, 18, 0⟩ G_i6 80 [z_i6_0, w_i7, w_i8, w_i3, b_i6_4, w_i9, .lit (.int .i64 q_i6.state.Op), .lit (.string (bs q_i6.state.Pattern)), .lit (.string (bs q_i6.state.Hold)), .lit (.bool q_i6.state.Flag), .lit (.int .i64 q_i6.state.Line), w_i10, w_i11, .lit (.bool q_i6.state.Done)], .own true [] (.ptr 96 (o7 q_i6.files)) w_i3 F_i3, .own true [] (.ptr 96 (o7 q_i0)) (.ptr p_1 g_2 0 0) F_i0, .jnk true [] J_i4]
theorem bY3 {P : Program} [hc : ae8 P] (fu : Nat) {L : Nat} (W : List Loc) (S0 : AS) (a0 : (Option D.ab9)) (av0 : AV) (a1 : (List (List UInt8))) (av1 : AV) (p_1 : Loc) (g_2 : Nat) (p0 : (Option D.ab9)) (p1 : (List (List UInt8))) (p22 : (List D.av8)) (p23 : Int) {G_i6 : Nat} {v0 : AV} {v1 : AV} {v22 : AV} (ar0 : RelC (vref ac2 a0) av0) (ar1 : RelC (.sl 1 (List.map aa8 a1)) av1) (r0 : RelC (vref ac2 p0) v0) (r1 : RelC (.sl 1 (p1.map aa8)) v1) (r22 : RelC (.sl 4 (p22.map au4)) v22) : ∀ (s : (D.o5 × D.y5 × Int)) (c : Ctl (D.o5 × D.y5 × Int) (D.o5 × D.y5) (D.y5 × D.o5)), aW1 fu p0 p1 p22 p23 s = some c → ∀ T S, aM5 L W S0 a0 av0 a1 av1 p_1 g_2 p0 p1 p22 p23 G_i6 v0 v1 v22 s T S → RunB P K.by2 T S (at7 0 (aM5 L W S0 a0 av0 a1 av1 p_1 g_2 p0 p1 p22 p23 G_i6 v0 v1 v22) (aX6 L W S0 a0 av0 a1 av1 p_1 g_2 p0 p1 p22 p23 G_i6 v0 v1 v22) (fun r => RetO (⟨F.ac6, W, S0, true, false⟩ : Fr) L false [av0, av1, .ptr p_1 g_2 0 0] K.ac6.res [.x, .x, .o (.ptr 96 (o7 r.1))] [.o (.ptr 80 (l9 r.2))]) c) := by
 rintro ⟨q_i6, q_i0, p24⟩ c h T S ⟨w_i11, F_i11, w_i10, F_i10, w_i9, F_i9, w_i8, F_i8, w_i7, F_i7, z_i6_0, b_i6_4, w_i3, F_i3, F_i0, J_i4, y_i6_0, h_i6_4, hT, hS⟩
 unfold aW1 at h
 refine (show GC P K.by2 L (⟨F.ac6, W, S0, true, false⟩ : Fr) [(0, v0), (1, v1), (7, .ptr ⟨L + 1, 18, 0⟩ G_i6 0 0), (22, v22), (23, .lit (.int .i64 p23)), (24, .lit (.int .i64 p24))] [.own false [] (.gs 2 122 (List.map y8 q_i6.state.Queue)) w_i11 F_i11, .own false [] (.rw true 1 3 (List.map (aj3 .i64) q_i6.state.Ranges)) w_i10 F_i10, .own false [] (.bb 5 q_i6.out) w_i9 F_i9, .own false [] (.gs 1 9 (List.map aa8 q_i6.input)) w_i8 F_i8, .own false [] (.gs 1 88 (List.map (al3 y9) q_i6.regexes)) w_i7 F_i7, .cel false [18] ⟨L + 1, 18, 0⟩ G_i6 80 [z_i6_0, w_i7, w_i8, w_i3, b_i6_4, w_i9, .lit (.int .i64 q_i6.state.Op), .lit (.string (bs q_i6.state.Pattern)), .lit (.string (bs q_i6.state.Hold)), .lit (.bool q_i6.state.Flag), .lit (.int .i64 q_i6.state.Line), w_i10, w_i11, .lit (.bool q_i6.state.Done)], .own true [] (.ptr 96 (o7 q_i6.files)) w_i3 F_i3, .own true [] (.ptr 96 (o7 q_i0)) (.ptr p_1 g_2 0 0) F_i0, .jnk true [] J_i4] (at7 0 (aM5 L W S0 a0 av0 a1 av1 p_1 g_2 p0 p1 p22 p23 G_i6 v0 v1 v22) (aX6 L W S0 a0 av0 a1 av1 p_1 g_2 p0 p1 p22 p23 G_i6 v0 v1 v22) (fun r => RetO (⟨F.ac6, W, S0, true, false⟩ : Fr) L false [av0, av1, .ptr p_1 g_2 0 0] K.ac6.res [.x, .x, .o (.ptr 96 (o7 r.1))] [.o (.ptr 80 (l9 r.2))]) c) from ?_) T S hT hS
 refine aa1 (aa2 (o6 (s_ib rfl rfl rfl) (aa4 (aa0 (aa1 ?_)))))
 by_cases h_28 : p24 < p23
 ·replace h := iteT h h_28
  refine g_cT rfl (decide_eq_true h_28) (ai6 (aa0 (aa1 (ai7 (aa1 (aa2 ?_))))))
  obtain ⟨x_31, e_32, h⟩ := ae5 h
  refine ah6 (s_ia (c := au4) rfl r22.toS rfl e_32) ?_
  rintro _ ⟨c_29, rfl, r_30⟩
  refine ah6 (cg8 (N := au4 x_31) rfl r_30 rfl rfl) ?_
  rintro _ ⟨c_33, rfl, r_34⟩
  refine cf6 rfl rfl fun g_35 => ?_
  obtain ⟨_, hE_38, v_36, _, rfl, r_37, _, _, rfl, rfl, _, _, rfl, rfl, _, _, rfl, rfl, rfl⟩ := exL' r_34
  refine bY8 (i := 0) (b := .agg c_33) (cs' := [v_36, .lit (.int .i64 x_31.Groups), .lit (.int .i64 x_31.Loops), .lit (.bool x_31.Backs)]) rfl rfl rfl (by rw [hE_38]; rfl) (ab6.ones r_34) (fun a ha => .c (ak6 (ab6.closed r_34) a ha)) rfl (by rw [hE_38]; rfl) rfl (aa4 (aa0 (av3 (o6 (s_mv rfl) (o6 (s_mv rfl) (o6 (ag4 rfl) (o6 (s_fa (o' := 1) rfl rfl) ?_)))))))
  refine o6 (aG7 (i := 6) rfl rfl rfl) (o6 (bv1 (i := 0) rfl rfl rfl rfl) ?_)
  cases h
 ·replace h := iteF h h_28
  refine g_cF rfl (decide_eq_false h_28) (aO2 (aN9 ?_))
  obtain rfl := Option.some.inj h
  exact fun T S hT hS => ⟨rfl, ⟨w_i11, F_i11, w_i10, F_i10, w_i9, F_i9, w_i8, F_i8, w_i7, F_i7, z_i6_0, b_i6_4, w_i3, F_i3, F_i0, J_i4, y_i6_0, h_i6_4, hT.sub (subE.cons rfl (subE.cons rfl (subE.cons rfl (subE.nil _)))), hS.sub (.cons (i := 0) rfl (.own rfl rfl) (.cons (i := 1) rfl (.own rfl rfl) (.cons (i := 2) rfl (.own rfl rfl) (.cons (i := 3) rfl (.own rfl rfl) (.cons (i := 4) rfl (.own rfl rfl) (.cons (i := 5) rfl (.cel rfl rfl) (.cons (i := 6) rfl (.own rfl rfl) (.cons (i := 7) rfl (.own rfl rfl) (.cons (i := 8) rfl (.jnk rfl rfl) .nil))))))))) rfl⟩⟩
def aM6 (L : Nat) (W : List Loc) (S0 : AS) (a0 : (Option D.ab9)) (av0 : AV) (a1 : (List (List UInt8))) (av1 : AV) (p_1 : Loc) (g_2 : Nat) (p0 : (Option D.ab9)) (p40 : (List (List UInt8))) (p41 : Int) (G_i6 : Nat) (v0 : AV) (v40 : AV) : (D.o5 × D.y5 × Int) → BT → AS → Prop := fun (q_i6, q_i0, p42) T S => ∃ (w_i11 : AV) (F_i11 : List Loc) (w_i10 : AV) (F_i10 : List Loc) (w_i9 : AV) (F_i9 : List Loc) (w_i8 : AV) (F_i8 : List Loc) (w_i7 : AV) (F_i7 : List Loc) (z_i6_0 : AV) (b_i6_4 : AV) (w_i3 : AV) (F_i3 : List Loc) (F_i0 : List Loc) (J_i4 : List Loc), RelC (vref ac2 q_i6.f) z_i6_0 ∧ (b_i6_4 = .lit (.pointer none) ∨ b_i6_4 = .ptr ⟨L + 1, 18, 0⟩ G_i6 0 4) ∧ Ag [(0, v0), (7, .ptr ⟨L + 1, 18, 0⟩ G_i6 0 0), (40, v40), (41, .lit (.int .i64 p41)), (42, .lit (.int .i64 p42))] T ∧ StA S L (⟨F.ac6, W, S0, true, false⟩ : Fr) [.own false [] (.gs 2 122 (List.map y8 q_i6.state.Queue)) w_i11 F_i11, .own false [] (.rw true 1 3 (List.map (aj3 .i64) q_i6.state.Ranges)) w_i10 F_i10, .own false [] (.bb 5 q_i6.out) w_i9 F_i9, .own false [53] (.gs 1 9 (List.map aa8 q_i6.input)) w_i8 F_i8, .own false [] (.gs 1 88 (List.map (al3 y9) q_i6.regexes)) w_i7 F_i7, .cel false [18] ⟨L + 1, 18, 0⟩ G_i6 80 [z_i6_0, w_i7, w_i8, w_i3, b_i6_4, w_i9, .lit (.int .i64 q_i6.state.Op), .lit (.string (bs q_i6.state.Pattern)), .lit (.string (bs q_i6.state.Hold)), .lit (.bool q_i6.state.Flag), .lit (.int .i64 q_i6.state.Line), w_i10, w_i11, .lit (.bool q_i6.state.Done)], .own true [] (.ptr 96 (o7 q_i6.files)) w_i3 F_i3, .own true [] (.ptr 96 (o7 q_i0)) (.ptr p_1 g_2 0 0) F_i0, .jnk true [] J_i4]
def aY1 (L : Nat) (W : List Loc) (S0 : AS) (a0 : (Option D.ab9)) (av0 : AV) (a1 : (List (List UInt8))) (av1 : AV) (p_1 : Loc) (g_2 : Nat) (p0 : (Option D.ab9)) (p40 : (List (List UInt8))) (p41 : Int) (G_i6 : Nat) (v0 : AV) (v40 : AV) : (D.o5 × D.y5) → BT → AS → Prop := fun (q_i6, q_i0) T S => ∃ (w_i11 : AV) (F_i11 : List Loc) (w_i10 : AV) (F_i10 : List Loc) (w_i9 : AV) (F_i9 : List Loc) (w_i8 : AV) (F_i8 : List Loc) (w_i7 : AV) (F_i7 : List Loc) (z_i6_0 : AV) (b_i6_4 : AV) (w_i3 : AV) (F_i3 : List Loc) (F_i0 : List Loc) (J_i4 : List Loc), RelC (vref ac2 q_i6.f) z_i6_0 ∧ (b_i6_4 = .lit (.pointer none) ∨ b_i6_4 = .ptr ⟨L + 1, 18, 0⟩ G_i6 0 4) ∧ Ag [(0, v0), (7, .ptr ⟨L + 1, 18, 0⟩ G_i6 0 0)] T ∧ StA S L (⟨F.ac6, W, S0, true, false⟩ : Fr) [.own false [] (.gs 2 122 (List.map y8 q_i6.state.Queue)) w_i11 F_i11, .own false [] (.rw true 1 3 (List.map (aj3 .i64) q_i6.state.Ranges)) w_i10 F_i10, .own false [] (.bb 5 q_i6.out) w_i9 F_i9, .own false [53] (.gs 1 9 (List.map aa8 q_i6.input)) w_i8 F_i8, .own false [] (.gs 1 88 (List.map (al3 y9) q_i6.regexes)) w_i7 F_i7, .cel false [18] ⟨L + 1, 18, 0⟩ G_i6 80 [z_i6_0, w_i7, w_i8, w_i3, b_i6_4, w_i9, .lit (.int .i64 q_i6.state.Op), .lit (.string (bs q_i6.state.Pattern)), .lit (.string (bs q_i6.state.Hold)), .lit (.bool q_i6.state.Flag), .lit (.int .i64 q_i6.state.Line), w_i10, w_i11, .lit (.bool q_i6.state.Done)], .own true [] (.ptr 96 (o7 q_i6.files)) w_i3 F_i3, .own true [] (.ptr 96 (o7 q_i0)) (.ptr p_1 g_2 0 0) F_i0, .jnk true [] J_i4]
theorem bZ5 {P : Program} [hc : ae8 P] (fu : Nat) {L : Nat} (W : List Loc) (S0 : AS) (a0 : (Option D.ab9)) (av0 : AV) (a1 : (List (List UInt8))) (av1 : AV) (p_1 : Loc) (g_2 : Nat) (p0 : (Option D.ab9)) (p40 : (List (List UInt8))) (p41 : Int) {G_i6 : Nat} {v0 : AV} {v40 : AV} (ar0 : RelC (vref ac2 a0) av0) (ar1 : RelC (.sl 1 (List.map aa8 a1)) av1) (r0 : RelC (vref ac2 p0) v0) (r40 : RelC (.sl 1 (p40.map aa8)) v40) : ∀ (s : (D.o5 × D.y5 × Int)) (c : Ctl (D.o5 × D.y5 × Int) (D.o5 × D.y5) (D.y5 × D.o5)), az1 fu p0 p40 p41 s = some c → ∀ T S, aM6 L W S0 a0 av0 a1 av1 p_1 g_2 p0 p40 p41 G_i6 v0 v40 s T S → RunB P K.bA0 T S (at7 2 (aM6 L W S0 a0 av0 a1 av1 p_1 g_2 p0 p40 p41 G_i6 v0 v40) (aY1 L W S0 a0 av0 a1 av1 p_1 g_2 p0 p40 p41 G_i6 v0 v40) (fun r => RetO (⟨F.ac6, W, S0, true, false⟩ : Fr) L false [av0, av1, .ptr p_1 g_2 0 0] K.ac6.res [.x, .x, .o (.ptr 96 (o7 r.1))] [.o (.ptr 80 (l9 r.2))]) c) := by
 rintro ⟨q_i6, q_i0, p42⟩ c h T S ⟨w_i11, F_i11, w_i10, F_i10, w_i9, F_i9, w_i8, F_i8, w_i7, F_i7, z_i6_0, b_i6_4, w_i3, F_i3, F_i0, J_i4, y_i6_0, h_i6_4, hT, hS⟩
 unfold az1 at h
 refine (show GC P K.bA0 L (⟨F.ac6, W, S0, true, false⟩ : Fr) [(0, v0), (7, .ptr ⟨L + 1, 18, 0⟩ G_i6 0 0), (40, v40), (41, .lit (.int .i64 p41)), (42, .lit (.int .i64 p42))] [.own false [] (.gs 2 122 (List.map y8 q_i6.state.Queue)) w_i11 F_i11, .own false [] (.rw true 1 3 (List.map (aj3 .i64) q_i6.state.Ranges)) w_i10 F_i10, .own false [] (.bb 5 q_i6.out) w_i9 F_i9, .own false [53] (.gs 1 9 (List.map aa8 q_i6.input)) w_i8 F_i8, .own false [] (.gs 1 88 (List.map (al3 y9) q_i6.regexes)) w_i7 F_i7, .cel false [18] ⟨L + 1, 18, 0⟩ G_i6 80 [z_i6_0, w_i7, w_i8, w_i3, b_i6_4, w_i9, .lit (.int .i64 q_i6.state.Op), .lit (.string (bs q_i6.state.Pattern)), .lit (.string (bs q_i6.state.Hold)), .lit (.bool q_i6.state.Flag), .lit (.int .i64 q_i6.state.Line), w_i10, w_i11, .lit (.bool q_i6.state.Done)], .own true [] (.ptr 96 (o7 q_i6.files)) w_i3 F_i3, .own true [] (.ptr 96 (o7 q_i0)) (.ptr p_1 g_2 0 0) F_i0, .jnk true [] J_i4] (at7 2 (aM6 L W S0 a0 av0 a1 av1 p_1 g_2 p0 p40 p41 G_i6 v0 v40) (aY1 L W S0 a0 av0 a1 av1 p_1 g_2 p0 p40 p41 G_i6 v0 v40) (fun r => RetO (⟨F.ac6, W, S0, true, false⟩ : Fr) L false [av0, av1, .ptr p_1 g_2 0 0] K.ac6.res [.x, .x, .o (.ptr 96 (o7 r.1))] [.o (.ptr 80 (l9 r.2))]) c) from ?_) T S hT hS
 refine aa1 (aa2 (o6 (s_ib rfl rfl rfl) (aa4 (aa0 (aa1 ?_)))))
 by_cases h_42 : p42 < p41
 ·replace h := iteT h h_42
  refine g_cT rfl (decide_eq_true h_42) (ai6 (aa0 (aa1 (ai7 (aa1 (aa2 ?_))))))
  obtain ⟨x_45, e_46, h⟩ := ae5 h
  refine ah6 (s_ia (c := aa8) rfl r40.toS rfl e_46) ?_
  rintro _ ⟨c_43, rfl, r_44⟩
  refine o6 (aO7 (v := .str x_45) (a := .lit (.string (bs x_45))) rfl r_44 rfl (fun _ => aw4)) (o6 (s_mv rfl) (aa4 (aa0 (av3 (o6 (s_mv rfl) (o6 (s_mv rfl) (o6 (ag4 rfl) ?_)))))))
  refine o6 (s_fa (o' := 2) rfl rfl) (o6 (aG7 (i := 5) rfl rfl rfl) (o6 (s_mv rfl) ?_))
  obtain ⟨x_47, e_48, h⟩ := ae5 h
  refine ah6 (bW7 (rs := [.str x_45]) (fun _ => rfl) rfl (RVL.toN (L := L + 1) ⟨_, _, rfl, rfl, rfl⟩) ((cr8) _ _ e_48 (L + 1) _)) ?_
  rintro v_49 r_50
  replace r_50 := ResC.one r_50
  obtain ⟨x_51, e_52, h⟩ := ae5 h
  refine g_apP (i := 3) (c := aa8) rfl rfl rfl rfl (RelC.toA r_50) rfl rfl rfl e_52 fun w_53 F_54 => ?_
  refine o6 (ag4 rfl) (o6 (s_fa (o' := 2) rfl rfl) ?_)
  refine bP3 (i := 3) (es := List.map aa8 x_51) rfl fun ra_55 => ?_
  refine g_co (i := 3) rfl fun hc_56 => ?_
  refine cF9 (i := 5) rfl rfl rfl (ra_55.cells) hc_56 rfl rfl rfl (aG1 rfl (ak8 (aa0 (aa2 (o6 (s_ib rfl rfl rfl) (o6 (s_mv rfl) (aa4 ?_)))))))
  obtain rfl := Option.some.inj h
  exact fun T S hT hS => ⟨rfl, ⟨w_i11, F_i11, w_i10, F_i10, w_i9, F_i9, w_53, F_54, w_i7, F_i7, z_i6_0, b_i6_4, w_i3, F_i3, F_i0, J_i4, y_i6_0, h_i6_4, hT.sub (subE.cons rfl (subE.cons rfl (subE.cons rfl (subE.cons rfl (subE.cons rfl (subE.nil _)))))), hS.sub (.cons (i := 0) rfl (.own rfl rfl) (.cons (i := 1) rfl (.own rfl rfl) (.cons (i := 2) rfl (.own rfl rfl) (.cons (i := 3) rfl (.own rfl rfl) (.cons (i := 4) rfl (.own rfl rfl) (.cons (i := 5) rfl (.cel rfl rfl) (.cons (i := 6) rfl (.own rfl rfl) (.cons (i := 7) rfl (.own rfl rfl) (.cons (i := 8) rfl (.jnk rfl rfl) .nil))))))))) rfl⟩⟩
 ·replace h := iteF h h_42
  refine g_cF rfl (decide_eq_false h_42) (aO2 (aN9 ?_))
  obtain rfl := Option.some.inj h
  exact fun T S hT hS => ⟨rfl, ⟨w_i11, F_i11, w_i10, F_i10, w_i9, F_i9, w_i8, F_i8, w_i7, F_i7, z_i6_0, b_i6_4, w_i3, F_i3, F_i0, J_i4, y_i6_0, h_i6_4, hT.sub (subE.cons rfl (subE.cons rfl (subE.nil _))), hS.sub (.cons (i := 0) rfl (.own rfl rfl) (.cons (i := 1) rfl (.own rfl rfl) (.cons (i := 2) rfl (.own rfl rfl) (.cons (i := 3) rfl (.own rfl rfl) (.cons (i := 4) rfl (.own rfl rfl) (.cons (i := 5) rfl (.cel rfl rfl) (.cons (i := 6) rfl (.own rfl rfl) (.cons (i := 7) rfl (.own rfl rfl) (.cons (i := 8) rfl (.jnk rfl rfl) .nil))))))))) rfl⟩⟩
def aM4 (L : Nat) (W : List Loc) (S0 : AS) (a0 : (Option D.ab9)) (av0 : AV) (a1 : (List (List UInt8))) (av1 : AV) (p_1 : Loc) (g_2 : Nat) (p0 : (Option D.ab9)) (p58 : (List (List UInt8))) (p59 : Int) (G_i6 : Nat) (v0 : AV) (v58 : AV) : (D.o5 × D.y5 × Int) → BT → AS → Prop := fun (q_i6, q_i0, p60) T S => ∃ (w_i11 : AV) (F_i11 : List Loc) (w_i10 : AV) (F_i10 : List Loc) (w_i9 : AV) (F_i9 : List Loc) (w_i8 : AV) (F_i8 : List Loc) (w_i7 : AV) (F_i7 : List Loc) (z_i6_0 : AV) (b_i6_4 : AV) (w_i3 : AV) (F_i3 : List Loc) (F_i0 : List Loc) (J_i4 : List Loc), RelC (vref ac2 q_i6.f) z_i6_0 ∧ (b_i6_4 = .lit (.pointer none) ∨ b_i6_4 = .ptr ⟨L + 1, 18, 0⟩ G_i6 0 4) ∧ Ag [(0, v0), (7, .ptr ⟨L + 1, 18, 0⟩ G_i6 0 0), (58, v58), (59, .lit (.int .i64 p59)), (60, .lit (.int .i64 p60))] T ∧ StA S L (⟨F.ac6, W, S0, true, false⟩ : Fr) [.own false [] (.gs 2 122 (List.map y8 q_i6.state.Queue)) w_i11 F_i11, .own false [] (.rw true 1 3 (List.map (aj3 .i64) q_i6.state.Ranges)) w_i10 F_i10, .own false [] (.bb 5 q_i6.out) w_i9 F_i9, .own false [53] (.gs 1 9 (List.map aa8 q_i6.input)) w_i8 F_i8, .own false [] (.gs 1 88 (List.map (al3 y9) q_i6.regexes)) w_i7 F_i7, .cel false [18] ⟨L + 1, 18, 0⟩ G_i6 80 [z_i6_0, w_i7, w_i8, w_i3, b_i6_4, w_i9, .lit (.int .i64 q_i6.state.Op), .lit (.string (bs q_i6.state.Pattern)), .lit (.string (bs q_i6.state.Hold)), .lit (.bool q_i6.state.Flag), .lit (.int .i64 q_i6.state.Line), w_i10, w_i11, .lit (.bool q_i6.state.Done)], .own true [] (.ptr 96 (o7 q_i6.files)) w_i3 F_i3, .own true [] (.ptr 96 (o7 q_i0)) (.ptr p_1 g_2 0 0) F_i0, .jnk true [] J_i4]
def aW7 (L : Nat) (W : List Loc) (S0 : AS) (a0 : (Option D.ab9)) (av0 : AV) (a1 : (List (List UInt8))) (av1 : AV) (p_1 : Loc) (g_2 : Nat) (p0 : (Option D.ab9)) (p58 : (List (List UInt8))) (p59 : Int) (G_i6 : Nat) (v0 : AV) (v58 : AV) : (D.o5 × D.y5) → BT → AS → Prop := fun (q_i6, q_i0) T S => ∃ (w_i11 : AV) (F_i11 : List Loc) (w_i10 : AV) (F_i10 : List Loc) (w_i9 : AV) (F_i9 : List Loc) (w_i8 : AV) (F_i8 : List Loc) (w_i7 : AV) (F_i7 : List Loc) (z_i6_0 : AV) (b_i6_4 : AV) (w_i3 : AV) (F_i3 : List Loc) (F_i0 : List Loc) (J_i4 : List Loc), RelC (vref ac2 q_i6.f) z_i6_0 ∧ (b_i6_4 = .lit (.pointer none) ∨ b_i6_4 = .ptr ⟨L + 1, 18, 0⟩ G_i6 0 4) ∧ Ag [(0, v0), (7, .ptr ⟨L + 1, 18, 0⟩ G_i6 0 0)] T ∧ StA S L (⟨F.ac6, W, S0, true, false⟩ : Fr) [.own false [] (.gs 2 122 (List.map y8 q_i6.state.Queue)) w_i11 F_i11, .own false [] (.rw true 1 3 (List.map (aj3 .i64) q_i6.state.Ranges)) w_i10 F_i10, .own false [] (.bb 5 q_i6.out) w_i9 F_i9, .own false [53] (.gs 1 9 (List.map aa8 q_i6.input)) w_i8 F_i8, .own false [] (.gs 1 88 (List.map (al3 y9) q_i6.regexes)) w_i7 F_i7, .cel false [18] ⟨L + 1, 18, 0⟩ G_i6 80 [z_i6_0, w_i7, w_i8, w_i3, b_i6_4, w_i9, .lit (.int .i64 q_i6.state.Op), .lit (.string (bs q_i6.state.Pattern)), .lit (.string (bs q_i6.state.Hold)), .lit (.bool q_i6.state.Flag), .lit (.int .i64 q_i6.state.Line), w_i10, w_i11, .lit (.bool q_i6.state.Done)], .own true [] (.ptr 96 (o7 q_i6.files)) w_i3 F_i3, .own true [] (.ptr 96 (o7 q_i0)) (.ptr p_1 g_2 0 0) F_i0, .jnk true [] J_i4]
theorem bY9 {P : Program} [hc : ae8 P] (fu : Nat) {L : Nat} (W : List Loc) (S0 : AS) (a0 : (Option D.ab9)) (av0 : AV) (a1 : (List (List UInt8))) (av1 : AV) (p_1 : Loc) (g_2 : Nat) (p0 : (Option D.ab9)) (p58 : (List (List UInt8))) (p59 : Int) {G_i6 : Nat} {v0 : AV} {v58 : AV} (ar0 : RelC (vref ac2 a0) av0) (ar1 : RelC (.sl 1 (List.map aa8 a1)) av1) (r0 : RelC (vref ac2 p0) v0) (r58 : RelC (.sl 1 (p58.map aa8)) v58) : ∀ (s : (D.o5 × D.y5 × Int)) (c : Ctl (D.o5 × D.y5 × Int) (D.o5 × D.y5) (D.y5 × D.o5)), aW5 fu p0 p58 p59 s = some c → ∀ T S, aM4 L W S0 a0 av0 a1 av1 p_1 g_2 p0 p58 p59 G_i6 v0 v58 s T S → RunB P K.bl0 T S (at7 4 (aM4 L W S0 a0 av0 a1 av1 p_1 g_2 p0 p58 p59 G_i6 v0 v58) (aW7 L W S0 a0 av0 a1 av1 p_1 g_2 p0 p58 p59 G_i6 v0 v58) (fun r => RetO (⟨F.ac6, W, S0, true, false⟩ : Fr) L false [av0, av1, .ptr p_1 g_2 0 0] K.ac6.res [.x, .x, .o (.ptr 96 (o7 r.1))] [.o (.ptr 80 (l9 r.2))]) c) := by
 rintro ⟨q_i6, q_i0, p60⟩ c h T S ⟨w_i11, F_i11, w_i10, F_i10, w_i9, F_i9, w_i8, F_i8, w_i7, F_i7, z_i6_0, b_i6_4, w_i3, F_i3, F_i0, J_i4, y_i6_0, h_i6_4, hT, hS⟩
 unfold aW5 at h
 refine (show GC P K.bl0 L (⟨F.ac6, W, S0, true, false⟩ : Fr) [(0, v0), (7, .ptr ⟨L + 1, 18, 0⟩ G_i6 0 0), (58, v58), (59, .lit (.int .i64 p59)), (60, .lit (.int .i64 p60))] [.own false [] (.gs 2 122 (List.map y8 q_i6.state.Queue)) w_i11 F_i11, .own false [] (.rw true 1 3 (List.map (aj3 .i64) q_i6.state.Ranges)) w_i10 F_i10, .own false [] (.bb 5 q_i6.out) w_i9 F_i9, .own false [53] (.gs 1 9 (List.map aa8 q_i6.input)) w_i8 F_i8, .own false [] (.gs 1 88 (List.map (al3 y9) q_i6.regexes)) w_i7 F_i7, .cel false [18] ⟨L + 1, 18, 0⟩ G_i6 80 [z_i6_0, w_i7, w_i8, w_i3, b_i6_4, w_i9, .lit (.int .i64 q_i6.state.Op), .lit (.string (bs q_i6.state.Pattern)), .lit (.string (bs q_i6.state.Hold)), .lit (.bool q_i6.state.Flag), .lit (.int .i64 q_i6.state.Line), w_i10, w_i11, .lit (.bool q_i6.state.Done)], .own true [] (.ptr 96 (o7 q_i6.files)) w_i3 F_i3, .own true [] (.ptr 96 (o7 q_i0)) (.ptr p_1 g_2 0 0) F_i0, .jnk true [] J_i4] (at7 4 (aM4 L W S0 a0 av0 a1 av1 p_1 g_2 p0 p58 p59 G_i6 v0 v58) (aW7 L W S0 a0 av0 a1 av1 p_1 g_2 p0 p58 p59 G_i6 v0 v58) (fun r => RetO (⟨F.ac6, W, S0, true, false⟩ : Fr) L false [av0, av1, .ptr p_1 g_2 0 0] K.ac6.res [.x, .x, .o (.ptr 96 (o7 r.1))] [.o (.ptr 80 (l9 r.2))]) c) from ?_) T S hT hS
 refine aa1 (aa2 (o6 (s_ib rfl rfl rfl) (aa4 (aa0 (aa1 ?_)))))
 by_cases h_64 : p60 < p59
 ·replace h := iteT h h_64
  refine g_cT rfl (decide_eq_true h_64) (ai6 (aa0 (aa1 (ai7 (aa1 (aa2 ?_))))))
  obtain ⟨x_67, e_68, h⟩ := ae5 h
  refine ah6 (s_ia (c := aa8) rfl r58.toS rfl e_68) ?_
  rintro _ ⟨c_65, rfl, r_66⟩
  refine o6 (aO7 (v := .str x_67) (a := .lit (.string (bs x_67))) rfl r_66 rfl (fun _ => aw4)) (o6 (s_mv rfl) (aa4 (aa0 (aa2 (o6 (s_mv rfl) (o6 (ag4 rfl) (o6 (s_fa (o' := 3) rfl rfl) ?_)))))))
  refine o6 (aG7 (i := 5) rfl rfl rfl) (o6 (s_mv rfl) ?_)
  cases h
 ·replace h := iteF h h_64
  refine g_cF rfl (decide_eq_false h_64) (aO2 (aN9 ?_))
  obtain rfl := Option.some.inj h
  exact fun T S hT hS => ⟨rfl, ⟨w_i11, F_i11, w_i10, F_i10, w_i9, F_i9, w_i8, F_i8, w_i7, F_i7, z_i6_0, b_i6_4, w_i3, F_i3, F_i0, J_i4, y_i6_0, h_i6_4, hT.sub (subE.cons rfl (subE.cons rfl (subE.nil _))), hS.sub (.cons (i := 0) rfl (.own rfl rfl) (.cons (i := 1) rfl (.own rfl rfl) (.cons (i := 2) rfl (.own rfl rfl) (.cons (i := 3) rfl (.own rfl rfl) (.cons (i := 4) rfl (.own rfl rfl) (.cons (i := 5) rfl (.cel rfl rfl) (.cons (i := 6) rfl (.own rfl rfl) (.cons (i := 7) rfl (.own rfl rfl) (.cons (i := 8) rfl (.jnk rfl rfl) .nil))))))))) rfl⟩⟩
theorem cB4 {P : Program} [hc : ae8 P] (fu : Nat) : S.ac6 P (ac6 fu) := by
 intro a0 a1 a2 r h
 refine al5 (b := K.ac6) rfl hc.ac6 rfl rfl rfl ?_
 rintro L S0 _ _ _ ⟨av0, _, rfl, ar0, av1, _, rfl, ar1, av2, _, F2, _, _, rfl, rfl, rfl, rfl, rfl, rfl⟩
 unfold ac6 at h
 refine (show GC P _ L (⟨F.ac6, (F2 ++ []), S0, true, false⟩ : Fr) (numE 0 [av0, av1, av2]) [.own true [] (.ptr 96 (o7 a2)) av2 F2] (RetO (⟨F.ac6, (F2 ++ []), S0, true, false⟩ : Fr) L false [av0, av1, av2] K.ac6.res [.x, .x, .o (.ptr 96 (o7 r.1))] [.o (.ptr 80 (l9 r.2))]) from ?_)
 generalize ((F2 ++ []) : List Loc) = W
 refine aK7 (Mv.opn rfl) ?_
 rintro _ ⟨p_1, g_2, _, _, rfl, ⟨w_3, _, F_4, _, rfl, rfl, rfl, rfl⟩, rfl⟩
 refine aa1 (aa2 (o6 (s_mv rfl) (aa4 (aa0 (aa1 (aa2 (o6 (s_mv rfl) ?_)))))))
 refine o6 (s_mv rfl) (aq4 (Mv.sht (os := (o7 a2)) (N := [.own true [] (Mp.o Mp.ks (fun v => .sl 1 (List.map aa8 v)) a2.lines) w_3 F_4]) rfl ⟨rfl, rfl, rfl, rfl⟩) ?_)
 rintro _ ⟨F_5, rfl⟩
 obtain ⟨x_6, e_7, h⟩ := ae5 h
 refine aN0 (A1 := [.own true [] (.ptr 96 (o7 a2)) (.ptr p_1 g_2 0 0) F_5]) rfl rfl (show InC [.o (.ptr 96 (o7 a2))] _ _ from ⟨rfl, rfl, rfl, rfl⟩) rfl rfl rfl rfl rfl ((aP0) _ _ e_7) ?_
 rintro w_11 _ _ J_9 ⟨F_10, _, rfl, rfl⟩ ⟨F_12, rfl⟩
 refine aq4 (Mv.sub (.cons (i := 1) rfl .rfl (.cons (i := 0) rfl .rfl (.cons (i := 2) rfl .rfl .nil))) rfl) ?_
 rintro _ rfl
 refine aq4 (Mv.opn rfl) ?_
 rintro _ ⟨p_13, g_14, _, _, rfl, ⟨w_15, _, F_16, _, rfl, rfl, rfl, rfl⟩, rfl⟩
 refine o6 (s_bdX (cs := [av0, .lit (.slice none 0 0), .lit (.slice none 0 0), .ptr p_13 g_14 0 0, .lit (.pointer none), .lit (.slice none 0 0), .lit (.int .i64 0), .lit (.string (bs [])), .lit (.string (bs [])), .lit (.bool false), .lit (.int .i64 0), .lit (.slice none 0 0), .lit (.slice none 0 0), .lit (.bool false)]) (.cons rfl (rc1 ar0).1 rfl rfl (.cons rfl rfl rfl rfl (.nil rfl)))) (aq4 (Mv.sht (os := (o7 x_6.2)) (N := [.own true [] (Mp.o Mp.ks (fun v => .sl 1 (List.map aa8 v)) x_6.2.lines) w_15 F_16]) rfl ⟨rfl, rfl, rfl, rfl⟩) ?_)
 rintro _ ⟨F_18, rfl⟩
 refine g_co (i := 0) rfl fun hc_19 => ?_
 refine g_bxO rfl rfl ⟨.c ar0.closed, .c rfl, .c rfl, hc_19, .c rfl, .c rfl, .c rfl, .c rfl, .c rfl, .c rfl, .c rfl, .c rfl, .c rfl, .c rfl, trivial⟩ rfl fun g_17 => ?_
 refine o6 (s_mv rfl) (aa4 (aa0 (aa1 (aa1 (aa2 (o6 (s_mv rfl) ?_))))))
 obtain ⟨x_22, e_23, h⟩ := ae5 h
 refine ah6 (cJ8 (c := ac2) rfl ar0 e_23) ?_
 rintro _ ⟨c_20, rfl, r_21⟩
 refine ah6 (cI6 rfl r_21) ?_
 rintro _ ⟨c_24, rfl, r_25⟩
 refine ah6 (cX8 (v := .sl 4 (x_22.Programs.map au4)) rfl r_25 rfl) ?_
 rintro v_26 r_27
 refine o6 (bX7 (c := au4) rfl r_27) (o6 (s_mv rfl) (aa4 (aa0 (ai7 (aK7 (Mv.addN (ks := []) (n := 1) (e := 88) (a := .lit (.slice none 0 0)) ⟨_, rfl⟩) ?_)))))
 rintro _ rfl
 refine aK7 (Mv.addN (ks := []) (n := 1) (e := 9) (a := .lit (.slice none 0 0)) ⟨_, rfl⟩) ?_
 rintro _ rfl
 refine aK7 (Mv.addB (ks := []) (te := 5)) ?_
 rintro _ rfl
 refine aK7 (Mv.addRN (xr := true) (ks := []) (n := 1) (e := 3) (a := .lit (.slice none 0 0)) ⟨_, rfl⟩) ?_
 rintro _ rfl
 refine aK7 (Mv.addN (ks := []) (n := 2) (e := 122) (a := .lit (.slice none 0 0)) ⟨_, rfl⟩) ?_
 rintro _ rfl
 obtain ⟨o_39, e_40, h⟩ := ae5 h
 refine aR0 (IN := aM5 L W S0 a0 av0 a1 av1 p_1 g_2 a0 a1 x_22.Programs (x_22.Programs.length : Int) g_17 av0 av1 v_26) (IB := aX6 L W S0 a0 av0 a1 av1 p_1 g_2 a0 a1 x_22.Programs (x_22.Programs.length : Int) g_17 av0 av1 v_26) (IR := fun r => RetO (⟨F.ac6, W, S0, true, false⟩ : Fr) L false [av0, av1, .ptr p_1 g_2 0 0] K.ac6.res [.x, .x, .o (.ptr 96 (o7 r.1))] [.o (.ptr 80 (l9 r.2))]) e_40 (bY3 fu W S0 a0 av0 a1 av1 p_1 g_2 a0 a1 x_22.Programs (x_22.Programs.length : Int) (G_i6 := g_17) (v0 := av0) (v1 := av1) (v22 := v_26) ar0 ar1 ar0 ar1 r_27) (fun T S hT hS => ⟨(.lit (.slice none 0 0)), [], (.lit (.slice none 0 0)), [], (.lit (.slice none 0 0)), [], (.lit (.slice none 0 0)), [], (.lit (.slice none 0 0)), [], av0, (.lit (.pointer none)), (.ptr p_13 g_14 0 0), F_18, F_10, J_9, ar0, (.inl rfl), hT.sub (subE.cons rfl (subE.cons rfl (subE.cons rfl (subE.cons rfl (subE.cons rfl (subE.cons rfl (subE.nil _))))))), hS.sub (.cons (i := 0) rfl (.own rfl rfl) (.cons (i := 1) rfl (.own rfl rfl) (.cons (i := 2) rfl (.own rfl rfl) (.cons (i := 3) rfl (.own rfl rfl) (.cons (i := 4) rfl (.own rfl rfl) (.cons (i := 5) rfl (.cel rfl rfl) (.cons (i := 6) rfl (.own rfl rfl) (.cons (i := 7) rfl (.own rfl rfl) (.cons (i := 8) rfl (.jnk rfl rfl) .nil))))))))) rfl⟩) ?_
 rintro x T S hO
 cases o_39 with
 | brk s =>
  obtain ⟨q_i6b_41, q_i0b_41⟩ := s
  obtain ⟨rfl, w_i11b_41, F_i11b_41, w_i10b_41, F_i10b_41, w_i9b_41, F_i9b_41, w_i8b_41, F_i8b_41, w_i7b_41, F_i7b_41, z_i6_0b_41, b_i6_4b_41, w_i3b_41, F_i3b_41, F_i0b_41, J_i4b_41, y_i6_0b_41, h_i6_4b_41, hT, hS⟩ := hO
  refine (show G (.exit 0) L (⟨F.ac6, W, S0, true, false⟩ : Fr) [(0, av0), (1, av1), (7, .ptr ⟨L + 1, 18, 0⟩ g_17 0 0)] [.own false [] (.gs 2 122 (List.map y8 q_i6b_41.state.Queue)) w_i11b_41 F_i11b_41, .own false [] (.rw true 1 3 (List.map (aj3 .i64) q_i6b_41.state.Ranges)) w_i10b_41 F_i10b_41, .own false [] (.bb 5 q_i6b_41.out) w_i9b_41 F_i9b_41, .own false [] (.gs 1 9 (List.map aa8 q_i6b_41.input)) w_i8b_41 F_i8b_41, .own false [] (.gs 1 88 (List.map (al3 y9) q_i6b_41.regexes)) w_i7b_41 F_i7b_41, .cel false [18] ⟨L + 1, 18, 0⟩ g_17 80 [z_i6_0b_41, w_i7b_41, w_i8b_41, w_i3b_41, b_i6_4b_41, w_i9b_41, .lit (.int .i64 q_i6b_41.state.Op), .lit (.string (bs q_i6b_41.state.Pattern)), .lit (.string (bs q_i6b_41.state.Hold)), .lit (.bool q_i6b_41.state.Flag), .lit (.int .i64 q_i6b_41.state.Line), w_i10b_41, w_i11b_41, .lit (.bool q_i6b_41.state.Done)], .own true [] (.ptr 96 (o7 q_i6b_41.files)) w_i3b_41 F_i3b_41, .own true [] (.ptr 96 (o7 q_i0b_41)) (.ptr p_1 g_2 0 0) F_i0b_41, .jnk true [] J_i4b_41] (Blk 0 (Thn P K.bO3 (RetO (⟨F.ac6, W, S0, true, false⟩ : Fr) L false [av0, av1, .ptr p_1 g_2 0 0] K.ac6.res [.x, .x, .o (.ptr 96 (o7 r.1))] [.o (.ptr 80 (l9 r.2))]))) from ?_) T S hT hS
  refine aQ0 (aa0 (aa1 (aa1 (aa2 (o6 (s_mv rfl) (o6 (bX7 (c := aa8) rfl ar1) (o6 (s_mv rfl) ?_)))))))
  refine aa4 (aa0 (ai7 ?_))
  obtain ⟨o_57, e_58, h⟩ := ae5 h
  refine aR0 (IN := aM6 L W S0 a0 av0 a1 av1 p_1 g_2 a0 a1 (a1.length : Int) g_17 av0 av1) (IB := aY1 L W S0 a0 av0 a1 av1 p_1 g_2 a0 a1 (a1.length : Int) g_17 av0 av1) (IR := fun r => RetO (⟨F.ac6, W, S0, true, false⟩ : Fr) L false [av0, av1, .ptr p_1 g_2 0 0] K.ac6.res [.x, .x, .o (.ptr 96 (o7 r.1))] [.o (.ptr 80 (l9 r.2))]) e_58 (bZ5 fu W S0 a0 av0 a1 av1 p_1 g_2 a0 a1 (a1.length : Int) (G_i6 := g_17) (v0 := av0) (v40 := av1) ar0 ar1 ar0 ar1) (fun T S hT hS => ⟨w_i11b_41, F_i11b_41, w_i10b_41, F_i10b_41, w_i9b_41, F_i9b_41, w_i8b_41, F_i8b_41, w_i7b_41, F_i7b_41, z_i6_0b_41, b_i6_4b_41, w_i3b_41, F_i3b_41, F_i0b_41, J_i4b_41, y_i6_0b_41, h_i6_4b_41, hT.sub (subE.cons rfl (subE.cons rfl (subE.cons rfl (subE.cons rfl (subE.cons rfl (subE.nil _)))))), hS.sub (.cons (i := 0) rfl (.own rfl rfl) (.cons (i := 1) rfl (.own rfl rfl) (.cons (i := 2) rfl (.own rfl rfl) (.cons (i := 3) rfl (.own rfl rfl) (.cons (i := 4) rfl (.own rfl rfl) (.cons (i := 5) rfl (.cel rfl rfl) (.cons (i := 6) rfl (.own rfl rfl) (.cons (i := 7) rfl (.own rfl rfl) (.cons (i := 8) rfl (.jnk rfl rfl) .nil))))))))) rfl⟩) ?_
  rintro x T S hO
  cases o_57 with
  | brk s =>
   obtain ⟨q_i6b_59, q_i0b_59⟩ := s
   obtain ⟨rfl, w_i11b_59, F_i11b_59, w_i10b_59, F_i10b_59, w_i9b_59, F_i9b_59, w_i8b_59, F_i8b_59, w_i7b_59, F_i7b_59, z_i6_0b_59, b_i6_4b_59, w_i3b_59, F_i3b_59, F_i0b_59, J_i4b_59, y_i6_0b_59, h_i6_4b_59, hT, hS⟩ := hO
   refine (show G (.exit 2) L (⟨F.ac6, W, S0, true, false⟩ : Fr) [(0, av0), (7, .ptr ⟨L + 1, 18, 0⟩ g_17 0 0)] [.own false [] (.gs 2 122 (List.map y8 q_i6b_59.state.Queue)) w_i11b_59 F_i11b_59, .own false [] (.rw true 1 3 (List.map (aj3 .i64) q_i6b_59.state.Ranges)) w_i10b_59 F_i10b_59, .own false [] (.bb 5 q_i6b_59.out) w_i9b_59 F_i9b_59, .own false [53] (.gs 1 9 (List.map aa8 q_i6b_59.input)) w_i8b_59 F_i8b_59, .own false [] (.gs 1 88 (List.map (al3 y9) q_i6b_59.regexes)) w_i7b_59 F_i7b_59, .cel false [18] ⟨L + 1, 18, 0⟩ g_17 80 [z_i6_0b_59, w_i7b_59, w_i8b_59, w_i3b_59, b_i6_4b_59, w_i9b_59, .lit (.int .i64 q_i6b_59.state.Op), .lit (.string (bs q_i6b_59.state.Pattern)), .lit (.string (bs q_i6b_59.state.Hold)), .lit (.bool q_i6b_59.state.Flag), .lit (.int .i64 q_i6b_59.state.Line), w_i10b_59, w_i11b_59, .lit (.bool q_i6b_59.state.Done)], .own true [] (.ptr 96 (o7 q_i6b_59.files)) w_i3b_59 F_i3b_59, .own true [] (.ptr 96 (o7 q_i0b_59)) (.ptr p_1 g_2 0 0) F_i0b_59, .jnk true [] J_i4b_59] (Blk 2 (Thn P K.bO2 (RetO (⟨F.ac6, W, S0, true, false⟩ : Fr) L false [av0, av1, .ptr p_1 g_2 0 0] K.ac6.res [.x, .x, .o (.ptr 96 (o7 r.1))] [.o (.ptr 80 (l9 r.2))]))) from ?_) T S hT hS
   refine aQ0 (aa0 (aa1 (aa1 (aa2 (o6 (s_mv rfl) ?_)))))
   obtain ⟨x_60, e_61, h⟩ := ae5 h
   refine ah6 (bW7 (rs := [.v (vref ac2 a0)]) (fun _ => rfl) rfl (RVL.toN (L := L + 1) ⟨_, _, rfl, ar0, rfl⟩) ((bz9 fu) _ _ e_61 (L + 1) _)) ?_
   rintro v_62 r_63
   replace r_63 := ResC.one r_63
   refine o6 (bX7 (c := aa8) rfl r_63) (o6 (s_mv rfl) (aa4 (aa0 (ai7 ?_))))
   obtain ⟨o_69, e_70, h⟩ := ae5 h
   refine aR0 (IN := aM4 L W S0 a0 av0 a1 av1 p_1 g_2 a0 x_60 (x_60.length : Int) g_17 av0 v_62) (IB := aW7 L W S0 a0 av0 a1 av1 p_1 g_2 a0 x_60 (x_60.length : Int) g_17 av0 v_62) (IR := fun r => RetO (⟨F.ac6, W, S0, true, false⟩ : Fr) L false [av0, av1, .ptr p_1 g_2 0 0] K.ac6.res [.x, .x, .o (.ptr 96 (o7 r.1))] [.o (.ptr 80 (l9 r.2))]) e_70 (bY9 fu W S0 a0 av0 a1 av1 p_1 g_2 a0 x_60 (x_60.length : Int) (G_i6 := g_17) (v0 := av0) (v58 := v_62) ar0 ar1 ar0 r_63) (fun T S hT hS => ⟨w_i11b_59, F_i11b_59, w_i10b_59, F_i10b_59, w_i9b_59, F_i9b_59, w_i8b_59, F_i8b_59, w_i7b_59, F_i7b_59, z_i6_0b_59, b_i6_4b_59, w_i3b_59, F_i3b_59, F_i0b_59, J_i4b_59, y_i6_0b_59, h_i6_4b_59, hT.sub (subE.cons rfl (subE.cons rfl (subE.cons rfl (subE.cons rfl (subE.cons rfl (subE.nil _)))))), hS.sub (.cons (i := 0) rfl (.own rfl rfl) (.cons (i := 1) rfl (.own rfl rfl) (.cons (i := 2) rfl (.own rfl rfl) (.cons (i := 3) rfl (.own rfl rfl) (.cons (i := 4) rfl (.own rfl rfl) (.cons (i := 5) rfl (.cel rfl rfl) (.cons (i := 6) rfl (.own rfl rfl) (.cons (i := 7) rfl (.own rfl rfl) (.cons (i := 8) rfl (.jnk rfl rfl) .nil))))))))) rfl⟩) ?_
   rintro x T S hO
   cases o_69 with
   | brk s =>
    obtain ⟨q_i6b_71, q_i0b_71⟩ := s
    obtain ⟨rfl, w_i11b_71, F_i11b_71, w_i10b_71, F_i10b_71, w_i9b_71, F_i9b_71, w_i8b_71, F_i8b_71, w_i7b_71, F_i7b_71, z_i6_0b_71, b_i6_4b_71, w_i3b_71, F_i3b_71, F_i0b_71, J_i4b_71, y_i6_0b_71, h_i6_4b_71, hT, hS⟩ := hO
    refine (show G (.exit 4) L (⟨F.ac6, W, S0, true, false⟩ : Fr) [(0, av0), (7, .ptr ⟨L + 1, 18, 0⟩ g_17 0 0)] [.own false [] (.gs 2 122 (List.map y8 q_i6b_71.state.Queue)) w_i11b_71 F_i11b_71, .own false [] (.rw true 1 3 (List.map (aj3 .i64) q_i6b_71.state.Ranges)) w_i10b_71 F_i10b_71, .own false [] (.bb 5 q_i6b_71.out) w_i9b_71 F_i9b_71, .own false [53] (.gs 1 9 (List.map aa8 q_i6b_71.input)) w_i8b_71 F_i8b_71, .own false [] (.gs 1 88 (List.map (al3 y9) q_i6b_71.regexes)) w_i7b_71 F_i7b_71, .cel false [18] ⟨L + 1, 18, 0⟩ g_17 80 [z_i6_0b_71, w_i7b_71, w_i8b_71, w_i3b_71, b_i6_4b_71, w_i9b_71, .lit (.int .i64 q_i6b_71.state.Op), .lit (.string (bs q_i6b_71.state.Pattern)), .lit (.string (bs q_i6b_71.state.Hold)), .lit (.bool q_i6b_71.state.Flag), .lit (.int .i64 q_i6b_71.state.Line), w_i10b_71, w_i11b_71, .lit (.bool q_i6b_71.state.Done)], .own true [] (.ptr 96 (o7 q_i6b_71.files)) w_i3b_71 F_i3b_71, .own true [] (.ptr 96 (o7 q_i0b_71)) (.ptr p_1 g_2 0 0) F_i0b_71, .jnk true [] J_i4b_71] (Blk 4 (Thn P K.bP5 (RetO (⟨F.ac6, W, S0, true, false⟩ : Fr) L false [av0, av1, .ptr p_1 g_2 0 0] K.ac6.res [.x, .x, .o (.ptr 96 (o7 r.1))] [.o (.ptr 80 (l9 r.2))]))) from ?_) T S hT hS
    refine aQ0 (aa0 (aa1 (aa2 (o6 (s_mv rfl) (o6 (s_mv rfl) ?_)))))
    obtain ⟨x_74, e_75, h⟩ := ae5 h
    refine ah6 (cJ8 (c := ac2) rfl ar0 e_75) ?_
    rintro _ ⟨c_72, rfl, r_73⟩
    refine ah6 (cI6 rfl r_73) ?_
    rintro _ ⟨c_76, rfl, r_77⟩
    refine o6 (aO7 (v := .int .i64 x_74.Ranges) (a := .lit (.int .i64 x_74.Ranges)) rfl r_77 rfl (fun _ => relC_int)) ?_
    obtain ⟨x_78, e_79, h⟩ := ae5 h
    refine g_mkS (xr := true) (c := (aj3 .i64)) (z := 0) hc.ms_38 rfl rfl (x8 ac0 ar6) e_79 rfl ?_
    intro w_80 F_81
    refine o6 (ag4 rfl) (o6 (s_fa (o' := 6) rfl rfl) (o6 (s_fa (o' := 11) rfl rfl) ?_))
    refine cT5 (i := 0) rfl rfl fun hc_82 ho_83 => ?_
    refine cF9 (i := 6) rfl rfl rfl ho_83 hc_82 rfl rfl rfl (aa4 (aa0 (aa1 (aa2 (o6 (s_mv rfl) (aq4 (Mv.sub (.cons (i := 6) rfl .rfl (.cons (i := 5) rfl .rfl (.cons (i := 4) rfl .rfl (.cons (i := 7) rfl .rfl (.cons (i := 3) rfl .rfl (.cons (i := 0) rfl .rfl (.cons (i := 1) rfl .rfl (.cons (i := 2) rfl .rfl (.cons (i := 8) rfl .rfl (.cons (i := 9) rfl .rfl .nil)))))))))) rfl) ?_))))))
    rintro _ rfl
    refine aq4 (Mv.sht (os := (l9 (D.o5.mk q_i6b_71.f q_i6b_71.regexes q_i6b_71.input q_i6b_71.files q_i6b_71.out (D.y7.mk q_i6b_71.state.Op q_i6b_71.state.Pattern q_i6b_71.state.Hold q_i6b_71.state.Flag q_i6b_71.state.Line x_78 q_i6b_71.state.Queue q_i6b_71.state.Done)))) (N := [.own false [] (.gs 1 88 (List.map (al3 y9) q_i6b_71.regexes)) w_i7b_71 F_i7b_71, .own false [53] (.gs 1 9 (List.map aa8 q_i6b_71.input)) w_i8b_71 F_i8b_71, .own true [] (.ptr 96 (o7 q_i6b_71.files)) w_i3b_71 F_i3b_71, .own false [] (.bb 5 q_i6b_71.out) w_i9b_71 F_i9b_71, .own false [76] (.rw true 1 3 (List.map (aj3 .i64) x_78)) w_80 F_81, .own false [] (.gs 2 122 (List.map y8 q_i6b_71.state.Queue)) w_i11b_71 F_i11b_71]) rfl ⟨(CV.rel.2 y_i6_0b_71), rfl, rfl, rfl, rfl, rfl, rfl, h_i6_4b_71, rfl, rfl, rfl, rfl, rfl, rfl, rfl, rfl, rfl, rfl, rfl, rfl, rfl, rfl⟩) ?_
    rintro _ ⟨F_84, rfl⟩
    obtain ⟨x_85, e_86, h⟩ := ae5 h
    refine aN0 (A1 := [.own true [18, 53, 76] (.ptr 80 (l9 (D.o5.mk q_i6b_71.f q_i6b_71.regexes q_i6b_71.input q_i6b_71.files q_i6b_71.out (D.y7.mk q_i6b_71.state.Op q_i6b_71.state.Pattern q_i6b_71.state.Hold q_i6b_71.state.Flag q_i6b_71.state.Line x_78 q_i6b_71.state.Queue q_i6b_71.state.Done)))) (.ptr ⟨L + 1, 18, 0⟩ g_17 0 0) F_84]) rfl rfl (show InC [.o (.ptr 80 (l9 (D.o5.mk q_i6b_71.f q_i6b_71.regexes q_i6b_71.input q_i6b_71.files q_i6b_71.out (D.y7.mk q_i6b_71.state.Op q_i6b_71.state.Pattern q_i6b_71.state.Hold q_i6b_71.state.Flag q_i6b_71.state.Line x_78 q_i6b_71.state.Queue q_i6b_71.state.Done))))] _ _ from ⟨rfl, rfl, rfl, rfl⟩) rfl rfl rfl rfl rfl ((aK8) _ _ e_86) ?_
    rintro _ _ _ J_88 ⟨F_89, _, rfl, rfl⟩ ⟨_, rfl, rfl, rfl⟩
    refine aa4 (aa0 (aa1 (aa2 (o6 (s_mv rfl) (o6 (s_mv rfl) (aa4 (aa0 ?_)))))))
    refine ar4 ?_
    obtain rfl := Option.some.inj h
    refine g_mv (Mv.sub (.cons (i := 3) rfl .rfl (.cons (i := 0) rfl .rfl (.cons (i := 1) rfl .rfl (.cons (i := 4) rfl .rfl (.cons (i := 2) rfl .rfl .nil))))) rfl) ?_
    rintro _ rfl
    exact ak9 (A1 := [.own true [] (.ptr 96 (o7 q_i0b_71)) (.ptr p_1 g_2 0 0) F_i0b_71]) (A2 := [.own true [18, 53, 76] (.ptr 80 (l9 x_85)) (.ptr ⟨L + 1, 18, 0⟩ g_17 0 0) F_89]) (A3 := [.jnk true [18, 53, 76] J_88, .jnk true [] J_i4b_71]) rfl ⟨rfl, rfl, rfl, rfl⟩ (.l7 rfl .nil) rfl rfl
   | ret r =>
    obtain rfl := Option.some.inj h
    obtain ⟨rfl, hO⟩ := hO
    exact hO
  | ret r =>
   obtain rfl := Option.some.inj h
   obtain ⟨rfl, hO⟩ := hO
   exact hO
 | ret r =>
  obtain rfl := Option.some.inj h
  obtain ⟨rfl, hO⟩ := hO
  exact hO
def S.ab1 (P : Program) (φ : D.o5 → Option D.y7) : Prop := ∀ (a0 : D.o5) (r : D.y7), φ a0 = some r → cI5 P F.ab1 [.o (.ptr 80 (l9 a0))] [.agg (aK5 r)]
theorem bc4 {P : Program} [hc : ae8 P] : S.ab1 P (ab1) := by
 intro a0 r h
 refine bC0 (b := K.ab1) rfl hc.ab1 (fun _ => rfl) rfl rfl rfl ?_
 rintro L S0 _ _ _ ⟨av0, _, F0, _, _, rfl, rfl, rfl, rfl, rfl, rfl⟩
 unfold ab1 at h
 refine (show GC P _ L (⟨F.ab1, (F0 ++ []), S0, false, true⟩ : Fr) (numE 0 [av0]) [.own true [] (.ptr 80 (l9 a0)) av0 F0] (ae2 L K.ab1.res [.agg (aK5 r)]) from ?_)
 generalize ((F0 ++ []) : List Loc) = W
 refine aK7 (Mv.opn rfl) ?_
 rintro _ ⟨p_1, g_2, _, _, rfl, hO_19, rfl⟩
 obtain ⟨v_3, w_5, F_6, w_7, F_8, w_9, F_10, b_11, w_13, F_14, w_15, F_16, w_17, F_18, rfl, rfl, r_4, h_12⟩ := ac8 hO_19
 refine aa1 (aa2 ?_)
 refine cf6 rfl rfl fun g_20 => ?_
 refine aa4 (aa0 (aa1 (aa2 (o6 (s_mv rfl) (o6 (ag4 rfl) (o6 (s_fa (o' := 6) rfl rfl) (o6 (s_ldnP (i := 1) rfl rfl rfl rfl) ?_)))))))
 refine cf6 rfl rfl fun g_21 => ?_
 refine cT5 (i := 7) rfl rfl fun hc_22 ho_23 => ?_
 refine cT5 (i := 8) rfl rfl fun hc_24 ho_25 => ?_
 refine bY8 (i := 0) (b := .agg [.lit (.int .i64 a0.state.Op), .lit (.string (bs a0.state.Pattern)), .lit (.string (bs a0.state.Hold)), .lit (.bool a0.state.Flag), .lit (.int .i64 a0.state.Line), w_15, w_17, .lit (.bool a0.state.Done)]) (cs' := [.lit (.int .i64 a0.state.Op), .lit (.string (bs a0.state.Pattern)), .lit (.string (bs a0.state.Hold)), .lit (.bool a0.state.Flag), .lit (.int .i64 a0.state.Line), w_15, w_17, .lit (.bool a0.state.Done)]) rfl rfl rfl rfl (aQ9 rfl (aQ9 rfl (aQ9 rfl (aQ9 rfl (aQ9 rfl (aQ9 ho_23.2 (aQ9 ho_25.2 (aQ9 rfl one_nil)))))))) (CoL.mem ⟨.c rfl, .c rfl, .c rfl, .c rfl, .c rfl, hc_22, hc_24, .c rfl, trivial⟩) rfl rfl rfl (aa4 (aa0 (aa1 (av3 (o6 (s_fa (o' := 5) rfl rfl) (o6 (aG7 (i := 0) rfl rfl rfl) ?_))))))
 obtain ⟨_, e_27, h⟩ := ae5 h
 refine g_contRE (i := 7) (c := (aj3 .i64)) (xs := a0.state.Ranges) rfl (G.emp_eq e_27) fun ra_26 => ?_
 obtain ⟨x_28, e_29, h⟩ := ae5 h
 refine ah6 (s_clB (rs := [.sl 1 (a0.state.Ranges.map (aj3 .i64))]) (fun _ => rfl) rfl (show RVN [.sl 1 (a0.state.Ranges.map (aj3 .i64))] _ from (show RVLC [.sl 1 (a0.state.Ranges.map (aj3 .i64))] (List.map AV.af4 _) from ⟨_, _, rfl, (RelA.nrmA ra_26), rfl⟩)) ((aW4) _ _ e_29 (L + 1) _)) ?_
 rintro v_30 r_31
 replace r_31 := ResC.one r_31
 refine o6 (s_fa (o' := 6) rfl rfl) (o6 (aG7 (i := 0) rfl rfl rfl) ?_)
 refine bP3 (i := 8) (es := List.map y8 a0.state.Queue) rfl fun ra_32 => ?_
 obtain ⟨x_33, e_34, h⟩ := ae5 h
 refine ah6 (s_clB (rs := [.sl 2 (a0.state.Queue.map y8)]) (fun _ => rfl) rfl (show RVN [.sl 2 (a0.state.Queue.map y8)] _ from (show RVLC [.sl 2 (a0.state.Queue.map y8)] (List.map AV.af4 _) from ⟨_, _, rfl, (RelA.nrmA ra_32), rfl⟩)) ((az0) _ _ e_34 (L + 1) _)) ?_
 rintro v_35 r_36
 replace r_36 := ResC.one r_36
 refine o6 (s_fa (o' := 5) rfl rfl) (cF9 (i := 0) rfl rfl rfl (rc1 r_31) (.c r_31.closed) rfl rfl rfl (o6 (s_fa (o' := 6) rfl rfl) (cF9 (i := 0) rfl rfl rfl (rc1 r_36) (.c r_36.closed) rfl rfl rfl (aG1 rfl (aa0 (aa1 (aa2 ?_)))))))
 refine o6 (bv1 (i := 0) rfl rfl rfl rfl) (bY8 (i := 1) (b := .agg [.lit (.int .i64 a0.state.Op), .lit (.string (bs a0.state.Pattern)), .lit (.string (bs a0.state.Hold)), .lit (.bool a0.state.Flag), .lit (.int .i64 a0.state.Line), v_30, v_35, .lit (.bool a0.state.Done)]) (cs' := [.lit (.int .i64 a0.state.Op), .lit (.string (bs a0.state.Pattern)), .lit (.string (bs a0.state.Hold)), .lit (.bool a0.state.Flag), .lit (.int .i64 a0.state.Line), v_30, v_35, .lit (.bool a0.state.Done)]) rfl rfl rfl rfl (ab6.ones ((x8 ac0 (x8 ah3 (x8 ah3 (x8 aj0 (x8 ac0 (x8 r_31 (x8 r_36 (x8 aj0 ar6)))))))) : ab6 (aK5 (D.y7.mk a0.state.Op a0.state.Pattern a0.state.Hold a0.state.Flag a0.state.Line x_28 x_33 a0.state.Done)) _)) (fun a ha => .c (ak6 (ab6.closed ((x8 ac0 (x8 ah3 (x8 ah3 (x8 aj0 (x8 ac0 (x8 r_31 (x8 r_36 (x8 aj0 ar6)))))))) : ab6 (aK5 (D.y7.mk a0.state.Op a0.state.Pattern a0.state.Hold a0.state.Flag a0.state.Line x_28 x_33 a0.state.Done)) _)) a ha)) rfl rfl rfl (aa4 (aa0 (ar4 ?_))))
 obtain rfl := Option.some.inj h
 exact b05 (.cn (i := 1) rfl ⟨_, _, _, rfl⟩ (x8 ac0 (x8 ah3 (x8 ah3 (x8 aj0 (x8 ac0 (x8 r_31 (x8 r_36 (x8 aj0 ar6)))))))) rfl .nil)
def S.ac7 (P : Program) (φ : D.o5 → List UInt8 → Option D.o5) : Prop := ∀ (a0 : D.o5) (a1 : List UInt8) (r : D.o5), φ a0 a1 = some r → bd8 P F.ac7 [.o (.ptr 80 (l9 a0)), .r (.str a1)] false [.o (.ptr 80 (l9 r)), .x] []
theorem aL8 {P : Program} [hc : ae8 P] : S.ac7 P (ac7) := by
 intro a0 a1 r h
 refine al5 (b := K.ac7) rfl hc.ac7 rfl rfl rfl ?_
 rintro L S0 _ _ _ ⟨av0, _, F0, _, _, rfl, rfl, rfl, _, _, rfl, rfl, rfl, rfl, rfl⟩
 unfold ac7 at h
 refine (show GC P _ L (⟨F.ac7, (F0 ++ []), S0, true, false⟩ : Fr) (numE 0 [av0, .lit (.string (bs a1))]) [.own true [] (.ptr 80 (l9 a0)) av0 F0] (RetO (⟨F.ac7, (F0 ++ []), S0, true, false⟩ : Fr) L false [av0, .lit (.string (bs a1))] K.ac7.res [.o (.ptr 80 (l9 r)), .x] []) from ?_)
 generalize ((F0 ++ []) : List Loc) = W
 refine aK7 (Mv.opn rfl) ?_
 rintro _ ⟨p_1, g_2, _, _, rfl, hO_19, rfl⟩
 obtain ⟨v_3, w_5, F_6, w_7, F_8, w_9, F_10, b_11, w_13, F_14, w_15, F_16, w_17, F_18, rfl, rfl, r_4, h_12⟩ := ac8 hO_19
 refine aa1 (aa2 (o6 (s_mv rfl) (o6 (ag4 rfl) (o6 (s_fa (o' := 4) rfl rfl) (o6 (s_mv rfl) (aq4 (Mv.sub (.cons (i := 0) rfl .rfl (.cons (i := 4) rfl .rfl (.cons (i := 1) rfl .rfl (.cons (i := 2) rfl .rfl (.cons (i := 3) rfl .rfl (.cons (i := 5) rfl .rfl (.cons (i := 6) rfl .rfl .nil))))))) rfl) ?_))))))
 rintro _ rfl
 obtain ⟨x_20, e_21, h⟩ := ae5 h
 refine ce9 hc.bld rfl rfl rfl rfl rfl h_12 rfl rfl hc.lies_80_4 rfl e_21 fun v_22 b_23 w_24 F_25 h_26 => ?_
 refine aa4 (aa0 (aa2 (o6 (s_mv rfl) (o6 (ag4 rfl) (o6 (s_fa (o' := 4) rfl rfl) ?_)))))
 obtain ⟨x_27, e_28, h⟩ := ae5 h
 refine g_bwbP hc.bld rfl rfl rfl rfl rfl h_26 rfl rfl hc.lies_80_4 rfl e_28 fun v_29 b_30 w_31 F_32 h_33 => ?_
 refine aa4 ?_
 obtain rfl := Option.some.inj h
 refine g_mv (Mv.sub (.cons (i := 0) rfl .rfl (.cons (i := 2) rfl .rfl (.cons (i := 3) rfl .rfl (.cons (i := 4) rfl .rfl (.cons (i := 1) rfl .rfl (.cons (i := 5) rfl .rfl (.cons (i := 6) rfl .rfl .nil))))))) rfl) ?_
 rintro _ rfl
 refine g_mv (Mv.sht (os := (l9 (D.o5.mk a0.f a0.regexes a0.input a0.files x_27 a0.state))) (N := [.own true [] (.gs 1 88 (List.map (al3 y9) a0.regexes)) w_5 F_6, .own true [] (.gs 1 9 (List.map aa8 a0.input)) w_7 F_8, .own true [] (.ptr 96 (o7 a0.files)) w_9 F_10, .own true [] (.bb 5 x_27) w_31 F_32, .own true [] (.rw true 1 3 (List.map (aj3 .i64) a0.state.Ranges)) w_15 F_16, .own true [] (.gs 2 122 (List.map y8 a0.state.Queue)) w_17 F_18]) rfl ⟨(CV.rel.2 (CV.rel.1 r_4)), rfl, rfl, rfl, rfl, rfl, rfl, h_33, rfl, rfl, rfl, rfl, rfl, rfl, rfl, rfl, rfl, rfl, rfl, rfl, rfl, rfl⟩) ?_
 rintro _ ⟨F_34, rfl⟩
 exact ak9 (A1 := [.own true [] (.ptr 80 (l9 (D.o5.mk a0.f a0.regexes a0.input a0.files x_27 a0.state))) (.ptr p_1 g_2 0 0) F_34]) (A2 := []) (A3 := []) rfl ⟨rfl, rfl, rfl, rfl⟩ .nil rfl rfl
def S.aa3 (P : Program) (φ : D.o5 → Option D.o5) : Prop := ∀ (a0 : D.o5) (r : D.o5), φ a0 = some r → bd8 P F.aa3 [.o (.ptr 80 (l9 a0))] false [.o (.ptr 80 (l9 r))] []
def ap0 (L : Nat) (W : List Loc) (S0 : AS) (p_1 : Loc) (g_2 : Nat) (p11 : Int) : (D.o5 × Int) → BT → AS → Prop := fun (q_i0, p12) T S => ∃ (J_i8 : List Loc) (z_i0_0 : AV) (b_i0_4 : AV) (w_i2 : AV) (F_i2 : List Loc) (w_i3 : AV) (F_i3 : List Loc) (w_i4 : AV) (F_i4 : List Loc) (w_i5 : AV) (F_i5 : List Loc) (w_i6 : AV) (F_i6 : List Loc) (w_i7 : AV) (F_i7 : List Loc), RelC (vref ac2 q_i0.f) z_i0_0 ∧ (b_i0_4 = .lit (.pointer none) ∨ b_i0_4 = .ptr p_1 g_2 0 4) ∧ Ag [(0, .ptr p_1 g_2 0 0), (10, w_i7), (11, .lit (.int .i64 p11)), (12, .lit (.int .i64 p12))] T ∧ StA S L (⟨F.aa3, W, S0, true, false⟩ : Fr) [.jnk true [] J_i8, .cel true [] p_1 g_2 80 [z_i0_0, w_i2, w_i3, w_i4, b_i0_4, w_i5, .lit (.int .i64 q_i0.state.Op), .lit (.string (bs q_i0.state.Pattern)), .lit (.string (bs q_i0.state.Hold)), .lit (.bool q_i0.state.Flag), .lit (.int .i64 q_i0.state.Line), w_i6, w_i7, .lit (.bool q_i0.state.Done)], .own true [] (.gs 1 88 (List.map (al3 y9) q_i0.regexes)) w_i2 F_i2, .own true [] (.gs 1 9 (List.map aa8 q_i0.input)) w_i3 F_i3, .own true [] (.ptr 96 (o7 q_i0.files)) w_i4 F_i4, .own true [] (.bb 5 q_i0.out) w_i5 F_i5, .own true [] (.rw true 1 3 (List.map (aj3 .i64) q_i0.state.Ranges)) w_i6 F_i6, .own true [] (.gs 2 122 (List.map y8 q_i0.state.Queue)) w_i7 F_i7]
def as9 (L : Nat) (W : List Loc) (S0 : AS) (p_1 : Loc) (g_2 : Nat) (p11 : Int) : D.o5 → BT → AS → Prop := fun q_i0 T S => ∃ (J_i8 : List Loc) (z_i0_0 : AV) (b_i0_4 : AV) (w_i2 : AV) (F_i2 : List Loc) (w_i3 : AV) (F_i3 : List Loc) (w_i4 : AV) (F_i4 : List Loc) (w_i5 : AV) (F_i5 : List Loc) (w_i6 : AV) (F_i6 : List Loc) (w_i7 : AV) (F_i7 : List Loc), RelC (vref ac2 q_i0.f) z_i0_0 ∧ (b_i0_4 = .lit (.pointer none) ∨ b_i0_4 = .ptr p_1 g_2 0 4) ∧ Ag [(0, .ptr p_1 g_2 0 0)] T ∧ StA S L (⟨F.aa3, W, S0, true, false⟩ : Fr) [.jnk true [] J_i8, .cel true [] p_1 g_2 80 [z_i0_0, w_i2, w_i3, w_i4, b_i0_4, w_i5, .lit (.int .i64 q_i0.state.Op), .lit (.string (bs q_i0.state.Pattern)), .lit (.string (bs q_i0.state.Hold)), .lit (.bool q_i0.state.Flag), .lit (.int .i64 q_i0.state.Line), w_i6, w_i7, .lit (.bool q_i0.state.Done)], .own true [] (.gs 1 88 (List.map (al3 y9) q_i0.regexes)) w_i2 F_i2, .own true [] (.gs 1 9 (List.map aa8 q_i0.input)) w_i3 F_i3, .own true [] (.ptr 96 (o7 q_i0.files)) w_i4 F_i4, .own true [] (.bb 5 q_i0.out) w_i5 F_i5, .own true [] (.rw true 1 3 (List.map (aj3 .i64) q_i0.state.Ranges)) w_i6 F_i6, .own true [] (.gs 2 122 (List.map y8 q_i0.state.Queue)) w_i7 F_i7]
theorem aU0 {P : Program} [hc : ae8 P] {L : Nat} (W : List Loc) (S0 : AS) (p_1 : Loc) (g_2 : Nat) (p11 : Int) : ∀ (s : (D.o5 × Int)) (c : Ctl (D.o5 × Int) D.o5 D.o5), aq3 p11 s = some c → ∀ T S, ap0 L W S0 p_1 g_2 p11 s T S → RunB P K.au5 T S (at7 0 (ap0 L W S0 p_1 g_2 p11) (as9 L W S0 p_1 g_2 p11) (fun r => RetO (⟨F.aa3, W, S0, true, false⟩ : Fr) L false [.ptr p_1 g_2 0 0] K.aa3.res [.o (.ptr 80 (l9 r))] []) c) := by
 rintro ⟨q_i0, p12⟩ c h T S ⟨J_i8, z_i0_0, b_i0_4, w_i2, F_i2, w_i3, F_i3, w_i4, F_i4, w_i5, F_i5, w_i6, F_i6, w_i7, F_i7, y_i0_0, h_i0_4, hT, hS⟩
 unfold aq3 at h
 refine (show GC P K.au5 L (⟨F.aa3, W, S0, true, false⟩ : Fr) [(0, .ptr p_1 g_2 0 0), (10, w_i7), (11, .lit (.int .i64 p11)), (12, .lit (.int .i64 p12))] [.jnk true [] J_i8, .cel true [] p_1 g_2 80 [z_i0_0, w_i2, w_i3, w_i4, b_i0_4, w_i5, .lit (.int .i64 q_i0.state.Op), .lit (.string (bs q_i0.state.Pattern)), .lit (.string (bs q_i0.state.Hold)), .lit (.bool q_i0.state.Flag), .lit (.int .i64 q_i0.state.Line), w_i6, w_i7, .lit (.bool q_i0.state.Done)], .own true [] (.gs 1 88 (List.map (al3 y9) q_i0.regexes)) w_i2 F_i2, .own true [] (.gs 1 9 (List.map aa8 q_i0.input)) w_i3 F_i3, .own true [] (.ptr 96 (o7 q_i0.files)) w_i4 F_i4, .own true [] (.bb 5 q_i0.out) w_i5 F_i5, .own true [] (.rw true 1 3 (List.map (aj3 .i64) q_i0.state.Ranges)) w_i6 F_i6, .own true [] (.gs 2 122 (List.map y8 q_i0.state.Queue)) w_i7 F_i7] (at7 0 (ap0 L W S0 p_1 g_2 p11) (as9 L W S0 p_1 g_2 p11) (fun r => RetO (⟨F.aa3, W, S0, true, false⟩ : Fr) L false [.ptr p_1 g_2 0 0] K.aa3.res [.o (.ptr 80 (l9 r))] []) c) from ?_) T S hT hS
 refine aa1 (aa2 (o6 (s_ib rfl rfl rfl) (aa4 (aa0 (aa1 ?_)))))
 by_cases h_21 : p12 < p11
 ·replace h := iteT h h_21
  refine g_cT rfl (decide_eq_true h_21) (ai6 (aa0 (aa1 (ai7 (aa1 (aa2 ?_))))))
  refine bP3 (i := 7) (es := List.map y8 q_i0.state.Queue) rfl fun ra_22 => ?_
  obtain ⟨x_25, e_26, h⟩ := ae5 h
  refine ah6 (s_iaA (c := y8) rfl ra_22 rfl e_26) ?_
  rintro _ ⟨c_23, rfl, r_24⟩
  refine ah6 (cg8 (N := y8 x_25) rfl r_24 rfl rfl) ?_
  rintro _ ⟨c_27, rfl, r_28⟩
  refine cf6 rfl rfl fun g_29 => ?_
  obtain ⟨_, hE_30, _, _, rfl, rfl, _, _, rfl, rfl, rfl⟩ := exL' r_28
  refine bY8 (i := 0) (b := .agg c_27) (cs' := [.lit (.bool x_25.File), .lit (.string (bs x_25.Text))]) rfl rfl rfl (by rw [hE_30]; rfl) (ab6.ones r_28) (fun a ha => .c (ak6 (ab6.closed r_28) a ha)) rfl (by rw [hE_30]; rfl) rfl (aa4 (aa0 (aa1 (aa1 (aa2 (o6 (s_fa (o' := 0) rfl rfl) (o6 (aG7 (i := 0) rfl rfl rfl) ?_)))))))
  refine o6 (s_nt rfl) (aa4 (aa0 ?_))
  by_cases h_31 : (!x_25.File) = true
  ·replace h := iteT h h_31
   refine g_cT rfl h_31 (aa1 (av3 (o6 (s_mv rfl) (o6 (ag4 rfl) (o6 (s_fa (o' := 4) rfl rfl) (o6 (s_fa (o' := 1) rfl rfl) (o6 (aG7 (i := 0) rfl rfl rfl) ?_)))))))
   refine aq4 (Mv.sub (.cons (i := 2) rfl .rfl (.cons (i := 6) rfl .rfl (.cons (i := 0) rfl .rfl (.cons (i := 1) rfl .rfl (.cons (i := 3) rfl .rfl (.cons (i := 4) rfl .rfl (.cons (i := 5) rfl .rfl (.cons (i := 7) rfl .rfl (.cons (i := 8) rfl .rfl .nil))))))))) rfl) ?_
   rintro _ rfl
   obtain ⟨x_32, e_33, h⟩ := ae5 h
   refine ce9 hc.bld rfl rfl rfl rfl rfl h_i0_4 rfl rfl hc.lies_80_4 rfl e_33 fun v_34 b_35 w_36 F_37 h_38 => ?_
   refine aG1 rfl (aa0 (aO2 (aN9 (aQ0 (aa0 (aa2 (o6 (s_ib rfl rfl rfl) ?_)))))))
   refine o6 (s_mv rfl) (aa4 ?_)
   obtain rfl := Option.some.inj h
   refine g_mv (Mv.sub (.cons (i := 0) rfl .rfl (.cons (i := 1) rfl .rfl (.cons (i := 3) rfl .rfl (.cons (i := 4) rfl .rfl (.cons (i := 5) rfl .rfl (.cons (i := 6) rfl .rfl (.cons (i := 7) rfl .rfl (.cons (i := 8) rfl .rfl .nil)))))))) rfl) ?_
   rintro _ rfl
   exact fun T S hT hS => ⟨rfl, ⟨J_i8, z_i0_0, b_35, w_i2, F_i2, w_i3, F_i3, w_i4, F_i4, w_36, F_37, w_i6, F_i6, w_i7, F_i7, y_i0_0, h_38, hT.sub (subE.cons rfl (subE.cons rfl (subE.cons rfl (subE.cons rfl (subE.nil _))))), hS.sub (.cons (i := 2) rfl (.jnk rfl rfl) (.cons (i := 0) rfl (.cel rfl rfl) (.cons (i := 3) rfl (.own rfl rfl) (.cons (i := 4) rfl (.own rfl rfl) (.cons (i := 5) rfl (.own rfl rfl) (.cons (i := 1) rfl (.own rfl rfl) (.cons (i := 6) rfl (.own rfl rfl) (.cons (i := 7) rfl (.own rfl rfl) .nil)))))))) rfl⟩⟩
  ·replace h := iteF h h_31
   refine g_cF rfl (Bool.eq_false_iff.2 h_31) (ai6 (aa0 (aa1 (av3 (o6 (s_mv rfl) (o6 (ag4 rfl) (o6 (s_fa (o' := 3) rfl rfl) ?_)))))))
   refine o6 (ar8 (i := 2) rfl rfl rfl) (o6 (s_fa (o' := 1) rfl rfl) (o6 (aG7 (i := 0) rfl rfl rfl) ?_))
   cases h
 ·replace h := iteF h h_21
  refine g_cF rfl (decide_eq_false h_21) (aO2 (aN9 ?_))
  obtain rfl := Option.some.inj h
  exact fun T S hT hS => ⟨rfl, ⟨J_i8, z_i0_0, b_i0_4, w_i2, F_i2, w_i3, F_i3, w_i4, F_i4, w_i5, F_i5, w_i6, F_i6, w_i7, F_i7, y_i0_0, h_i0_4, hT.sub (subE.cons rfl (subE.nil _)), hS.sub (.cons (i := 0) rfl (.jnk rfl rfl) (.cons (i := 1) rfl (.cel rfl rfl) (.cons (i := 2) rfl (.own rfl rfl) (.cons (i := 3) rfl (.own rfl rfl) (.cons (i := 4) rfl (.own rfl rfl) (.cons (i := 5) rfl (.own rfl rfl) (.cons (i := 6) rfl (.own rfl rfl) (.cons (i := 7) rfl (.own rfl rfl) .nil)))))))) rfl⟩⟩
theorem av9 {P : Program} [hc : ae8 P] : S.aa3 P (aa3) := by
 intro a0 r h
 refine al5 (b := K.aa3) rfl hc.aa3 rfl rfl rfl ?_
 rintro L S0 _ _ _ ⟨av0, _, F0, _, _, rfl, rfl, rfl, rfl, rfl, rfl⟩
 unfold aa3 at h
 refine (show GC P _ L (⟨F.aa3, (F0 ++ []), S0, true, false⟩ : Fr) (numE 0 [av0]) [.own true [] (.ptr 80 (l9 a0)) av0 F0] (RetO (⟨F.aa3, (F0 ++ []), S0, true, false⟩ : Fr) L false [av0] K.aa3.res [.o (.ptr 80 (l9 r))] []) from ?_)
 generalize ((F0 ++ []) : List Loc) = W
 refine aK7 (Mv.opn rfl) ?_
 rintro _ ⟨p_1, g_2, _, _, rfl, hO_19, rfl⟩
 obtain ⟨v_3, w_5, F_6, w_7, F_8, w_9, F_10, b_11, w_13, F_14, w_15, F_16, w_17, F_18, rfl, rfl, r_4, h_12⟩ := ac8 hO_19
 refine aa1 (aa1 (aa2 (o6 (s_mv rfl) (o6 (ag4 rfl) (o6 (s_fa (o' := 6) rfl rfl) (o6 (s_fa (o' := 12) rfl rfl) (o6 (ar8 (i := 0) rfl rfl rfl) ?_)))))))
 refine bP3 (i := 6) (es := List.map y8 a0.state.Queue) rfl fun ra_20 => ?_
 refine o6 (s_llA (c := y8) rfl ra_20) (o6 (s_mv rfl) (aa4 (aa0 (ai7 (aK7 Mv.newJ ?_)))))
 rintro _ rfl
 obtain ⟨o_39, e_40, h⟩ := ae5 h
 refine aR0 (IN := ap0 L W S0 p_1 g_2 (a0.state.Queue.length : Int)) (IB := as9 L W S0 p_1 g_2 (a0.state.Queue.length : Int)) (IR := fun r => RetO (⟨F.aa3, W, S0, true, false⟩ : Fr) L false [.ptr p_1 g_2 0 0] K.aa3.res [.o (.ptr 80 (l9 r))] []) e_40 (aU0 W S0 p_1 g_2 (a0.state.Queue.length : Int) ) (fun T S hT hS => ⟨[], v_3, b_11, w_5, F_6, w_7, F_8, w_9, F_10, w_13, F_14, w_15, F_16, w_17, F_18, (CV.rel.1 r_4), h_12, hT.sub (subE.cons rfl (subE.cons rfl (subE.cons rfl (subE.cons rfl (subE.nil _))))), hS.sub (.cons (i := 0) rfl (.jnk rfl rfl) (.cons (i := 1) rfl (.cel rfl rfl) (.cons (i := 2) rfl (.own rfl rfl) (.cons (i := 3) rfl (.own rfl rfl) (.cons (i := 4) rfl (.own rfl rfl) (.cons (i := 5) rfl (.own rfl rfl) (.cons (i := 6) rfl (.own rfl rfl) (.cons (i := 7) rfl (.own rfl rfl) .nil)))))))) rfl⟩) ?_
 rintro x T S hO
 cases o_39 with
 | brk q_i0b_41 =>
  obtain ⟨rfl, J_i8b_41, z_i0_0b_41, b_i0_4b_41, w_i2b_41, F_i2b_41, w_i3b_41, F_i3b_41, w_i4b_41, F_i4b_41, w_i5b_41, F_i5b_41, w_i6b_41, F_i6b_41, w_i7b_41, F_i7b_41, y_i0_0b_41, h_i0_4b_41, hT, hS⟩ := hO
  refine (show G (.exit 0) L (⟨F.aa3, W, S0, true, false⟩ : Fr) [(0, .ptr p_1 g_2 0 0)] [.jnk true [] J_i8b_41, .cel true [] p_1 g_2 80 [z_i0_0b_41, w_i2b_41, w_i3b_41, w_i4b_41, b_i0_4b_41, w_i5b_41, .lit (.int .i64 q_i0b_41.state.Op), .lit (.string (bs q_i0b_41.state.Pattern)), .lit (.string (bs q_i0b_41.state.Hold)), .lit (.bool q_i0b_41.state.Flag), .lit (.int .i64 q_i0b_41.state.Line), w_i6b_41, w_i7b_41, .lit (.bool q_i0b_41.state.Done)], .own true [] (.gs 1 88 (List.map (al3 y9) q_i0b_41.regexes)) w_i2b_41 F_i2b_41, .own true [] (.gs 1 9 (List.map aa8 q_i0b_41.input)) w_i3b_41 F_i3b_41, .own true [] (.ptr 96 (o7 q_i0b_41.files)) w_i4b_41 F_i4b_41, .own true [] (.bb 5 q_i0b_41.out) w_i5b_41 F_i5b_41, .own true [] (.rw true 1 3 (List.map (aj3 .i64) q_i0b_41.state.Ranges)) w_i6b_41 F_i6b_41, .own true [] (.gs 2 122 (List.map y8 q_i0b_41.state.Queue)) w_i7b_41 F_i7b_41] (Blk 0 (Thn P K.aG0 (RetO (⟨F.aa3, W, S0, true, false⟩ : Fr) L false [.ptr p_1 g_2 0 0] K.aa3.res [.o (.ptr 80 (l9 r))] []))) from ?_) T S hT hS
  refine aQ0 (aa0 (aa2 (o6 (s_mv rfl) (o6 (ag4 rfl) (o6 (s_fa (o' := 6) rfl rfl) (o6 (s_fa (o' := 12) rfl rfl) (aq6 (i := 1) rfl rfl rfl ⟨rfl, rfl⟩ (.c rfl) rfl rfl rfl ?_)))))))
  refine aq4 (Mv.sub (.cons (i := 7) rfl .rfl (.cons (i := 0) rfl .rfl (.cons (i := 1) rfl .rfl (.cons (i := 2) rfl .rfl (.cons (i := 3) rfl .rfl (.cons (i := 4) rfl .rfl (.cons (i := 5) rfl .rfl (.cons (i := 6) rfl .rfl .nil)))))))) rfl) ?_
  rintro _ rfl
  refine aq4 (Mv.toJ rfl rfl) ?_
  rintro _ ⟨J_42, rfl⟩
  refine aa4 ?_
  obtain rfl := Option.some.inj h
  refine g_mv (Mv.addN (ks := []) (n := 2) (e := 122) (a := .lit (.slice none 0 0)) ⟨_, rfl⟩) ?_
  rintro _ rfl
  refine g_mv (Mv.sub (.cons (i := 2) rfl .rfl (.cons (i := 3) rfl .rfl (.cons (i := 4) rfl .rfl (.cons (i := 5) rfl .rfl (.cons (i := 6) rfl .rfl (.cons (i := 7) rfl .rfl (.cons (i := 0) rfl .rfl (.cons (i := 1) rfl .rfl .nil)))))))) rfl) ?_
  rintro _ rfl
  refine g_mv (Mv.sht (os := (l9 (D.o5.mk q_i0b_41.f q_i0b_41.regexes q_i0b_41.input q_i0b_41.files q_i0b_41.out (D.y7.mk q_i0b_41.state.Op q_i0b_41.state.Pattern q_i0b_41.state.Hold q_i0b_41.state.Flag q_i0b_41.state.Line q_i0b_41.state.Ranges [] q_i0b_41.state.Done)))) (N := [.own true [] (.gs 1 88 (List.map (al3 y9) q_i0b_41.regexes)) w_i2b_41 F_i2b_41, .own true [] (.gs 1 9 (List.map aa8 q_i0b_41.input)) w_i3b_41 F_i3b_41, .own true [] (.ptr 96 (o7 q_i0b_41.files)) w_i4b_41 F_i4b_41, .own true [] (.bb 5 q_i0b_41.out) w_i5b_41 F_i5b_41, .own true [] (.rw true 1 3 (List.map (aj3 .i64) q_i0b_41.state.Ranges)) w_i6b_41 F_i6b_41, .own false [] (.gs 2 122 (List.map y8 [])) (.lit (.slice none 0 0)) []]) rfl ⟨(CV.rel.2 y_i0_0b_41), rfl, rfl, rfl, rfl, rfl, rfl, h_i0_4b_41, rfl, rfl, rfl, rfl, rfl, rfl, rfl, rfl, rfl, rfl, rfl, rfl, rfl, rfl⟩) ?_
  rintro _ ⟨F_43, rfl⟩
  exact ak9 (A1 := [.own true [] (.ptr 80 (l9 (D.o5.mk q_i0b_41.f q_i0b_41.regexes q_i0b_41.input q_i0b_41.files q_i0b_41.out (D.y7.mk q_i0b_41.state.Op q_i0b_41.state.Pattern q_i0b_41.state.Hold q_i0b_41.state.Flag q_i0b_41.state.Line q_i0b_41.state.Ranges [] q_i0b_41.state.Done)))) (.ptr p_1 g_2 0 0) F_43]) (A2 := []) (A3 := [.jnk true [] J_42]) rfl ⟨rfl, rfl, rfl, rfl⟩ .nil rfl rfl
 | ret r =>
  obtain rfl := Option.some.inj h
  obtain ⟨rfl, hO⟩ := hO
  exact hO
def S.ac4 (P : Program) (φ : D.o5 → Option D.o5) : Prop := ∀ (a0 : D.o5) (r : D.o5), φ a0 = some r → bd8 P F.ac4 [.o (.ptr 80 (l9 a0))] false [.o (.ptr 80 (l9 r))] []
theorem ay9 {P : Program} [hc : ae8 P] : S.ac4 P (ac4) := by
 intro a0 r h
 refine al5 (b := K.ac4) rfl hc.ac4 rfl rfl rfl ?_
 rintro L S0 _ _ _ ⟨av0, _, F0, _, _, rfl, rfl, rfl, rfl, rfl, rfl⟩
 unfold ac4 at h
 refine (show GC P _ L (⟨F.ac4, (F0 ++ []), S0, true, false⟩ : Fr) (numE 0 [av0]) [.own true [] (.ptr 80 (l9 a0)) av0 F0] (RetO (⟨F.ac4, (F0 ++ []), S0, true, false⟩ : Fr) L false [av0] K.ac4.res [.o (.ptr 80 (l9 r))] []) from ?_)
 generalize ((F0 ++ []) : List Loc) = W
 refine aK7 (Mv.opn rfl) ?_
 rintro _ ⟨p_1, g_2, _, _, rfl, hO_19, rfl⟩
 obtain ⟨v_3, w_5, F_6, w_7, F_8, w_9, F_10, b_11, w_13, F_14, w_15, F_16, w_17, F_18, rfl, rfl, r_4, h_12⟩ := ac8 hO_19
 refine aa1 (aa1 (aa2 (o6 (s_mv rfl) (o6 (ag4 rfl) (o6 (s_fa (o' := 0) rfl rfl) (o6 (ar8 (i := 0) rfl rfl rfl) ?_))))))
 obtain ⟨x_22, e_23, h⟩ := ae5 h
 refine ah6 (cJ8 (c := ac2) rfl (CV.rel.1 r_4) e_23) ?_
 rintro _ ⟨c_20, rfl, r_21⟩
 refine ah6 (cI6 rfl r_21) ?_
 rintro _ ⟨c_24, rfl, r_25⟩
 refine o6 (aO7 (v := .bool x_22.Quiet) (a := .lit (.bool x_22.Quiet)) rfl r_25 rfl (fun _ => cZ9)) (o6 (s_nt rfl) (aa4 (aa0 ?_)))
 by_cases h_26 : (!x_22.Quiet) = true
 ·replace h := iteT h h_26
  refine g_cT rfl h_26 (aa2 (o6 (s_mv rfl) (o6 (s_mv rfl) (o6 (ag4 rfl) (o6 (s_fa (o' := 6) rfl rfl) (o6 (s_fa (o' := 7) rfl rfl) (o6 (ar8 (i := 0) rfl rfl rfl) ?_)))))))
  refine aq4 (Mv.sht (os := (l9 a0)) (N := [.own true [] (.gs 1 88 (List.map (al3 y9) a0.regexes)) w_5 F_6, .own true [] (.gs 1 9 (List.map aa8 a0.input)) w_7 F_8, .own true [] (.ptr 96 (o7 a0.files)) w_9 F_10, .own true [] (.bb 5 a0.out) w_13 F_14, .own true [] (.rw true 1 3 (List.map (aj3 .i64) a0.state.Ranges)) w_15 F_16, .own true [] (.gs 2 122 (List.map y8 a0.state.Queue)) w_17 F_18]) rfl ⟨(CV.rel.2 (CV.rel.1 r_4)), rfl, rfl, rfl, rfl, rfl, rfl, h_12, rfl, rfl, rfl, rfl, rfl, rfl, rfl, rfl, rfl, rfl, rfl, rfl, rfl, rfl⟩) ?_
  rintro _ ⟨F_27, rfl⟩
  obtain ⟨x_28, e_29, h⟩ := ae5 h
  refine aN0 (A1 := [.own true [] (.ptr 80 (l9 a0)) (.ptr p_1 g_2 0 0) F_27]) rfl rfl (show InC [.o (.ptr 80 (l9 a0)), .r (.str a0.state.Pattern)] _ _ from ⟨rfl, rfl, rfl, rfl, rfl⟩) rfl rfl rfl rfl rfl ((aL8) _ _ _ e_29) ?_
  rintro _ _ _ J_31 ⟨F_32, _, rfl, rfl⟩ ⟨_, rfl, rfl, rfl⟩
  refine aa4 (aa0 (aa2 (o6 (s_mv rfl) ?_)))
  obtain ⟨x_33, e_34, h⟩ := ae5 h
  refine aN0 (A1 := [.own true [] (.ptr 80 (l9 x_28)) (.ptr p_1 g_2 0 0) F_32]) rfl rfl (show InC [.o (.ptr 80 (l9 x_28))] _ _ from ⟨rfl, rfl, rfl, rfl⟩) rfl rfl rfl rfl rfl ((av9) _ _ e_34) ?_
  rintro _ _ _ J_36 ⟨F_37, _, rfl, rfl⟩ ⟨_, rfl, rfl, rfl⟩
  refine aa4 ?_
  obtain rfl := Option.some.inj h
  exact ak9 (A1 := [.own true [] (.ptr 80 (l9 x_33)) (.ptr p_1 g_2 0 0) F_37]) (A2 := []) (A3 := [.jnk true [] J_36, .jnk true [] J_31]) rfl ⟨rfl, rfl, rfl, rfl⟩ .nil rfl rfl
 ·replace h := iteF h h_26
  refine g_cF rfl (Bool.eq_false_iff.2 h_26) (ai6 (aa0 (aa2 (o6 (s_mv rfl) (aq4 (Mv.sht (os := (l9 a0)) (N := [.own true [] (.gs 1 88 (List.map (al3 y9) a0.regexes)) w_5 F_6, .own true [] (.gs 1 9 (List.map aa8 a0.input)) w_7 F_8, .own true [] (.ptr 96 (o7 a0.files)) w_9 F_10, .own true [] (.bb 5 a0.out) w_13 F_14, .own true [] (.rw true 1 3 (List.map (aj3 .i64) a0.state.Ranges)) w_15 F_16, .own true [] (.gs 2 122 (List.map y8 a0.state.Queue)) w_17 F_18]) rfl ⟨(CV.rel.2 (CV.rel.1 r_4)), rfl, rfl, rfl, rfl, rfl, rfl, h_12, rfl, rfl, rfl, rfl, rfl, rfl, rfl, rfl, rfl, rfl, rfl, rfl, rfl, rfl⟩) ?_)))))
  rintro _ ⟨F_38, rfl⟩
  obtain ⟨x_39, e_40, h⟩ := ae5 h
  refine aN0 (A1 := [.own true [] (.ptr 80 (l9 a0)) (.ptr p_1 g_2 0 0) F_38]) rfl rfl (show InC [.o (.ptr 80 (l9 a0))] _ _ from ⟨rfl, rfl, rfl, rfl⟩) rfl rfl rfl rfl rfl ((av9) _ _ e_40) ?_
  rintro _ _ _ J_42 ⟨F_43, _, rfl, rfl⟩ ⟨_, rfl, rfl, rfl⟩
  refine aa4 ?_
  obtain rfl := Option.some.inj h
  exact ak9 (A1 := [.own true [] (.ptr 80 (l9 x_39)) (.ptr p_1 g_2 0 0) F_43]) (A2 := []) (A3 := [.jnk true [] J_42]) rfl ⟨rfl, rfl, rfl, rfl⟩ .nil rfl rfl
def S.ad2 (P : Program) (φ : D.o5 → D.ao2 → Option (D.o5 × Bool)) : Prop := ∀ (a0 : D.o5) (a1 : D.ao2) (r : (D.o5 × Bool)), φ a0 a1 = some r → bd8 P F.ad2 [.o (.ptr 80 (l9 a0)), .r (.agg (ae9 a1))] false [.o (.ptr 80 (l9 r.1)), .x] [.r (.bool r.2)]
theorem bi3 {P : Program} [hc : ae8 P] : S.ad2 P (ad2) := by
 intro a0 a1 r h
 refine al5 (b := K.ad2) rfl hc.ad2 rfl rfl rfl ?_
 rintro L S0 _ _ _ ⟨av0, _, F0, _, _, rfl, rfl, rfl, _, _, rfl, ⟨ac1, rfl, ar1⟩, rfl, rfl, rfl⟩
 unfold ad2 at h
 refine (show GC P _ L (⟨F.ad2, (F0 ++ []), S0, true, false⟩ : Fr) (numE 0 [av0, .agg ac1]) [.own true [] (.ptr 80 (l9 a0)) av0 F0] (RetO (⟨F.ad2, (F0 ++ []), S0, true, false⟩ : Fr) L false [av0, .agg ac1] K.ad2.res [.o (.ptr 80 (l9 r.1)), .x] [.r (.bool r.2)]) from ?_)
 generalize ((F0 ++ []) : List Loc) = W
 refine aK7 (Mv.opn rfl) ?_
 rintro _ ⟨p_1, g_2, _, _, rfl, hO_19, rfl⟩
 obtain ⟨v_3, w_5, F_6, w_7, F_8, w_9, F_10, b_11, w_13, F_14, w_15, F_16, w_17, F_18, rfl, rfl, r_4, h_12⟩ := ac8 hO_19
 refine aa1 (aa2 ?_)
 obtain ⟨v_21, v_23, v_25, v_27, hE_29, r_22, r_24, r_26, r_28⟩ := aT5 ar1
 refine g_bxP (cs := [.lit (.int .i64 a1.Command.At), .lit (.int .i64 a1.Command.Guard.A.Kind), .lit (.int .i64 a1.Command.Guard.A.Line), .lit (.string (bs a1.Command.Guard.A.Text)), v_21, .lit (.int .i64 a1.Command.Guard.B.Kind), .lit (.int .i64 a1.Command.Guard.B.Line), .lit (.string (bs a1.Command.Guard.B.Text)), v_23, .lit (.bool a1.Command.Guard.Not), .lit (.int .u8 a1.Command.Name), .lit (.string (bs a1.Command.Arg)), .lit (.string (bs a1.Command.Sub.Text)), v_25, v_27, .lit (.int .i64 a1.Command.Sub.Nth), .lit (.bool a1.Command.Sub.All), .lit (.bool a1.Command.Sub.Print), .lit (.string (bs a1.Command.Sub.File)), .lit (.string (bs a1.Command.Table)), .lit (.int .i64 a1.A), .lit (.int .i64 a1.B), .lit (.int .i64 a1.Sub), .lit (.int .i64 a1.Range), .lit (.int .i64 a1.Else), .lit (.int .i64 a1.To)]) rfl hE_29 (by rw [← hE_29]; exact ab6.closed ar1) rfl fun g_20 => ?_
 refine o6 (s_mv rfl) (aa4 (aa0 (aa1 (aa2 (o6 (s_fa (o' := 0) rfl rfl) (o6 (s_fa (o' := 1) rfl rfl) (o6 (bv1 (i := 0) rfl rfl rfl rfl) ?_)))))))
 refine cf6 rfl rfl fun g_30 => ?_
 refine bY8 (i := 0) (b := .agg [.lit (.int .i64 a1.Command.Guard.A.Kind), .lit (.int .i64 a1.Command.Guard.A.Line), .lit (.string (bs a1.Command.Guard.A.Text)), v_21, .lit (.int .i64 a1.Command.Guard.B.Kind), .lit (.int .i64 a1.Command.Guard.B.Line), .lit (.string (bs a1.Command.Guard.B.Text)), v_23, .lit (.bool a1.Command.Guard.Not)]) (cs' := [.lit (.int .i64 a1.Command.Guard.A.Kind), .lit (.int .i64 a1.Command.Guard.A.Line), .lit (.string (bs a1.Command.Guard.A.Text)), v_21, .lit (.int .i64 a1.Command.Guard.B.Kind), .lit (.int .i64 a1.Command.Guard.B.Line), .lit (.string (bs a1.Command.Guard.B.Text)), v_23, .lit (.bool a1.Command.Guard.Not)]) rfl rfl rfl rfl (ab6.ones ((x8 ac0 (x8 ac0 (x8 ah3 (x8 (CV.rel.1 r_22) (x8 ac0 (x8 ac0 (x8 ah3 (x8 (CV.rel.1 r_24) (x8 aj0 ar6))))))))) : ab6 (bN8 a1.Command.Guard) _)) (fun a ha => .c (ak6 (ab6.closed ((x8 ac0 (x8 ac0 (x8 ah3 (x8 (CV.rel.1 r_22) (x8 ac0 (x8 ac0 (x8 ah3 (x8 (CV.rel.1 r_24) (x8 aj0 ar6))))))))) : ab6 (bN8 a1.Command.Guard) _)) a ha)) rfl rfl rfl (aa4 (aa0 (aa1 (ai7 (aa1 (aa2 (o6 (s_fa (o' := 23) rfl rfl) ?_)))))))
 refine o6 (aG7 (i := 1) rfl rfl rfl) (o6 (s_ib rfl rfl rfl) (o6 (s_mv rfl) (aa4 (aa0 ?_))))
 by_cases h_31 : a1.Range ≥ 0
 ·replace h := iteT h h_31
  refine g_cT rfl (decide_eq_true h_31) (aa1 (av3 (o6 (s_mv rfl) (o6 (bv1 (i := 1) rfl rfl rfl rfl) ?_))))
  cases h
 ·replace h := iteF h h_31
  refine g_cF rfl (decide_eq_false h_31) (aa1 (aa2 (o6 (s_fa (o' := 0) rfl rfl) (o6 (s_fa (o' := 0) rfl rfl) (o6 (aG7 (i := 0) rfl rfl rfl) (o6 (s_ib rfl rfl rfl) (o6 (s_mv rfl) ?_)))))))
  refine aa4 (aa0 ?_)
  by_cases h_32 : a1.Command.Guard.A.Kind ≠ 0
  ·replace h := iteT h h_32
   refine g_cT rfl (decide_eq_true h_32) (aa1 (av3 (o6 (s_mv rfl) (o6 (s_fa (o' := 0) rfl rfl) (o6 (bv1 (i := 0) rfl rfl rfl rfl) (o6 (s_fa (o' := 20) rfl rfl) (o6 (aG7 (i := 1) rfl rfl rfl) ?_)))))))
   cases h
  ·replace h := iteF h h_32
   refine g_cF rfl (decide_eq_false h_32) (ai6 (ak8 (aa0 (aa1 (aa2 (o6 (s_fa (o' := 8) rfl rfl) (o6 (aG7 (i := 0) rfl rfl rfl) ?_)))))))
   refine o6 (s_nt rfl) (o6 (s_mv rfl) (aa4 (aa0 (ar4 ?_))))
   obtain rfl := Option.some.inj h
   refine g_mv (Mv.sub (.cons (i := 2) rfl .rfl (.cons (i := 3) rfl .rfl (.cons (i := 4) rfl .rfl (.cons (i := 5) rfl .rfl (.cons (i := 6) rfl .rfl (.cons (i := 7) rfl .rfl (.cons (i := 8) rfl .rfl (.cons (i := 0) rfl .rfl (.cons (i := 1) rfl .rfl .nil))))))))) rfl) ?_
   rintro _ rfl
   refine g_mv (Mv.sht (os := (l9 a0)) (N := [.own true [] (.gs 1 88 (List.map (al3 y9) a0.regexes)) w_5 F_6, .own true [] (.gs 1 9 (List.map aa8 a0.input)) w_7 F_8, .own true [] (.ptr 96 (o7 a0.files)) w_9 F_10, .own true [] (.bb 5 a0.out) w_13 F_14, .own true [] (.rw true 1 3 (List.map (aj3 .i64) a0.state.Ranges)) w_15 F_16, .own true [] (.gs 2 122 (List.map y8 a0.state.Queue)) w_17 F_18]) rfl ⟨(CV.rel.2 (CV.rel.1 r_4)), rfl, rfl, rfl, rfl, rfl, rfl, h_12, rfl, rfl, rfl, rfl, rfl, rfl, rfl, rfl, rfl, rfl, rfl, rfl, rfl, rfl⟩) ?_
   rintro _ ⟨F_33, rfl⟩
   exact ak9 (A1 := [.own true [] (.ptr 80 (l9 a0)) (.ptr p_1 g_2 0 0) F_33]) (A2 := []) (A3 := []) rfl ⟨rfl, rfl, rfl, rfl⟩ (.tr rfl rfl .nil) rfl rfl
def S.ab5 (P : Program) (φ : D.o5 → D.ao2 → Option (D.o5 × Bool)) : Prop := ∀ (a0 : D.o5) (a1 : D.ao2) (r : (D.o5 × Bool)), φ a0 a1 = some r → bd8 P F.ab5 [.o (.ptr 80 (l9 a0)), .r (.agg (ae9 a1))] false [.o (.ptr 80 (l9 r.1)), .x] [.r (.bool r.2)]
theorem aA3 {P : Program} [hc : ae8 P] {L : Nat} (W : List Loc) (S0 : AS) (p_1 : Loc) (g_2 : Nat) (a1 : D.ao2) (ac1 : List AV) (jq_i8 : D.ao2) (jq_i0 : D.o5) (jp144 : Bool) {jJ_i32 : List Loc} {jG_i8 : Nat} {jz_i8_4 : AV} {jz_i8_8 : AV} {jz_i8_13 : AV} {jz_i8_14 : AV} {jz_i0_0 : AV} {jb_i0_4 : AV} {jw_i2 : AV} {jF_i2 : List Loc} {jw_i3 : AV} {jF_i3 : List Loc} {jw_i4 : AV} {jF_i4 : List Loc} {jw_i5 : AV} {jF_i5 : List Loc} {jw_i6 : AV} {jF_i6 : List Loc} {jw_i7 : AV} {jF_i7 : List Loc} (ar1 : ab6 (ae9 a1) ac1) (jy_i8_4 : RelC (ai9 jq_i8.Command.Guard.A.Tree) jz_i8_4) (jy_i8_8 : RelC (ai9 jq_i8.Command.Guard.B.Tree) jz_i8_8) (jy_i8_13 : RelC (ai9 jq_i8.Command.Sub.Tree) jz_i8_13) (jy_i8_14 : RelC (.sl 2 (jq_i8.Command.Sub.Parts.map bp2)) jz_i8_14) (jy_i0_0 : RelC (vref ac2 jq_i0.f) jz_i0_0) (jh_i0_4 : (jb_i0_4 = .lit (.pointer none) ∨ jb_i0_4 = .ptr p_1 g_2 0 4)) : ∀ (r : (D.o5 × Bool)), aq1 jq_i8 jq_i0 jp144 = some r → G .normal L (⟨F.ab5, W, S0, true, false⟩ : Fr) [(3, .ptr ⟨L + 1, 3, 0⟩ jG_i8 0 0), (5, .ptr p_1 g_2 0 6), (144, .lit (.bool jp144))] [.jnk true [] jJ_i32, .cel false [3] ⟨L + 1, 3, 0⟩ jG_i8 136 [.lit (.int .i64 jq_i8.Command.At), .lit (.int .i64 jq_i8.Command.Guard.A.Kind), .lit (.int .i64 jq_i8.Command.Guard.A.Line), .lit (.string (bs jq_i8.Command.Guard.A.Text)), jz_i8_4, .lit (.int .i64 jq_i8.Command.Guard.B.Kind), .lit (.int .i64 jq_i8.Command.Guard.B.Line), .lit (.string (bs jq_i8.Command.Guard.B.Text)), jz_i8_8, .lit (.bool jq_i8.Command.Guard.Not), .lit (.int .u8 jq_i8.Command.Name), .lit (.string (bs jq_i8.Command.Arg)), .lit (.string (bs jq_i8.Command.Sub.Text)), jz_i8_13, jz_i8_14, .lit (.int .i64 jq_i8.Command.Sub.Nth), .lit (.bool jq_i8.Command.Sub.All), .lit (.bool jq_i8.Command.Sub.Print), .lit (.string (bs jq_i8.Command.Sub.File)), .lit (.string (bs jq_i8.Command.Table)), .lit (.int .i64 jq_i8.A), .lit (.int .i64 jq_i8.B), .lit (.int .i64 jq_i8.Sub), .lit (.int .i64 jq_i8.Range), .lit (.int .i64 jq_i8.Else), .lit (.int .i64 jq_i8.To)], .cel true [] p_1 g_2 80 [jz_i0_0, jw_i2, jw_i3, jw_i4, jb_i0_4, jw_i5, .lit (.int .i64 jq_i0.state.Op), .lit (.string (bs jq_i0.state.Pattern)), .lit (.string (bs jq_i0.state.Hold)), .lit (.bool jq_i0.state.Flag), .lit (.int .i64 jq_i0.state.Line), jw_i6, jw_i7, .lit (.bool jq_i0.state.Done)], .own true [] (.gs 1 88 (List.map (al3 y9) jq_i0.regexes)) jw_i2 jF_i2, .own true [] (.gs 1 9 (List.map aa8 jq_i0.input)) jw_i3 jF_i3, .own true [] (.ptr 96 (o7 jq_i0.files)) jw_i4 jF_i4, .own true [] (.bb 5 jq_i0.out) jw_i5 jF_i5, .own true [] (.rw true 1 3 (List.map (aj3 .i64) jq_i0.state.Ranges)) jw_i6 jF_i6, .own true [] (.gs 2 122 (List.map y8 jq_i0.state.Queue)) jw_i7 jF_i7] (Thn P K.aL1 (Blk 0 (Thn P K.aK3 (RetO (⟨F.ab5, W, S0, true, false⟩ : Fr) L false [.ptr p_1 g_2 0 0, .agg ac1] K.ab5.res [.o (.ptr 80 (l9 r.1)), .x] [.r (.bool r.2)])))) := by
 intro r h
 unfold aq1 at h
 refine aa0 ?_
 by_cases h_182 : jp144 = true
 ·replace h := iteT h h_182
  refine g_cT rfl h_182 (aa1 (aa2 (o6 (s_mv rfl) (o6 (ag4 rfl) (o6 (s_fa (o' := 6) rfl rfl) (o6 (ar8 (i := 2) rfl rfl rfl) (o6 (s_ib rfl rfl rfl) ?_)))))))
  refine o6 (ag4 rfl) (o6 (s_fa (o' := 6) rfl rfl) (aq6 (i := 2) rfl rfl rfl ⟨rfl, rfl⟩ (.c rfl) rfl rfl rfl (aa4 (aa0 (aa1 (aa1 (av3 ?_)))))))
  refine o6 (s_mv rfl) (o6 (ag4 rfl) (o6 (s_fa (o' := 9) rfl rfl) (o6 (ar8 (i := 2) rfl rfl rfl) (o6 (s_fa (o' := 0) rfl rfl) (o6 (s_fa (o' := 10) rfl rfl) (o6 (aG7 (i := 1) rfl rfl rfl) (o6 (s_ib rfl rfl rfl) ?_)))))))
  refine o6 (s_bb rfl rfl) (aG1 rfl (aa0 ?_))
  by_cases h_183 : (decide (jq_i0.state.Flag = (decide (jq_i8.Command.Name = 116))) != false) = true
  ·replace h := iteT h h_183
   refine g_cT rfl h_183 (aa2 (o6 (s_mv rfl) (o6 (s_fa (o' := 25) rfl rfl) (o6 (aG7 (i := 1) rfl rfl rfl) (o6 (ag4 rfl) (o6 (s_fa (o' := 6) rfl rfl) (aq6 (i := 2) rfl rfl rfl ⟨rfl, rfl⟩ (.c rfl) rfl rfl rfl ?_)))))))
   refine aa4 (aa0 (aa2 (o6 (s_mv rfl) (o6 (ag4 rfl) (o6 (s_fa (o' := 9) rfl rfl) (aq6 (i := 2) rfl rfl rfl ⟨rfl, rfl⟩ (.c rfl) rfl rfl rfl (aa4 ?_)))))))
   refine ak8 (aa0 (aa1 (aa2 (o6 (s_mv rfl) (aa4 (aa0 (ar4 ?_)))))))
   obtain rfl := Option.some.inj h
   refine g_mv (Mv.sub (.cons (i := 2) rfl .rfl (.cons (i := 3) rfl .rfl (.cons (i := 4) rfl .rfl (.cons (i := 5) rfl .rfl (.cons (i := 6) rfl .rfl (.cons (i := 7) rfl .rfl (.cons (i := 8) rfl .rfl (.cons (i := 0) rfl .rfl (.cons (i := 1) rfl .rfl .nil))))))))) rfl) ?_
   rintro _ rfl
   refine g_mv (Mv.sht (os := (l9 (D.o5.mk jq_i0.f jq_i0.regexes jq_i0.input jq_i0.files jq_i0.out (D.y7.mk jq_i8.To jq_i0.state.Pattern jq_i0.state.Hold false jq_i0.state.Line jq_i0.state.Ranges jq_i0.state.Queue jq_i0.state.Done)))) (N := [.own true [] (.gs 1 88 (List.map (al3 y9) jq_i0.regexes)) jw_i2 jF_i2, .own true [] (.gs 1 9 (List.map aa8 jq_i0.input)) jw_i3 jF_i3, .own true [] (.ptr 96 (o7 jq_i0.files)) jw_i4 jF_i4, .own true [] (.bb 5 jq_i0.out) jw_i5 jF_i5, .own true [] (.rw true 1 3 (List.map (aj3 .i64) jq_i0.state.Ranges)) jw_i6 jF_i6, .own true [] (.gs 2 122 (List.map y8 jq_i0.state.Queue)) jw_i7 jF_i7]) rfl ⟨(CV.rel.2 jy_i0_0), rfl, rfl, rfl, rfl, rfl, rfl, jh_i0_4, rfl, rfl, rfl, rfl, rfl, rfl, rfl, rfl, rfl, rfl, rfl, rfl, rfl, rfl⟩) ?_
   rintro _ ⟨F_184, rfl⟩
   exact ak9 (A1 := [.own true [] (.ptr 80 (l9 (D.o5.mk jq_i0.f jq_i0.regexes jq_i0.input jq_i0.files jq_i0.out (D.y7.mk jq_i8.To jq_i0.state.Pattern jq_i0.state.Hold false jq_i0.state.Line jq_i0.state.Ranges jq_i0.state.Queue jq_i0.state.Done)))) (.ptr p_1 g_2 0 0) F_184]) (A2 := []) (A3 := [.jnk true [] jJ_i32]) rfl ⟨rfl, rfl, rfl, rfl⟩ (.tr rfl rfl .nil) rfl rfl
  ·replace h := iteF h h_183
   refine g_cF rfl (Bool.eq_false_iff.2 h_183) (ai6 (aa0 (aa2 (o6 (s_mv rfl) (o6 (ag4 rfl) (o6 (s_fa (o' := 9) rfl rfl) (aq6 (i := 2) rfl rfl rfl ⟨rfl, rfl⟩ (.c rfl) rfl rfl rfl ?_)))))))
   refine aa4 (ak8 (aa0 (aa1 (aa2 (o6 (s_mv rfl) (aa4 (aa0 ?_)))))))
   refine ar4 ?_
   obtain rfl := Option.some.inj h
   refine g_mv (Mv.sub (.cons (i := 2) rfl .rfl (.cons (i := 3) rfl .rfl (.cons (i := 4) rfl .rfl (.cons (i := 5) rfl .rfl (.cons (i := 6) rfl .rfl (.cons (i := 7) rfl .rfl (.cons (i := 8) rfl .rfl (.cons (i := 0) rfl .rfl (.cons (i := 1) rfl .rfl .nil))))))))) rfl) ?_
   rintro _ rfl
   refine g_mv (Mv.sht (os := (l9 (D.o5.mk jq_i0.f jq_i0.regexes jq_i0.input jq_i0.files jq_i0.out (D.y7.mk (G.addI jq_i0.state.Op 1) jq_i0.state.Pattern jq_i0.state.Hold false jq_i0.state.Line jq_i0.state.Ranges jq_i0.state.Queue jq_i0.state.Done)))) (N := [.own true [] (.gs 1 88 (List.map (al3 y9) jq_i0.regexes)) jw_i2 jF_i2, .own true [] (.gs 1 9 (List.map aa8 jq_i0.input)) jw_i3 jF_i3, .own true [] (.ptr 96 (o7 jq_i0.files)) jw_i4 jF_i4, .own true [] (.bb 5 jq_i0.out) jw_i5 jF_i5, .own true [] (.rw true 1 3 (List.map (aj3 .i64) jq_i0.state.Ranges)) jw_i6 jF_i6, .own true [] (.gs 2 122 (List.map y8 jq_i0.state.Queue)) jw_i7 jF_i7]) rfl ⟨(CV.rel.2 jy_i0_0), rfl, rfl, rfl, rfl, rfl, rfl, jh_i0_4, rfl, rfl, rfl, rfl, rfl, rfl, rfl, rfl, rfl, rfl, rfl, rfl, rfl, rfl⟩) ?_
   rintro _ ⟨F_185, rfl⟩
   exact ak9 (A1 := [.own true [] (.ptr 80 (l9 (D.o5.mk jq_i0.f jq_i0.regexes jq_i0.input jq_i0.files jq_i0.out (D.y7.mk (G.addI jq_i0.state.Op 1) jq_i0.state.Pattern jq_i0.state.Hold false jq_i0.state.Line jq_i0.state.Ranges jq_i0.state.Queue jq_i0.state.Done)))) (.ptr p_1 g_2 0 0) F_185]) (A2 := []) (A3 := [.jnk true [] jJ_i32]) rfl ⟨rfl, rfl, rfl, rfl⟩ (.tr rfl rfl .nil) rfl rfl
 ·replace h := iteF h h_182
  refine g_cF rfl (Bool.eq_false_iff.2 h_182) (aa1 (aa2 (o6 (s_mv rfl) (aa4 (aa0 (ar4 (cR5 ?_)))))))
  refine aY6 ?_
  obtain rfl := Option.some.inj h
  refine g_mv (Mv.sub (.cons (i := 2) rfl .rfl (.cons (i := 3) rfl .rfl (.cons (i := 4) rfl .rfl (.cons (i := 5) rfl .rfl (.cons (i := 6) rfl .rfl (.cons (i := 7) rfl .rfl (.cons (i := 8) rfl .rfl (.cons (i := 0) rfl .rfl (.cons (i := 1) rfl .rfl .nil))))))))) rfl) ?_
  rintro _ rfl
  refine g_mv (Mv.sht (os := (l9 jq_i0)) (N := [.own true [] (.gs 1 88 (List.map (al3 y9) jq_i0.regexes)) jw_i2 jF_i2, .own true [] (.gs 1 9 (List.map aa8 jq_i0.input)) jw_i3 jF_i3, .own true [] (.ptr 96 (o7 jq_i0.files)) jw_i4 jF_i4, .own true [] (.bb 5 jq_i0.out) jw_i5 jF_i5, .own true [] (.rw true 1 3 (List.map (aj3 .i64) jq_i0.state.Ranges)) jw_i6 jF_i6, .own true [] (.gs 2 122 (List.map y8 jq_i0.state.Queue)) jw_i7 jF_i7]) rfl ⟨(CV.rel.2 jy_i0_0), rfl, rfl, rfl, rfl, rfl, rfl, jh_i0_4, rfl, rfl, rfl, rfl, rfl, rfl, rfl, rfl, rfl, rfl, rfl, rfl, rfl, rfl⟩) ?_
  rintro _ ⟨F_186, rfl⟩
  exact ak9 (A1 := [.own true [] (.ptr 80 (l9 jq_i0)) (.ptr p_1 g_2 0 0) F_186]) (A2 := []) (A3 := [.jnk true [] jJ_i32]) rfl ⟨rfl, rfl, rfl, rfl⟩ (.tr rfl rfl .nil) rfl rfl
theorem bj2 {P : Program} [hc : ae8 P] : S.ab5 P (ab5) := by
 intro a0 a1 r h
 refine al5 (b := K.ab5) rfl hc.ab5 rfl rfl rfl ?_
 rintro L S0 _ _ _ ⟨av0, _, F0, _, _, rfl, rfl, rfl, _, _, rfl, ⟨ac1, rfl, ar1⟩, rfl, rfl, rfl⟩
 unfold ab5 at h
 refine (show GC P _ L (⟨F.ab5, (F0 ++ []), S0, true, false⟩ : Fr) (numE 0 [av0, .agg ac1]) [.own true [] (.ptr 80 (l9 a0)) av0 F0] (RetO (⟨F.ab5, (F0 ++ []), S0, true, false⟩ : Fr) L false [av0, .agg ac1] K.ab5.res [.o (.ptr 80 (l9 r.1)), .x] [.r (.bool r.2)]) from ?_)
 generalize ((F0 ++ []) : List Loc) = W
 refine aK7 (Mv.opn rfl) ?_
 rintro _ ⟨p_1, g_2, _, _, rfl, hO_19, rfl⟩
 obtain ⟨v_3, w_5, F_6, w_7, F_8, w_9, F_10, b_11, w_13, F_14, w_15, F_16, w_17, F_18, rfl, rfl, r_4, h_12⟩ := ac8 hO_19
 refine aa1 (aa2 ?_)
 obtain ⟨v_21, v_23, v_25, v_27, hE_29, r_22, r_24, r_26, r_28⟩ := aT5 ar1
 refine g_bxP (cs := [.lit (.int .i64 a1.Command.At), .lit (.int .i64 a1.Command.Guard.A.Kind), .lit (.int .i64 a1.Command.Guard.A.Line), .lit (.string (bs a1.Command.Guard.A.Text)), v_21, .lit (.int .i64 a1.Command.Guard.B.Kind), .lit (.int .i64 a1.Command.Guard.B.Line), .lit (.string (bs a1.Command.Guard.B.Text)), v_23, .lit (.bool a1.Command.Guard.Not), .lit (.int .u8 a1.Command.Name), .lit (.string (bs a1.Command.Arg)), .lit (.string (bs a1.Command.Sub.Text)), v_25, v_27, .lit (.int .i64 a1.Command.Sub.Nth), .lit (.bool a1.Command.Sub.All), .lit (.bool a1.Command.Sub.Print), .lit (.string (bs a1.Command.Sub.File)), .lit (.string (bs a1.Command.Table)), .lit (.int .i64 a1.A), .lit (.int .i64 a1.B), .lit (.int .i64 a1.Sub), .lit (.int .i64 a1.Range), .lit (.int .i64 a1.Else), .lit (.int .i64 a1.To)]) rfl hE_29 (by rw [← hE_29]; exact ab6.closed ar1) rfl fun g_20 => ?_
 refine o6 (s_mv rfl) (aa4 (aa0 (aa1 (aa2 (o6 (s_mv rfl) (o6 (ag4 rfl) (o6 (s_fa (o' := 6) rfl rfl) ?_)))))))
 refine o6 (s_mv rfl) (aa4 (aa0 (aa1 (aa1 (aa2 (o6 (s_fa (o' := 0) rfl rfl) (o6 (s_fa (o' := 10) rfl rfl) ?_)))))))
 refine o6 (aG7 (i := 0) rfl rfl rfl) (aa4 (aa0 (ai7 (aa1 (aa2 (o6 (s_ib rfl rfl rfl) (o6 (s_mv rfl) ?_)))))))
 refine aa4 (aa0 ?_)
 by_cases h_30 : a1.Command.Name = 100
 ·replace h := iteT h h_30
  refine g_cT rfl (decide_eq_true h_30) (aa2 (o6 (s_mv rfl) ?_))
  cases h
 ·replace h := iteF h h_30
  refine g_cF rfl (decide_eq_false h_30) (aa1 (aa2 (o6 (s_ib rfl rfl rfl) (o6 (s_mv rfl) (aa4 (aa0 ?_))))))
  by_cases h_31 : a1.Command.Name = 68
  ·replace h := iteT h h_31
   refine g_cT rfl (decide_eq_true h_31) (aa1 (aa2 (o6 (s_mv rfl) (o6 (ag4 rfl) (o6 (s_fa (o' := 7) rfl rfl) (o6 (ar8 (i := 1) rfl rfl rfl) ?_))))))
   cases h
  ·replace h := iteF h h_31
   refine g_cF rfl (decide_eq_false h_31) (aa1 (aa2 (o6 (s_ib rfl rfl rfl) (o6 (s_mv rfl) (aa4 (aa0 ?_))))))
   by_cases h_32 : a1.Command.Name = 99
   ·replace h := iteT h h_32
    refine g_cT rfl (decide_eq_true h_32) (aa1 (aa1 (av3 (o6 (s_fa (o' := 23) rfl rfl) (o6 (aG7 (i := 0) rfl rfl rfl) (o6 (s_ib rfl rfl rfl) (o6 (s_mv rfl) ?_)))))))
    refine ax9 (gb := (!(decide (a1.Range < 0)))) (af := af0) (Q := fun u => u = .ptr ⟨L + 1, 3, 0⟩ g_20 0 0) rfl (ag9 _) (fun hg => ?_) ?_
    ·exact s_fa (o' := 0) rfl rfl
    intro v_35 hv_33 hu_34
    refine ax9 (gb := (!(decide (a1.Range < 0)))) (af := af0) (Q := fun u => u = .ptr ⟨L + 1, 3, 0⟩ g_20 0 1) rfl (ag9 _) (fun hg => ?_) ?_
    ·obtain rfl := (hv_33 hg).symm; exact s_fa (o' := 1) rfl rfl
    intro v_38 hv_36 hu_37
    refine ax9 (gb := (!(decide (a1.Range < 0)))) (af := af0) (Q := fun u => u = .ptr ⟨L + 1, 3, 0⟩ g_20 0 9) rfl (ag9 _) (fun hg => ?_) ?_
    ·obtain rfl := (hv_36 hg).symm; exact s_fa (o' := 9) rfl rfl
    intro v_41 hv_39 hu_40
    refine ax9 (gb := (!(decide (a1.Range < 0)))) (af := (some [3], some [])) (Q := fun u => u = .lit (.bool a1.Command.Guard.Not)) rfl (ag9 _) (fun hg => ?_) ?_
    ·obtain rfl := (hv_39 hg).symm; exact aG7 (i := 0) rfl rfl rfl
    intro v_44 hv_42 hu_43
    refine o6 (s_or (b := a1.Command.Guard.Not) rfl rfl (fun hq => by obtain rfl := (hv_42 hq).symm <;> rfl)) (o6 (s_mv rfl) ?_)
    refine ax9 (gb := (!((decide (a1.Range < 0)) || a1.Command.Guard.Not))) (af := af0) (Q := fun u => u = .ptr p_1 g_2 0 6) rfl (ag9 _) (fun hg => ?_) ?_
    ·exact s_mv rfl
    intro v_47 hv_45 hu_46
    refine ax9 (gb := (!((decide (a1.Range < 0)) || a1.Command.Guard.Not))) (af := af0) (Q := fun u => u = .ptr p_1 g_2 0 6) rfl (ag9 _) (fun hg => ?_) ?_
    ·obtain rfl := (hv_45 hg).symm; exact ag4 rfl
    intro v_50 hv_48 hu_49
    refine ax9 (gb := (!((decide (a1.Range < 0)) || a1.Command.Guard.Not))) (af := af0) (Q := fun u => u = .ptr p_1 g_2 0 11) rfl (ag9 _) (fun hg => ?_) ?_
    ·obtain rfl := (hv_48 hg).symm; exact s_fa (o' := 11) rfl rfl
    intro v_53 hv_51 hu_52
    refine ax9 (gb := (!((decide (a1.Range < 0)) || a1.Command.Guard.Not))) (af := (some [0], some [])) (Q := fun u => u = w_15) rfl (ag9 _) (fun hg => ?_) ?_
    ·obtain rfl := (hv_51 hg).symm; exact ar8 (i := 1) rfl rfl rfl
    intro v_56 hv_54 hu_55
    refine ax9 (gb := (!((decide (a1.Range < 0)) || a1.Command.Guard.Not))) (af := af0) (Q := fun u => u = .ptr ⟨L + 1, 3, 0⟩ g_20 0 23) rfl (ag9 _) (fun hg => ?_) ?_
    ·exact s_fa (o' := 23) rfl rfl
    intro v_59 hv_57 hu_58
    refine ax9 (gb := (!((decide (a1.Range < 0)) || a1.Command.Guard.Not))) (af := (some [3], some [])) (Q := fun u => u = .lit (.int .i64 a1.Range)) rfl (ag9 _) (fun hg => ?_) ?_
    ·obtain rfl := (hv_57 hg).symm; exact aG7 (i := 0) rfl rfl rfl
    intro v_62 hv_60 hu_61
    by_cases h_63 : ((decide (a1.Range < 0)) || a1.Command.Guard.Not) = true
    ·replace h := iteT h h_63
     refine cv4 rfl ((ag9 _).trans (by rw [h_63]; rfl)) (cv4 rfl ((ag9 _).trans (by rw [h_63]; rfl)) (cv4 rfl ((ag9 _).trans (by rw [h_63]; rfl)) (o6 (s_or (b := false) rfl rfl (fun hq => by have hz := hq; first | (rw [h_63] at hz; cases hz) | simp [h_63] at hz <;> rfl)) (aG1 rfl (aa0 ?_)))))
     by_cases h_64 : (((decide (a1.Range < 0)) || a1.Command.Guard.Not) || false) = true
     ·replace h := iteT h h_64
      refine g_cT rfl h_64 (av3 (o6 (s_mv rfl) (o6 (ag4 rfl) (o6 (s_fa (o' := 4) rfl rfl) (o6 (s_fa (o' := 0) rfl rfl) (o6 (s_fa (o' := 11) rfl rfl) (o6 (aG7 (i := 0) rfl rfl rfl) ?_)))))))
      refine aq4 (Mv.sub (.cons (i := 1) rfl .rfl (.cons (i := 5) rfl .rfl (.cons (i := 0) rfl .rfl (.cons (i := 2) rfl .rfl (.cons (i := 3) rfl .rfl (.cons (i := 4) rfl .rfl (.cons (i := 6) rfl .rfl (.cons (i := 7) rfl .rfl .nil)))))))) rfl) ?_
      rintro _ rfl
      obtain ⟨x_65, e_66, h⟩ := ae5 h
      refine ce9 hc.bld rfl rfl rfl rfl rfl h_12 rfl rfl hc.lies_80_4 rfl e_66 fun v_67 b_68 w_69 F_70 h_71 => ?_
      refine aG1 rfl (aa0 (aa2 (o6 (s_mv rfl) ?_)))
      cases h
     ·replace h := iteF h h_64
      refine g_cF rfl (Bool.eq_false_iff.2 h_64) (ai6 (aa0 (aa2 (o6 (s_mv rfl) ?_))))
      cases h
    ·replace h := iteF h h_63
     replace h_63 := Bool.eq_false_iff.2 h_63
     refine cq6 rfl ((ag9 _).trans (by rw [h_63]; rfl)) ?_
     obtain rfl := (hv_54 (by rw [h_63]; rfl)).symm
     obtain rfl := (hv_60 (by rw [h_63]; rfl)).symm
     obtain ⟨x_72, e_73, h⟩ := ae5 h
     refine g_iaR (i := 6) (c := (aj3 .i64)) (xs := a0.state.Ranges) rfl rfl rfl e_73 ?_
     rintro p_74 g_75 n_76 n_77 rfl
     refine cq6 rfl ((ag9 _).trans (by rw [h_63]; rfl)) (ah6 (s_ldR (i := 6) (c := (aj3 .i64)) (xs := a0.state.Ranges) (j := a1.Range.toNat) (k := 0) rfl rfl rfl rfl (idx_at e_73) rfl) ?_)
     rintro _ rfl
     refine cq6 rfl ((ag9 _).trans (by rw [h_63]; rfl)) (o6 (s_ib rfl rfl rfl) (o6 (s_or rfl rfl (fun _ => rfl)) (aG1 rfl (aa0 ?_))))
     by_cases h_78 : (((decide (a1.Range < 0)) || a1.Command.Guard.Not) || (decide (x_72 = 0))) = true
     ·replace h := iteT h h_78
      refine g_cT rfl h_78 (av3 (o6 (s_mv rfl) (o6 (ag4 rfl) (o6 (s_fa (o' := 4) rfl rfl) (o6 (s_fa (o' := 0) rfl rfl) (o6 (s_fa (o' := 11) rfl rfl) (o6 (aG7 (i := 0) rfl rfl rfl) ?_)))))))
      refine aq4 (Mv.sub (.cons (i := 1) rfl .rfl (.cons (i := 5) rfl .rfl (.cons (i := 0) rfl .rfl (.cons (i := 2) rfl .rfl (.cons (i := 3) rfl .rfl (.cons (i := 4) rfl .rfl (.cons (i := 6) rfl .rfl (.cons (i := 7) rfl .rfl .nil)))))))) rfl) ?_
      rintro _ rfl
      obtain ⟨x_79, e_80, h⟩ := ae5 h
      refine ce9 hc.bld rfl rfl rfl rfl rfl h_12 rfl rfl hc.lies_80_4 rfl e_80 fun v_81 b_82 w_83 F_84 h_85 => ?_
      refine aG1 rfl (aa0 (aa2 (o6 (s_mv rfl) ?_)))
      cases h
     ·replace h := iteF h h_78
      refine g_cF rfl (Bool.eq_false_iff.2 h_78) (ai6 (aa0 (aa2 (o6 (s_mv rfl) ?_))))
      cases h
   ·replace h := iteF h h_32
    refine g_cF rfl (decide_eq_false h_32) (aa1 (aa2 (o6 (s_ib rfl rfl rfl) (o6 (s_mv rfl) (aa4 (aa0 ?_))))))
    by_cases h_86 : a1.Command.Name = 113
    ·replace h := iteT h h_86
     refine g_cT rfl (decide_eq_true h_86) (aa1 (aa2 (o6 (s_mv rfl) (aq4 (Mv.sub (.cons (i := 1) rfl .rfl (.cons (i := 2) rfl .rfl (.cons (i := 3) rfl .rfl (.cons (i := 4) rfl .rfl (.cons (i := 5) rfl .rfl (.cons (i := 6) rfl .rfl (.cons (i := 7) rfl .rfl (.cons (i := 0) rfl .rfl .nil)))))))) rfl) ?_))))
     rintro _ rfl
     refine aq4 (Mv.sht (os := (l9 a0)) (N := [.own true [] (.gs 1 88 (List.map (al3 y9) a0.regexes)) w_5 F_6, .own true [] (.gs 1 9 (List.map aa8 a0.input)) w_7 F_8, .own true [] (.ptr 96 (o7 a0.files)) w_9 F_10, .own true [] (.bb 5 a0.out) w_13 F_14, .own true [] (.rw true 1 3 (List.map (aj3 .i64) a0.state.Ranges)) w_15 F_16, .own true [] (.gs 2 122 (List.map y8 a0.state.Queue)) w_17 F_18]) rfl ⟨(CV.rel.2 (CV.rel.1 r_4)), rfl, rfl, rfl, rfl, rfl, rfl, h_12, rfl, rfl, rfl, rfl, rfl, rfl, rfl, rfl, rfl, rfl, rfl, rfl, rfl, rfl⟩) ?_
     rintro _ ⟨F_87, rfl⟩
     obtain ⟨x_88, e_89, h⟩ := ae5 h
     refine aN0 (A1 := [.own true [] (.ptr 80 (l9 a0)) (.ptr p_1 g_2 0 0) F_87]) rfl rfl (show InC [.o (.ptr 80 (l9 a0))] _ _ from ⟨rfl, rfl, rfl, rfl⟩) rfl rfl rfl rfl rfl ((ay9) _ _ e_89) ?_
     rintro _ _ _ J_91 ⟨F_92, _, rfl, rfl⟩ ⟨_, rfl, rfl, rfl⟩
     refine aa4 (aa0 (aa2 (o6 (s_mv rfl) (o6 (ag4 rfl) (aq4 (Mv.opn2 rfl) ?_)))))
     rintro _ ⟨_, _, hO_109, rfl⟩
     obtain ⟨v_93, w_95, F_96, w_97, F_98, w_99, F_100, b_101, w_103, F_104, w_105, F_106, w_107, F_108, rfl, rfl, r_94, h_102⟩ := ac8 hO_109
     refine o6 (s_fa (o' := 13) rfl rfl) (aq6 (i := 0) rfl rfl rfl ⟨rfl, rfl⟩ (.c rfl) rfl rfl rfl (aa4 (ak8 (aa0 (aa1 (aa2 (o6 (s_mv rfl) ?_)))))))
     refine aa4 (aa0 (ar4 ?_))
     obtain rfl := Option.some.inj h
     refine g_mv (Mv.sht (os := (l9 (D.o5.mk x_88.f x_88.regexes x_88.input x_88.files x_88.out (D.y7.mk x_88.state.Op x_88.state.Pattern x_88.state.Hold x_88.state.Flag x_88.state.Line x_88.state.Ranges x_88.state.Queue true)))) (N := [.own true [] (.gs 1 88 (List.map (al3 y9) x_88.regexes)) w_95 F_96, .own true [] (.gs 1 9 (List.map aa8 x_88.input)) w_97 F_98, .own true [] (.ptr 96 (o7 x_88.files)) w_99 F_100, .own true [] (.bb 5 x_88.out) w_103 F_104, .own true [] (.rw true 1 3 (List.map (aj3 .i64) x_88.state.Ranges)) w_105 F_106, .own true [] (.gs 2 122 (List.map y8 x_88.state.Queue)) w_107 F_108]) rfl ⟨(CV.rel.2 (CV.rel.1 r_94)), rfl, rfl, rfl, rfl, rfl, rfl, h_102, rfl, rfl, rfl, rfl, rfl, rfl, rfl, rfl, rfl, rfl, rfl, rfl, rfl, rfl⟩) ?_
     rintro _ ⟨F_110, rfl⟩
     exact ak9 (A1 := [.own true [] (.ptr 80 (l9 (D.o5.mk x_88.f x_88.regexes x_88.input x_88.files x_88.out (D.y7.mk x_88.state.Op x_88.state.Pattern x_88.state.Hold x_88.state.Flag x_88.state.Line x_88.state.Ranges x_88.state.Queue true)))) (.ptr p_1 g_2 0 0) F_110]) (A2 := []) (A3 := [.jnk true [] J_91]) rfl ⟨rfl, rfl, rfl, rfl⟩ (.tr rfl rfl .nil) rfl rfl
    ·replace h := iteF h h_86
     refine g_cF rfl (decide_eq_false h_86) (aa1 (aa2 (o6 (s_ib rfl rfl rfl) (o6 (s_mv rfl) (aa4 (aa0 ?_))))))
     by_cases h_111 : a1.Command.Name = 81
     ·replace h := iteT h h_111
      refine g_cT rfl (decide_eq_true h_111) (aa2 (o6 (s_mv rfl) (o6 (ag4 rfl) (o6 (s_fa (o' := 13) rfl rfl) (aq6 (i := 1) rfl rfl rfl ⟨rfl, rfl⟩ (.c rfl) rfl rfl rfl (aa4 (ak8 ?_)))))))
      refine aa0 (aa1 (aa2 (o6 (s_mv rfl) (aa4 (aa0 (ar4 ?_))))))
      obtain rfl := Option.some.inj h
      refine g_mv (Mv.sub (.cons (i := 1) rfl .rfl (.cons (i := 2) rfl .rfl (.cons (i := 3) rfl .rfl (.cons (i := 4) rfl .rfl (.cons (i := 5) rfl .rfl (.cons (i := 6) rfl .rfl (.cons (i := 7) rfl .rfl (.cons (i := 0) rfl .rfl .nil)))))))) rfl) ?_
      rintro _ rfl
      refine g_mv (Mv.sht (os := (l9 (D.o5.mk a0.f a0.regexes a0.input a0.files a0.out (D.y7.mk a0.state.Op a0.state.Pattern a0.state.Hold a0.state.Flag a0.state.Line a0.state.Ranges a0.state.Queue true)))) (N := [.own true [] (.gs 1 88 (List.map (al3 y9) a0.regexes)) w_5 F_6, .own true [] (.gs 1 9 (List.map aa8 a0.input)) w_7 F_8, .own true [] (.ptr 96 (o7 a0.files)) w_9 F_10, .own true [] (.bb 5 a0.out) w_13 F_14, .own true [] (.rw true 1 3 (List.map (aj3 .i64) a0.state.Ranges)) w_15 F_16, .own true [] (.gs 2 122 (List.map y8 a0.state.Queue)) w_17 F_18]) rfl ⟨(CV.rel.2 (CV.rel.1 r_4)), rfl, rfl, rfl, rfl, rfl, rfl, h_12, rfl, rfl, rfl, rfl, rfl, rfl, rfl, rfl, rfl, rfl, rfl, rfl, rfl, rfl⟩) ?_
      rintro _ ⟨F_112, rfl⟩
      exact ak9 (A1 := [.own true [] (.ptr 80 (l9 (D.o5.mk a0.f a0.regexes a0.input a0.files a0.out (D.y7.mk a0.state.Op a0.state.Pattern a0.state.Hold a0.state.Flag a0.state.Line a0.state.Ranges a0.state.Queue true)))) (.ptr p_1 g_2 0 0) F_112]) (A2 := []) (A3 := []) rfl ⟨rfl, rfl, rfl, rfl⟩ (.tr rfl rfl .nil) rfl rfl
     ·replace h := iteF h h_111
      refine g_cF rfl (decide_eq_false h_111) (aa1 (aa2 (o6 (s_ib rfl rfl rfl) (o6 (s_mv rfl) (aa4 (aa0 ?_))))))
      by_cases h_113 : a1.Command.Name = 110
      ·replace h := iteT h h_113
       refine g_cT rfl (decide_eq_true h_113) (aa1 (aa2 (o6 (s_mv rfl) (aq4 (Mv.sub (.cons (i := 1) rfl .rfl (.cons (i := 2) rfl .rfl (.cons (i := 3) rfl .rfl (.cons (i := 4) rfl .rfl (.cons (i := 5) rfl .rfl (.cons (i := 6) rfl .rfl (.cons (i := 7) rfl .rfl (.cons (i := 0) rfl .rfl .nil)))))))) rfl) ?_))))
       rintro _ rfl
       refine aq4 (Mv.sht (os := (l9 a0)) (N := [.own true [] (.gs 1 88 (List.map (al3 y9) a0.regexes)) w_5 F_6, .own true [] (.gs 1 9 (List.map aa8 a0.input)) w_7 F_8, .own true [] (.ptr 96 (o7 a0.files)) w_9 F_10, .own true [] (.bb 5 a0.out) w_13 F_14, .own true [] (.rw true 1 3 (List.map (aj3 .i64) a0.state.Ranges)) w_15 F_16, .own true [] (.gs 2 122 (List.map y8 a0.state.Queue)) w_17 F_18]) rfl ⟨(CV.rel.2 (CV.rel.1 r_4)), rfl, rfl, rfl, rfl, rfl, rfl, h_12, rfl, rfl, rfl, rfl, rfl, rfl, rfl, rfl, rfl, rfl, rfl, rfl, rfl, rfl⟩) ?_
       rintro _ ⟨F_114, rfl⟩
       obtain ⟨x_115, e_116, h⟩ := ae5 h
       refine aN0 (A1 := [.own true [] (.ptr 80 (l9 a0)) (.ptr p_1 g_2 0 0) F_114]) rfl rfl (show InC [.o (.ptr 80 (l9 a0))] _ _ from ⟨rfl, rfl, rfl, rfl⟩) rfl rfl rfl rfl rfl ((ay9) _ _ e_116) ?_
       rintro _ _ _ J_118 ⟨F_119, _, rfl, rfl⟩ ⟨_, rfl, rfl, rfl⟩
       refine aa4 (aa0 (aa1 (aa2 (o6 (s_mv rfl) ?_))))
       obtain ⟨x_120, e_121, h⟩ := ae5 h
       refine aN0 (A1 := [.own true [] (.ptr 80 (l9 x_115)) (.ptr p_1 g_2 0 0) F_119]) rfl rfl (show InC [.o (.ptr 80 (l9 x_115))] _ _ from ⟨rfl, rfl, rfl, rfl⟩) rfl rfl rfl rfl rfl ((aw8) _ _ e_121) ?_
       rintro _ _ _ J_123 ⟨F_124, _, rfl, rfl⟩ ⟨_, rfl, _, _, rfl, rfl, _, _, rfl, rfl, rfl, rfl⟩
       refine o6 (s_mv rfl) (o6 (s_ex rfl rfl) (o6 (s_ex rfl rfl) (o6 (s_mv rfl) (o6 (s_mv rfl) (aa4 (aa0 (aa1 ?_)))))))
       refine aa2 (o6 (s_mv rfl) (aa4 (aa0 ?_)))
       by_cases h_125 : x_120.2.2 = true
       ·replace h := iteT h h_125
        refine g_cT rfl h_125 (aa1 (aa2 (o6 (s_mv rfl) (o6 (s_mv rfl) (o6 (ag4 rfl) (aq4 (Mv.opn2 rfl) ?_))))))
        rintro _ ⟨_, _, hO_142, rfl⟩
        obtain ⟨v_126, w_128, F_129, w_130, F_131, w_132, F_133, b_134, w_136, F_137, w_138, F_139, w_140, F_141, rfl, rfl, r_127, h_135⟩ := ac8 hO_142
        refine o6 (s_fa (o' := 7) rfl rfl) (aq6 (i := 0) rfl rfl rfl ⟨rfl, rfl⟩ (.c rfl) rfl rfl rfl (aa4 (aa0 (aa2 (o6 (s_mv rfl) (o6 (ag4 rfl) (o6 (s_fa (o' := 6) rfl rfl) ?_)))))))
        refine o6 (ar8 (i := 0) rfl rfl rfl) (o6 (s_ib rfl rfl rfl) (o6 (ag4 rfl) (o6 (s_fa (o' := 6) rfl rfl) (aq6 (i := 0) rfl rfl rfl ⟨rfl, rfl⟩ (.c rfl) rfl rfl rfl (aa4 (ak8 (aa0 ?_)))))))
        refine aa1 (aa2 (o6 (s_mv rfl) (aa4 (aa0 (ar4 ?_)))))
        obtain rfl := Option.some.inj h
        refine g_mv (Mv.sht (os := (l9 (D.o5.mk x_120.1.f x_120.1.regexes x_120.1.input x_120.1.files x_120.1.out (D.y7.mk (G.addI x_120.1.state.Op 1) x_120.2.1 x_120.1.state.Hold x_120.1.state.Flag x_120.1.state.Line x_120.1.state.Ranges x_120.1.state.Queue x_120.1.state.Done)))) (N := [.own true [] (.gs 1 88 (List.map (al3 y9) x_120.1.regexes)) w_128 F_129, .own true [] (.gs 1 9 (List.map aa8 x_120.1.input)) w_130 F_131, .own true [] (.ptr 96 (o7 x_120.1.files)) w_132 F_133, .own true [] (.bb 5 x_120.1.out) w_136 F_137, .own true [] (.rw true 1 3 (List.map (aj3 .i64) x_120.1.state.Ranges)) w_138 F_139, .own true [] (.gs 2 122 (List.map y8 x_120.1.state.Queue)) w_140 F_141]) rfl ⟨(CV.rel.2 (CV.rel.1 r_127)), rfl, rfl, rfl, rfl, rfl, rfl, h_135, rfl, rfl, rfl, rfl, rfl, rfl, rfl, rfl, rfl, rfl, rfl, rfl, rfl, rfl⟩) ?_
        rintro _ ⟨F_143, rfl⟩
        exact ak9 (A1 := [.own true [] (.ptr 80 (l9 (D.o5.mk x_120.1.f x_120.1.regexes x_120.1.input x_120.1.files x_120.1.out (D.y7.mk (G.addI x_120.1.state.Op 1) x_120.2.1 x_120.1.state.Hold x_120.1.state.Flag x_120.1.state.Line x_120.1.state.Ranges x_120.1.state.Queue x_120.1.state.Done)))) (.ptr p_1 g_2 0 0) F_143]) (A2 := []) (A3 := [.jnk true [] J_123, .jnk true [] J_118]) rfl ⟨rfl, rfl, rfl, rfl⟩ (.tr rfl rfl .nil) rfl rfl
       ·replace h := iteF h h_125
        refine g_cF rfl (Bool.eq_false_iff.2 h_125) (ai6 (ak8 (aa0 (aa1 (aa2 (o6 (s_mv rfl) (aa4 ?_)))))))
        refine aa0 (ar4 ?_)
        obtain rfl := Option.some.inj h
        exact ak9 (A1 := [.own true [] (.ptr 80 (l9 x_120.1)) (.ptr p_1 g_2 0 0) F_124]) (A2 := []) (A3 := [.jnk true [] J_123, .jnk true [] J_118]) rfl ⟨rfl, rfl, rfl, rfl⟩ (.tr rfl rfl .nil) rfl rfl
      ·replace h := iteF h h_113
       refine g_cF rfl (decide_eq_false h_113) (aa1 (aa2 (o6 (s_ib rfl rfl rfl) (o6 (s_mv rfl) (aa4 (aa0 ?_))))))
       by_cases h_144 : a1.Command.Name = 78
       ·replace h := iteT h h_144
        refine g_cT rfl (decide_eq_true h_144) (aa1 (aa2 (o6 (s_mv rfl) (aq4 (Mv.sub (.cons (i := 1) rfl .rfl (.cons (i := 2) rfl .rfl (.cons (i := 3) rfl .rfl (.cons (i := 4) rfl .rfl (.cons (i := 5) rfl .rfl (.cons (i := 6) rfl .rfl (.cons (i := 7) rfl .rfl (.cons (i := 0) rfl .rfl .nil)))))))) rfl) ?_))))
        rintro _ rfl
        refine aq4 (Mv.sht (os := (l9 a0)) (N := [.own true [] (.gs 1 88 (List.map (al3 y9) a0.regexes)) w_5 F_6, .own true [] (.gs 1 9 (List.map aa8 a0.input)) w_7 F_8, .own true [] (.ptr 96 (o7 a0.files)) w_9 F_10, .own true [] (.bb 5 a0.out) w_13 F_14, .own true [] (.rw true 1 3 (List.map (aj3 .i64) a0.state.Ranges)) w_15 F_16, .own true [] (.gs 2 122 (List.map y8 a0.state.Queue)) w_17 F_18]) rfl ⟨(CV.rel.2 (CV.rel.1 r_4)), rfl, rfl, rfl, rfl, rfl, rfl, h_12, rfl, rfl, rfl, rfl, rfl, rfl, rfl, rfl, rfl, rfl, rfl, rfl, rfl, rfl⟩) ?_
        rintro _ ⟨F_145, rfl⟩
        obtain ⟨x_146, e_147, h⟩ := ae5 h
        refine aN0 (A1 := [.own true [] (.ptr 80 (l9 a0)) (.ptr p_1 g_2 0 0) F_145]) rfl rfl (show InC [.o (.ptr 80 (l9 a0))] _ _ from ⟨rfl, rfl, rfl, rfl⟩) rfl rfl rfl rfl rfl ((av9) _ _ e_147) ?_
        rintro _ _ _ J_149 ⟨F_150, _, rfl, rfl⟩ ⟨_, rfl, rfl, rfl⟩
        refine aa4 (aa0 (aa1 (aa2 (o6 (s_mv rfl) ?_))))
        obtain ⟨x_151, e_152, h⟩ := ae5 h
        refine aN0 (A1 := [.own true [] (.ptr 80 (l9 x_146)) (.ptr p_1 g_2 0 0) F_150]) rfl rfl (show InC [.o (.ptr 80 (l9 x_146))] _ _ from ⟨rfl, rfl, rfl, rfl⟩) rfl rfl rfl rfl rfl ((aw8) _ _ e_152) ?_
        rintro _ _ _ J_154 ⟨F_155, _, rfl, rfl⟩ ⟨_, rfl, _, _, rfl, rfl, _, _, rfl, rfl, rfl, rfl⟩
        refine o6 (s_mv rfl) (o6 (s_ex rfl rfl) (o6 (s_ex rfl rfl) (o6 (s_mv rfl) (o6 (s_mv rfl) (aa4 (aa0 (aa1 ?_)))))))
        refine aa2 (o6 (s_mv rfl) (aa4 (aa0 ?_)))
        by_cases h_156 : x_151.2.2 = true
        ·replace h := iteT h h_156
         refine g_cT rfl h_156 (aa1 (aa2 (o6 (s_mv rfl) (o6 (ag4 rfl) (aq4 (Mv.opn2 rfl) ?_)))))
         rintro _ ⟨_, _, hO_173, rfl⟩
         obtain ⟨v_157, w_159, F_160, w_161, F_162, w_163, F_164, b_165, w_167, F_168, w_169, F_170, w_171, F_172, rfl, rfl, r_158, h_166⟩ := ac8 hO_173
         refine o6 (s_fa (o' := 7) rfl rfl) (o6 (ar8 (i := 0) rfl rfl rfl) (o6 (s_mv rfl) ?_))
         obtain ⟨x_174, e_175, h⟩ := ae5 h
         refine o6 (cq5 rfl rfl e_175) ?_
         obtain ⟨x_176, e_177, h⟩ := ae5 h
         refine o6 (cq5 rfl rfl e_177) (o6 (ag4 rfl) (o6 (s_fa (o' := 7) rfl rfl) (aq6 (i := 0) rfl rfl rfl ⟨rfl, rfl⟩ (.c rfl) rfl rfl rfl (aa4 (aa0 (aa2 (o6 (s_mv rfl) ?_)))))))
         refine o6 (ag4 rfl) (o6 (s_fa (o' := 6) rfl rfl) (o6 (ar8 (i := 0) rfl rfl rfl) (o6 (s_ib rfl rfl rfl) (o6 (ag4 rfl) (o6 (s_fa (o' := 6) rfl rfl) (aq6 (i := 0) rfl rfl rfl ⟨rfl, rfl⟩ (.c rfl) rfl rfl rfl (aa4 ?_)))))))
         refine ak8 (aa0 (aa1 (aa2 (o6 (s_mv rfl) (aa4 (aa0 (ar4 ?_)))))))
         obtain rfl := Option.some.inj h
         refine g_mv (Mv.sht (os := (l9 (D.o5.mk x_151.1.f x_151.1.regexes x_151.1.input x_151.1.files x_151.1.out (D.y7.mk (G.addI x_151.1.state.Op 1) x_176 x_151.1.state.Hold x_151.1.state.Flag x_151.1.state.Line x_151.1.state.Ranges x_151.1.state.Queue x_151.1.state.Done)))) (N := [.own true [] (.gs 1 88 (List.map (al3 y9) x_151.1.regexes)) w_159 F_160, .own true [] (.gs 1 9 (List.map aa8 x_151.1.input)) w_161 F_162, .own true [] (.ptr 96 (o7 x_151.1.files)) w_163 F_164, .own true [] (.bb 5 x_151.1.out) w_167 F_168, .own true [] (.rw true 1 3 (List.map (aj3 .i64) x_151.1.state.Ranges)) w_169 F_170, .own true [] (.gs 2 122 (List.map y8 x_151.1.state.Queue)) w_171 F_172]) rfl ⟨(CV.rel.2 (CV.rel.1 r_158)), rfl, rfl, rfl, rfl, rfl, rfl, h_166, rfl, rfl, rfl, rfl, rfl, rfl, rfl, rfl, rfl, rfl, rfl, rfl, rfl, rfl⟩) ?_
         rintro _ ⟨F_178, rfl⟩
         exact ak9 (A1 := [.own true [] (.ptr 80 (l9 (D.o5.mk x_151.1.f x_151.1.regexes x_151.1.input x_151.1.files x_151.1.out (D.y7.mk (G.addI x_151.1.state.Op 1) x_176 x_151.1.state.Hold x_151.1.state.Flag x_151.1.state.Line x_151.1.state.Ranges x_151.1.state.Queue x_151.1.state.Done)))) (.ptr p_1 g_2 0 0) F_178]) (A2 := []) (A3 := [.jnk true [] J_154, .jnk true [] J_149]) rfl ⟨rfl, rfl, rfl, rfl⟩ (.tr rfl rfl .nil) rfl rfl
        ·replace h := iteF h h_156
         refine g_cF rfl (Bool.eq_false_iff.2 h_156) (ai6 (ak8 (aa0 (aa1 (aa2 (o6 (s_mv rfl) (aa4 ?_)))))))
         refine aa0 (ar4 ?_)
         obtain rfl := Option.some.inj h
         exact ak9 (A1 := [.own true [] (.ptr 80 (l9 x_151.1)) (.ptr p_1 g_2 0 0) F_155]) (A2 := []) (A3 := [.jnk true [] J_154, .jnk true [] J_149]) rfl ⟨rfl, rfl, rfl, rfl⟩ (.tr rfl rfl .nil) rfl rfl
       ·replace h := iteF h h_144
        refine g_cF rfl (decide_eq_false h_144) (aa1 (aa2 (o6 (s_ib rfl rfl rfl) (o6 (s_mv rfl) (aa4 (aa0 ?_))))))
        by_cases h_179 : a1.Command.Name = 98
        ·replace h := iteT h h_179
         refine g_cT rfl (decide_eq_true h_179) (aa2 (o6 (s_mv rfl) (o6 (s_fa (o' := 25) rfl rfl) (o6 (aG7 (i := 0) rfl rfl rfl) (o6 (ag4 rfl) (o6 (s_fa (o' := 6) rfl rfl) (aq6 (i := 1) rfl rfl rfl ⟨rfl, rfl⟩ (.c rfl) rfl rfl rfl ?_)))))))
         refine aa4 (ak8 (aa0 (aa1 (aa2 (o6 (s_mv rfl) (aa4 (aa0 ?_)))))))
         refine ar4 ?_
         obtain rfl := Option.some.inj h
         refine g_mv (Mv.sub (.cons (i := 1) rfl .rfl (.cons (i := 2) rfl .rfl (.cons (i := 3) rfl .rfl (.cons (i := 4) rfl .rfl (.cons (i := 5) rfl .rfl (.cons (i := 6) rfl .rfl (.cons (i := 7) rfl .rfl (.cons (i := 0) rfl .rfl .nil)))))))) rfl) ?_
         rintro _ rfl
         refine g_mv (Mv.sht (os := (l9 (D.o5.mk a0.f a0.regexes a0.input a0.files a0.out (D.y7.mk a1.To a0.state.Pattern a0.state.Hold a0.state.Flag a0.state.Line a0.state.Ranges a0.state.Queue a0.state.Done)))) (N := [.own true [] (.gs 1 88 (List.map (al3 y9) a0.regexes)) w_5 F_6, .own true [] (.gs 1 9 (List.map aa8 a0.input)) w_7 F_8, .own true [] (.ptr 96 (o7 a0.files)) w_9 F_10, .own true [] (.bb 5 a0.out) w_13 F_14, .own true [] (.rw true 1 3 (List.map (aj3 .i64) a0.state.Ranges)) w_15 F_16, .own true [] (.gs 2 122 (List.map y8 a0.state.Queue)) w_17 F_18]) rfl ⟨(CV.rel.2 (CV.rel.1 r_4)), rfl, rfl, rfl, rfl, rfl, rfl, h_12, rfl, rfl, rfl, rfl, rfl, rfl, rfl, rfl, rfl, rfl, rfl, rfl, rfl, rfl⟩) ?_
         rintro _ ⟨F_180, rfl⟩
         exact ak9 (A1 := [.own true [] (.ptr 80 (l9 (D.o5.mk a0.f a0.regexes a0.input a0.files a0.out (D.y7.mk a1.To a0.state.Pattern a0.state.Hold a0.state.Flag a0.state.Line a0.state.Ranges a0.state.Queue a0.state.Done)))) (.ptr p_1 g_2 0 0) F_180]) (A2 := []) (A3 := []) rfl ⟨rfl, rfl, rfl, rfl⟩ (.tr rfl rfl .nil) rfl rfl
        ·replace h := iteF h h_179
         refine g_cF rfl (decide_eq_false h_179) (aa1 (aa1 (aa2 (o6 (s_ib rfl rfl rfl) (o6 (s_mv rfl) (aa4 (aa0 ?_)))))))
         by_cases h_181 : a1.Command.Name = 116
         ·replace h := iteT h h_181
          refine g_cT rfl (decide_eq_true h_181) (ai6 (g_mv Mv.newJ ?_))
          rintro _ rfl
          exact b57 (subE.cons rfl (subE.cons rfl (subE.cons rfl (subE.nil _)))) (.cons (i := 0) rfl (.jnk rfl rfl) (.cons (i := 1) rfl (.cel rfl rfl) (.cons (i := 2) rfl (.cel rfl rfl) (.cons (i := 3) rfl (.own rfl rfl) (.cons (i := 4) rfl (.own rfl rfl) (.cons (i := 5) rfl (.own rfl rfl) (.cons (i := 6) rfl (.own rfl rfl) (.cons (i := 7) rfl (.own rfl rfl) (.cons (i := 8) rfl (.own rfl rfl) .nil))))))))) rfl (aA3 W S0 p_1 g_2 a1 ac1 a1 a0 (decide (a1.Command.Name = 116)) (jJ_i32 := []) (jG_i8 := g_20) (jz_i8_4 := v_21) (jz_i8_8 := v_23) (jz_i8_13 := v_25) (jz_i8_14 := v_27) (jz_i0_0 := v_3) (jb_i0_4 := b_11) (jw_i2 := w_5) (jF_i2 := F_6) (jw_i3 := w_7) (jF_i3 := F_8) (jw_i4 := w_9) (jF_i4 := F_10) (jw_i5 := w_13) (jF_i5 := F_14) (jw_i6 := w_15) (jF_i6 := F_16) (jw_i7 := w_17) (jF_i7 := F_18) ar1 (CV.rel.1 r_22) (CV.rel.1 r_24) (CV.rel.1 r_26) r_28 (CV.rel.1 r_4) h_12 _ h)
         ·replace h := iteF h h_181
          refine g_cF rfl (decide_eq_false h_181) (aa2 (o6 (s_ib rfl rfl rfl) (o6 (s_mv rfl) (aa4 (g_mv Mv.newJ ?_)))))
          rintro _ rfl
          exact b57 (subE.cons rfl (subE.cons rfl (subE.cons rfl (subE.nil _)))) (.cons (i := 0) rfl (.jnk rfl rfl) (.cons (i := 1) rfl (.cel rfl rfl) (.cons (i := 2) rfl (.cel rfl rfl) (.cons (i := 3) rfl (.own rfl rfl) (.cons (i := 4) rfl (.own rfl rfl) (.cons (i := 5) rfl (.own rfl rfl) (.cons (i := 6) rfl (.own rfl rfl) (.cons (i := 7) rfl (.own rfl rfl) (.cons (i := 8) rfl (.own rfl rfl) .nil))))))))) rfl (aA3 W S0 p_1 g_2 a1 ac1 a1 a0 (decide (a1.Command.Name = 84)) (jJ_i32 := []) (jG_i8 := g_20) (jz_i8_4 := v_21) (jz_i8_8 := v_23) (jz_i8_13 := v_25) (jz_i8_14 := v_27) (jz_i0_0 := v_3) (jb_i0_4 := b_11) (jw_i2 := w_5) (jF_i2 := F_6) (jw_i3 := w_7) (jF_i3 := F_8) (jw_i4 := w_9) (jF_i4 := F_10) (jw_i5 := w_13) (jF_i5 := F_14) (jw_i6 := w_15) (jF_i6 := F_16) (jw_i7 := w_17) (jF_i7 := F_18) ar1 (CV.rel.1 r_22) (CV.rel.1 r_24) (CV.rel.1 r_26) r_28 (CV.rel.1 r_4) h_12 _ h)
def S.ad9 (P : Program) (φ : D.o5 → D.ao2 → Option D.o5) : Prop := ∀ (a0 : D.o5) (a1 : D.ao2) (r : D.o5), φ a0 a1 = some r → bd8 P F.ad9 [.o (.ptr 80 (l9 a0)), .r (.agg (ae9 a1))] false [.o (.ptr 80 (l9 r)), .x] []
theorem br0 {P : Program} [hc : ae8 P] : S.ad9 P (ad9) := by
 intro a0 a1 r h
 refine al5 (b := K.ad9) rfl hc.ad9 rfl rfl rfl ?_
 rintro L S0 _ _ _ ⟨av0, _, F0, _, _, rfl, rfl, rfl, _, _, rfl, ⟨ac1, rfl, ar1⟩, rfl, rfl, rfl⟩
 unfold ad9 at h
 refine (show GC P _ L (⟨F.ad9, (F0 ++ []), S0, true, false⟩ : Fr) (numE 0 [av0, .agg ac1]) [.own true [] (.ptr 80 (l9 a0)) av0 F0] (RetO (⟨F.ad9, (F0 ++ []), S0, true, false⟩ : Fr) L false [av0, .agg ac1] K.ad9.res [.o (.ptr 80 (l9 r)), .x] []) from ?_)
 generalize ((F0 ++ []) : List Loc) = W
 refine aK7 (Mv.opn rfl) ?_
 rintro _ ⟨p_1, g_2, _, _, rfl, hO_19, rfl⟩
 obtain ⟨v_3, w_5, F_6, w_7, F_8, w_9, F_10, b_11, w_13, F_14, w_15, F_16, w_17, F_18, rfl, rfl, r_4, h_12⟩ := ac8 hO_19
 refine aa1 (aa2 ?_)
 obtain ⟨v_21, v_23, v_25, v_27, hE_29, r_22, r_24, r_26, r_28⟩ := aT5 ar1
 refine g_bxP (cs := [.lit (.int .i64 a1.Command.At), .lit (.int .i64 a1.Command.Guard.A.Kind), .lit (.int .i64 a1.Command.Guard.A.Line), .lit (.string (bs a1.Command.Guard.A.Text)), v_21, .lit (.int .i64 a1.Command.Guard.B.Kind), .lit (.int .i64 a1.Command.Guard.B.Line), .lit (.string (bs a1.Command.Guard.B.Text)), v_23, .lit (.bool a1.Command.Guard.Not), .lit (.int .u8 a1.Command.Name), .lit (.string (bs a1.Command.Arg)), .lit (.string (bs a1.Command.Sub.Text)), v_25, v_27, .lit (.int .i64 a1.Command.Sub.Nth), .lit (.bool a1.Command.Sub.All), .lit (.bool a1.Command.Sub.Print), .lit (.string (bs a1.Command.Sub.File)), .lit (.string (bs a1.Command.Table)), .lit (.int .i64 a1.A), .lit (.int .i64 a1.B), .lit (.int .i64 a1.Sub), .lit (.int .i64 a1.Range), .lit (.int .i64 a1.Else), .lit (.int .i64 a1.To)]) rfl hE_29 (by rw [← hE_29]; exact ab6.closed ar1) rfl fun g_20 => ?_
 refine aa4 (aa0 (aa1 (aa2 (o6 (s_mv rfl) (o6 (ag4 rfl) (o6 (s_fa (o' := 6) rfl rfl) (o6 (s_mv rfl) ?_)))))))
 refine aa4 (aa0 (aa1 (aa2 (o6 (s_fa (o' := 0) rfl rfl) (o6 (s_fa (o' := 10) rfl rfl) (o6 (aG7 (i := 0) rfl rfl rfl) (aa4 ?_)))))))
 refine aa0 (ai7 (aa1 (aa2 (o6 (s_ib rfl rfl rfl) (o6 (s_mv rfl) (aa4 (aa0 ?_)))))))
 by_cases h_30 : a1.Command.Name = 103
 ·replace h := iteT h h_30
  refine g_cT rfl (decide_eq_true h_30) (aa2 (o6 (s_mv rfl) (o6 (s_mv rfl) (o6 (ag4 rfl) (o6 (s_fa (o' := 8) rfl rfl) (o6 (ar8 (i := 1) rfl rfl rfl) (o6 (ag4 rfl) ?_)))))))
  refine o6 (s_fa (o' := 7) rfl rfl) (aq6 (i := 1) rfl rfl rfl ⟨rfl, rfl⟩ (.c rfl) rfl rfl rfl (aa4 (ak8 ?_)))
  obtain rfl := Option.some.inj h
  refine g_mv (Mv.sub (.cons (i := 1) rfl .rfl (.cons (i := 2) rfl .rfl (.cons (i := 3) rfl .rfl (.cons (i := 4) rfl .rfl (.cons (i := 5) rfl .rfl (.cons (i := 6) rfl .rfl (.cons (i := 7) rfl .rfl (.cons (i := 0) rfl .rfl .nil)))))))) rfl) ?_
  rintro _ rfl
  refine g_mv (Mv.sht (os := (l9 (D.o5.mk a0.f a0.regexes a0.input a0.files a0.out (D.y7.mk a0.state.Op a0.state.Hold a0.state.Hold a0.state.Flag a0.state.Line a0.state.Ranges a0.state.Queue a0.state.Done)))) (N := [.own true [] (.gs 1 88 (List.map (al3 y9) a0.regexes)) w_5 F_6, .own true [] (.gs 1 9 (List.map aa8 a0.input)) w_7 F_8, .own true [] (.ptr 96 (o7 a0.files)) w_9 F_10, .own true [] (.bb 5 a0.out) w_13 F_14, .own true [] (.rw true 1 3 (List.map (aj3 .i64) a0.state.Ranges)) w_15 F_16, .own true [] (.gs 2 122 (List.map y8 a0.state.Queue)) w_17 F_18]) rfl ⟨(CV.rel.2 (CV.rel.1 r_4)), rfl, rfl, rfl, rfl, rfl, rfl, h_12, rfl, rfl, rfl, rfl, rfl, rfl, rfl, rfl, rfl, rfl, rfl, rfl, rfl, rfl⟩) ?_
  rintro _ ⟨F_31, rfl⟩
  exact ak9 (A1 := [.own true [] (.ptr 80 (l9 (D.o5.mk a0.f a0.regexes a0.input a0.files a0.out (D.y7.mk a0.state.Op a0.state.Hold a0.state.Hold a0.state.Flag a0.state.Line a0.state.Ranges a0.state.Queue a0.state.Done)))) (.ptr p_1 g_2 0 0) F_31]) (A2 := []) (A3 := []) rfl ⟨rfl, rfl, rfl, rfl⟩ .nil rfl rfl
 ·replace h := iteF h h_30
  refine g_cF rfl (decide_eq_false h_30) (aa1 (aa2 (o6 (s_ib rfl rfl rfl) (o6 (s_mv rfl) (aa4 (aa0 ?_))))))
  by_cases h_32 : a1.Command.Name = 71
  ·replace h := iteT h h_32
   refine g_cT rfl (decide_eq_true h_32) (av3 (o6 (s_mv rfl) (o6 (ag4 rfl) (o6 (s_fa (o' := 7) rfl rfl) (o6 (ar8 (i := 1) rfl rfl rfl) (o6 (s_mv rfl) (o6 (ag4 rfl) ?_)))))))
   refine o6 (s_fa (o' := 8) rfl rfl) (o6 (ar8 (i := 1) rfl rfl rfl) ?_)
   obtain ⟨x_33, e_34, h⟩ := ae5 h
   refine o6 (cq5 rfl rfl e_34) ?_
   obtain ⟨x_35, e_36, h⟩ := ae5 h
   refine o6 (cq5 rfl rfl e_36) (o6 (ag4 rfl) (o6 (s_fa (o' := 7) rfl rfl) (aq6 (i := 1) rfl rfl rfl ⟨rfl, rfl⟩ (.c rfl) rfl rfl rfl (aG1 rfl (ak8 ?_)))))
   obtain rfl := Option.some.inj h
   refine g_mv (Mv.sub (.cons (i := 1) rfl .rfl (.cons (i := 2) rfl .rfl (.cons (i := 3) rfl .rfl (.cons (i := 4) rfl .rfl (.cons (i := 5) rfl .rfl (.cons (i := 6) rfl .rfl (.cons (i := 7) rfl .rfl (.cons (i := 0) rfl .rfl .nil)))))))) rfl) ?_
   rintro _ rfl
   refine g_mv (Mv.sht (os := (l9 (D.o5.mk a0.f a0.regexes a0.input a0.files a0.out (D.y7.mk a0.state.Op x_35 a0.state.Hold a0.state.Flag a0.state.Line a0.state.Ranges a0.state.Queue a0.state.Done)))) (N := [.own true [] (.gs 1 88 (List.map (al3 y9) a0.regexes)) w_5 F_6, .own true [] (.gs 1 9 (List.map aa8 a0.input)) w_7 F_8, .own true [] (.ptr 96 (o7 a0.files)) w_9 F_10, .own true [] (.bb 5 a0.out) w_13 F_14, .own true [] (.rw true 1 3 (List.map (aj3 .i64) a0.state.Ranges)) w_15 F_16, .own true [] (.gs 2 122 (List.map y8 a0.state.Queue)) w_17 F_18]) rfl ⟨(CV.rel.2 (CV.rel.1 r_4)), rfl, rfl, rfl, rfl, rfl, rfl, h_12, rfl, rfl, rfl, rfl, rfl, rfl, rfl, rfl, rfl, rfl, rfl, rfl, rfl, rfl⟩) ?_
   rintro _ ⟨F_37, rfl⟩
   exact ak9 (A1 := [.own true [] (.ptr 80 (l9 (D.o5.mk a0.f a0.regexes a0.input a0.files a0.out (D.y7.mk a0.state.Op x_35 a0.state.Hold a0.state.Flag a0.state.Line a0.state.Ranges a0.state.Queue a0.state.Done)))) (.ptr p_1 g_2 0 0) F_37]) (A2 := []) (A3 := []) rfl ⟨rfl, rfl, rfl, rfl⟩ .nil rfl rfl
  ·replace h := iteF h h_32
   refine g_cF rfl (decide_eq_false h_32) (aa1 (aa2 (o6 (s_ib rfl rfl rfl) (o6 (s_mv rfl) (aa4 (aa0 ?_))))))
   by_cases h_38 : a1.Command.Name = 104
   ·replace h := iteT h h_38
    refine g_cT rfl (decide_eq_true h_38) (aa2 (o6 (s_mv rfl) (o6 (s_mv rfl) (o6 (ag4 rfl) (o6 (s_fa (o' := 7) rfl rfl) (o6 (ar8 (i := 1) rfl rfl rfl) (o6 (ag4 rfl) ?_)))))))
    refine o6 (s_fa (o' := 8) rfl rfl) (aq6 (i := 1) rfl rfl rfl ⟨rfl, rfl⟩ (.c rfl) rfl rfl rfl (aa4 (ak8 ?_)))
    obtain rfl := Option.some.inj h
    refine g_mv (Mv.sub (.cons (i := 1) rfl .rfl (.cons (i := 2) rfl .rfl (.cons (i := 3) rfl .rfl (.cons (i := 4) rfl .rfl (.cons (i := 5) rfl .rfl (.cons (i := 6) rfl .rfl (.cons (i := 7) rfl .rfl (.cons (i := 0) rfl .rfl .nil)))))))) rfl) ?_
    rintro _ rfl
    refine g_mv (Mv.sht (os := (l9 (D.o5.mk a0.f a0.regexes a0.input a0.files a0.out (D.y7.mk a0.state.Op a0.state.Pattern a0.state.Pattern a0.state.Flag a0.state.Line a0.state.Ranges a0.state.Queue a0.state.Done)))) (N := [.own true [] (.gs 1 88 (List.map (al3 y9) a0.regexes)) w_5 F_6, .own true [] (.gs 1 9 (List.map aa8 a0.input)) w_7 F_8, .own true [] (.ptr 96 (o7 a0.files)) w_9 F_10, .own true [] (.bb 5 a0.out) w_13 F_14, .own true [] (.rw true 1 3 (List.map (aj3 .i64) a0.state.Ranges)) w_15 F_16, .own true [] (.gs 2 122 (List.map y8 a0.state.Queue)) w_17 F_18]) rfl ⟨(CV.rel.2 (CV.rel.1 r_4)), rfl, rfl, rfl, rfl, rfl, rfl, h_12, rfl, rfl, rfl, rfl, rfl, rfl, rfl, rfl, rfl, rfl, rfl, rfl, rfl, rfl⟩) ?_
    rintro _ ⟨F_39, rfl⟩
    exact ak9 (A1 := [.own true [] (.ptr 80 (l9 (D.o5.mk a0.f a0.regexes a0.input a0.files a0.out (D.y7.mk a0.state.Op a0.state.Pattern a0.state.Pattern a0.state.Flag a0.state.Line a0.state.Ranges a0.state.Queue a0.state.Done)))) (.ptr p_1 g_2 0 0) F_39]) (A2 := []) (A3 := []) rfl ⟨rfl, rfl, rfl, rfl⟩ .nil rfl rfl
   ·replace h := iteF h h_38
    refine g_cF rfl (decide_eq_false h_38) (aa1 (aa2 (o6 (s_ib rfl rfl rfl) (o6 (s_mv rfl) (aa4 (aa0 ?_))))))
    by_cases h_40 : a1.Command.Name = 72
    ·replace h := iteT h h_40
     refine g_cT rfl (decide_eq_true h_40) (av3 (o6 (s_mv rfl) (o6 (ag4 rfl) (o6 (s_fa (o' := 8) rfl rfl) (o6 (ar8 (i := 1) rfl rfl rfl) (o6 (s_mv rfl) (o6 (ag4 rfl) ?_)))))))
     refine o6 (s_fa (o' := 7) rfl rfl) (o6 (ar8 (i := 1) rfl rfl rfl) ?_)
     obtain ⟨x_41, e_42, h⟩ := ae5 h
     refine o6 (cq5 rfl rfl e_42) ?_
     obtain ⟨x_43, e_44, h⟩ := ae5 h
     refine o6 (cq5 rfl rfl e_44) (o6 (ag4 rfl) (o6 (s_fa (o' := 8) rfl rfl) (aq6 (i := 1) rfl rfl rfl ⟨rfl, rfl⟩ (.c rfl) rfl rfl rfl (aG1 rfl (ak8 ?_)))))
     obtain rfl := Option.some.inj h
     refine g_mv (Mv.sub (.cons (i := 1) rfl .rfl (.cons (i := 2) rfl .rfl (.cons (i := 3) rfl .rfl (.cons (i := 4) rfl .rfl (.cons (i := 5) rfl .rfl (.cons (i := 6) rfl .rfl (.cons (i := 7) rfl .rfl (.cons (i := 0) rfl .rfl .nil)))))))) rfl) ?_
     rintro _ rfl
     refine g_mv (Mv.sht (os := (l9 (D.o5.mk a0.f a0.regexes a0.input a0.files a0.out (D.y7.mk a0.state.Op a0.state.Pattern x_43 a0.state.Flag a0.state.Line a0.state.Ranges a0.state.Queue a0.state.Done)))) (N := [.own true [] (.gs 1 88 (List.map (al3 y9) a0.regexes)) w_5 F_6, .own true [] (.gs 1 9 (List.map aa8 a0.input)) w_7 F_8, .own true [] (.ptr 96 (o7 a0.files)) w_9 F_10, .own true [] (.bb 5 a0.out) w_13 F_14, .own true [] (.rw true 1 3 (List.map (aj3 .i64) a0.state.Ranges)) w_15 F_16, .own true [] (.gs 2 122 (List.map y8 a0.state.Queue)) w_17 F_18]) rfl ⟨(CV.rel.2 (CV.rel.1 r_4)), rfl, rfl, rfl, rfl, rfl, rfl, h_12, rfl, rfl, rfl, rfl, rfl, rfl, rfl, rfl, rfl, rfl, rfl, rfl, rfl, rfl⟩) ?_
     rintro _ ⟨F_45, rfl⟩
     exact ak9 (A1 := [.own true [] (.ptr 80 (l9 (D.o5.mk a0.f a0.regexes a0.input a0.files a0.out (D.y7.mk a0.state.Op a0.state.Pattern x_43 a0.state.Flag a0.state.Line a0.state.Ranges a0.state.Queue a0.state.Done)))) (.ptr p_1 g_2 0 0) F_45]) (A2 := []) (A3 := []) rfl ⟨rfl, rfl, rfl, rfl⟩ .nil rfl rfl
    ·replace h := iteF h h_40
     refine g_cF rfl (decide_eq_false h_40) (aa1 (aa2 (o6 (s_ib rfl rfl rfl) (o6 (s_mv rfl) (aa4 (aa0 ?_))))))
     by_cases h_46 : a1.Command.Name = 120
     ·replace h := iteT h h_46
      refine g_cT rfl (decide_eq_true h_46) (av3 (o6 (s_mv rfl) (o6 (s_mv rfl) (o6 (s_mv rfl) (o6 (ag4 rfl) (o6 (s_fa (o' := 8) rfl rfl) (o6 (ar8 (i := 1) rfl rfl rfl) ?_)))))))
      refine o6 (s_mv rfl) (o6 (ag4 rfl) (o6 (s_fa (o' := 7) rfl rfl) (o6 (ar8 (i := 1) rfl rfl rfl) (o6 (ag4 rfl) (o6 (s_fa (o' := 7) rfl rfl) (aq6 (i := 1) rfl rfl rfl ⟨rfl, rfl⟩ (.c rfl) rfl rfl rfl (o6 (ag4 rfl) ?_)))))))
      refine o6 (s_fa (o' := 8) rfl rfl) (aq6 (i := 1) rfl rfl rfl ⟨rfl, rfl⟩ (.c rfl) rfl rfl rfl (aG1 rfl (ak8 ?_)))
      obtain rfl := Option.some.inj h
      refine g_mv (Mv.sub (.cons (i := 1) rfl .rfl (.cons (i := 2) rfl .rfl (.cons (i := 3) rfl .rfl (.cons (i := 4) rfl .rfl (.cons (i := 5) rfl .rfl (.cons (i := 6) rfl .rfl (.cons (i := 7) rfl .rfl (.cons (i := 0) rfl .rfl .nil)))))))) rfl) ?_
      rintro _ rfl
      refine g_mv (Mv.sht (os := (l9 (D.o5.mk a0.f a0.regexes a0.input a0.files a0.out (D.y7.mk a0.state.Op a0.state.Hold a0.state.Pattern a0.state.Flag a0.state.Line a0.state.Ranges a0.state.Queue a0.state.Done)))) (N := [.own true [] (.gs 1 88 (List.map (al3 y9) a0.regexes)) w_5 F_6, .own true [] (.gs 1 9 (List.map aa8 a0.input)) w_7 F_8, .own true [] (.ptr 96 (o7 a0.files)) w_9 F_10, .own true [] (.bb 5 a0.out) w_13 F_14, .own true [] (.rw true 1 3 (List.map (aj3 .i64) a0.state.Ranges)) w_15 F_16, .own true [] (.gs 2 122 (List.map y8 a0.state.Queue)) w_17 F_18]) rfl ⟨(CV.rel.2 (CV.rel.1 r_4)), rfl, rfl, rfl, rfl, rfl, rfl, h_12, rfl, rfl, rfl, rfl, rfl, rfl, rfl, rfl, rfl, rfl, rfl, rfl, rfl, rfl⟩) ?_
      rintro _ ⟨F_47, rfl⟩
      exact ak9 (A1 := [.own true [] (.ptr 80 (l9 (D.o5.mk a0.f a0.regexes a0.input a0.files a0.out (D.y7.mk a0.state.Op a0.state.Hold a0.state.Pattern a0.state.Flag a0.state.Line a0.state.Ranges a0.state.Queue a0.state.Done)))) (.ptr p_1 g_2 0 0) F_47]) (A2 := []) (A3 := []) rfl ⟨rfl, rfl, rfl, rfl⟩ .nil rfl rfl
     ·replace h := iteF h h_46
      refine g_cF rfl (decide_eq_false h_46) (aa1 (aa2 (o6 (s_ib rfl rfl rfl) (o6 (s_mv rfl) (aa4 (aa0 ?_))))))
      by_cases h_48 : a1.Command.Name = 122
      ·replace h := iteT h h_48
       refine g_cT rfl (decide_eq_true h_48) (aa2 (o6 (s_mv rfl) (o6 (ag4 rfl) (o6 (s_fa (o' := 7) rfl rfl) (aq6 (i := 1) rfl rfl rfl ⟨rfl, rfl⟩ (.c rfl) rfl rfl rfl (aa4 (ak8 ?_)))))))
       obtain rfl := Option.some.inj h
       refine g_mv (Mv.sub (.cons (i := 1) rfl .rfl (.cons (i := 2) rfl .rfl (.cons (i := 3) rfl .rfl (.cons (i := 4) rfl .rfl (.cons (i := 5) rfl .rfl (.cons (i := 6) rfl .rfl (.cons (i := 7) rfl .rfl (.cons (i := 0) rfl .rfl .nil)))))))) rfl) ?_
       rintro _ rfl
       refine g_mv (Mv.sht (os := (l9 (D.o5.mk a0.f a0.regexes a0.input a0.files a0.out (D.y7.mk a0.state.Op [] a0.state.Hold a0.state.Flag a0.state.Line a0.state.Ranges a0.state.Queue a0.state.Done)))) (N := [.own true [] (.gs 1 88 (List.map (al3 y9) a0.regexes)) w_5 F_6, .own true [] (.gs 1 9 (List.map aa8 a0.input)) w_7 F_8, .own true [] (.ptr 96 (o7 a0.files)) w_9 F_10, .own true [] (.bb 5 a0.out) w_13 F_14, .own true [] (.rw true 1 3 (List.map (aj3 .i64) a0.state.Ranges)) w_15 F_16, .own true [] (.gs 2 122 (List.map y8 a0.state.Queue)) w_17 F_18]) rfl ⟨(CV.rel.2 (CV.rel.1 r_4)), rfl, rfl, rfl, rfl, rfl, rfl, h_12, rfl, rfl, rfl, rfl, rfl, rfl, rfl, rfl, rfl, rfl, rfl, rfl, rfl, rfl⟩) ?_
       rintro _ ⟨F_49, rfl⟩
       exact ak9 (A1 := [.own true [] (.ptr 80 (l9 (D.o5.mk a0.f a0.regexes a0.input a0.files a0.out (D.y7.mk a0.state.Op [] a0.state.Hold a0.state.Flag a0.state.Line a0.state.Ranges a0.state.Queue a0.state.Done)))) (.ptr p_1 g_2 0 0) F_49]) (A2 := []) (A3 := []) rfl ⟨rfl, rfl, rfl, rfl⟩ .nil rfl rfl
      ·replace h := iteF h h_48
       refine g_cF rfl (decide_eq_false h_48) (aa1 (aa2 (o6 (s_ib rfl rfl rfl) (o6 (s_mv rfl) (aa4 (aa0 ?_))))))
       by_cases h_50 : a1.Command.Name = 121
       ·replace h := iteT h h_50
        refine g_cT rfl (decide_eq_true h_50) (av3 (o6 (s_mv rfl) (o6 (s_mv rfl) (o6 (ag4 rfl) (o6 (s_fa (o' := 7) rfl rfl) (o6 (ar8 (i := 1) rfl rfl rfl) (o6 (s_fa (o' := 0) rfl rfl) ?_)))))))
        refine o6 (s_fa (o' := 19) rfl rfl) (o6 (aG7 (i := 0) rfl rfl rfl) ?_)
        cases h
       ·replace h := iteF h h_50
        refine g_cF rfl (decide_eq_false h_50) (aa1 (aa2 (o6 (s_ib rfl rfl rfl) (o6 (s_mv rfl) (aa4 (aa0 ?_))))))
        by_cases h_51 : a1.Command.Name = 115
        ·replace h := iteT h h_51
         refine g_cT rfl (decide_eq_true h_51) (aa2 (o6 (s_mv rfl) (o6 (bv1 (i := 0) rfl rfl rfl rfl) ?_)))
         cases h
        ·replace h := iteF h h_51
         refine g_cF rfl (decide_eq_false h_51) (ai6 (ak8 ?_))
         obtain rfl := Option.some.inj h
         refine g_mv (Mv.sub (.cons (i := 1) rfl .rfl (.cons (i := 2) rfl .rfl (.cons (i := 3) rfl .rfl (.cons (i := 4) rfl .rfl (.cons (i := 5) rfl .rfl (.cons (i := 6) rfl .rfl (.cons (i := 7) rfl .rfl (.cons (i := 0) rfl .rfl .nil)))))))) rfl) ?_
         rintro _ rfl
         refine g_mv (Mv.sht (os := (l9 a0)) (N := [.own true [] (.gs 1 88 (List.map (al3 y9) a0.regexes)) w_5 F_6, .own true [] (.gs 1 9 (List.map aa8 a0.input)) w_7 F_8, .own true [] (.ptr 96 (o7 a0.files)) w_9 F_10, .own true [] (.bb 5 a0.out) w_13 F_14, .own true [] (.rw true 1 3 (List.map (aj3 .i64) a0.state.Ranges)) w_15 F_16, .own true [] (.gs 2 122 (List.map y8 a0.state.Queue)) w_17 F_18]) rfl ⟨(CV.rel.2 (CV.rel.1 r_4)), rfl, rfl, rfl, rfl, rfl, rfl, h_12, rfl, rfl, rfl, rfl, rfl, rfl, rfl, rfl, rfl, rfl, rfl, rfl, rfl, rfl⟩) ?_
         rintro _ ⟨F_52, rfl⟩
         exact ak9 (A1 := [.own true [] (.ptr 80 (l9 a0)) (.ptr p_1 g_2 0 0) F_52]) (A2 := []) (A3 := []) rfl ⟨rfl, rfl, rfl, rfl⟩ .nil rfl rfl
def S.ad8 (P : Program) (φ : D.o5 → D.ao2 → Option D.o5) : Prop := ∀ (a0 : D.o5) (a1 : D.ao2) (r : D.o5), φ a0 a1 = some r → bd8 P F.ad8 [.o (.ptr 80 (l9 a0)), .r (.agg (ae9 a1))] false [.o (.ptr 80 (l9 r)), .x] []
theorem bu0 {P : Program} [hc : ae8 P] : S.ad8 P (ad8) := by
 intro a0 a1 r h
 refine al5 (b := K.ad8) rfl hc.ad8 rfl rfl rfl ?_
 rintro L S0 _ _ _ ⟨av0, _, F0, _, _, rfl, rfl, rfl, _, _, rfl, ⟨ac1, rfl, ar1⟩, rfl, rfl, rfl⟩
 unfold ad8 at h
 refine (show GC P _ L (⟨F.ad8, (F0 ++ []), S0, true, false⟩ : Fr) (numE 0 [av0, .agg ac1]) [.own true [] (.ptr 80 (l9 a0)) av0 F0] (RetO (⟨F.ad8, (F0 ++ []), S0, true, false⟩ : Fr) L false [av0, .agg ac1] K.ad8.res [.o (.ptr 80 (l9 r)), .x] []) from ?_)
 generalize ((F0 ++ []) : List Loc) = W
 refine aK7 (Mv.opn rfl) ?_
 rintro _ ⟨p_1, g_2, _, _, rfl, hO_19, rfl⟩
 obtain ⟨v_3, w_5, F_6, w_7, F_8, w_9, F_10, b_11, w_13, F_14, w_15, F_16, w_17, F_18, rfl, rfl, r_4, h_12⟩ := ac8 hO_19
 refine aa1 (aa2 ?_)
 obtain ⟨v_21, v_23, v_25, v_27, hE_29, r_22, r_24, r_26, r_28⟩ := aT5 ar1
 refine g_bxP (cs := [.lit (.int .i64 a1.Command.At), .lit (.int .i64 a1.Command.Guard.A.Kind), .lit (.int .i64 a1.Command.Guard.A.Line), .lit (.string (bs a1.Command.Guard.A.Text)), v_21, .lit (.int .i64 a1.Command.Guard.B.Kind), .lit (.int .i64 a1.Command.Guard.B.Line), .lit (.string (bs a1.Command.Guard.B.Text)), v_23, .lit (.bool a1.Command.Guard.Not), .lit (.int .u8 a1.Command.Name), .lit (.string (bs a1.Command.Arg)), .lit (.string (bs a1.Command.Sub.Text)), v_25, v_27, .lit (.int .i64 a1.Command.Sub.Nth), .lit (.bool a1.Command.Sub.All), .lit (.bool a1.Command.Sub.Print), .lit (.string (bs a1.Command.Sub.File)), .lit (.string (bs a1.Command.Table)), .lit (.int .i64 a1.A), .lit (.int .i64 a1.B), .lit (.int .i64 a1.Sub), .lit (.int .i64 a1.Range), .lit (.int .i64 a1.Else), .lit (.int .i64 a1.To)]) rfl hE_29 (by rw [← hE_29]; exact ab6.closed ar1) rfl fun g_20 => ?_
 refine aa4 (aa0 (aa1 (aa2 (o6 (s_mv rfl) (o6 (ag4 rfl) (o6 (s_fa (o' := 6) rfl rfl) (o6 (s_mv rfl) ?_)))))))
 refine aa4 (aa0 (aa1 (aa2 (o6 (s_fa (o' := 0) rfl rfl) (o6 (s_fa (o' := 11) rfl rfl) (o6 (aG7 (i := 0) rfl rfl rfl) (o6 (s_mv rfl) ?_)))))))
 refine aa4 (aa0 (aa1 (aa2 (o6 (s_fa (o' := 0) rfl rfl) (o6 (s_fa (o' := 10) rfl rfl) (o6 (aG7 (i := 0) rfl rfl rfl) (aa4 ?_)))))))
 refine aa0 (ai7 (aa1 (aa2 (o6 (s_ib rfl rfl rfl) (o6 (s_mv rfl) (aa4 (aa0 ?_)))))))
 by_cases h_30 : a1.Command.Name = 61
 ·replace h := iteT h h_30
  refine g_cT rfl (decide_eq_true h_30) (aa2 (o6 (s_mv rfl) (o6 (s_mv rfl) (o6 (ag4 rfl) (o6 (s_fa (o' := 10) rfl rfl) (o6 (ar8 (i := 1) rfl rfl rfl) ?_))))))
  cases h
 ·replace h := iteF h h_30
  refine g_cF rfl (decide_eq_false h_30) (aa1 (aa2 (o6 (s_ib rfl rfl rfl) (o6 (s_mv rfl) (aa4 (aa0 ?_))))))
  by_cases h_31 : a1.Command.Name = 97
  ·replace h := iteT h h_31
   refine g_cT rfl (decide_eq_true h_31) (aa2 (o6 (s_mv rfl) (o6 (s_mv rfl) (o6 (ag4 rfl) (o6 (s_fa (o' := 12) rfl rfl) (o6 (ar8 (i := 1) rfl rfl rfl) (o6 (s_mv rfl) ?_)))))))
   refine ah6 (cK1 (M' := y8 (D.an4.mk false a1.Command.Arg)) bT0 (.cons (Xs := [.bool false]) rfl (bo3 _) rfl rfl (.cons (Xs := [.str a1.Command.Arg]) rfl (bk3 _) rfl rfl (.nil _))) rfl) ?_
   rintro _ ⟨c_32, rfl, r_33, kf_34⟩
   refine ah6 (cE4 (es' := List.map y8 [(D.an4.mk false a1.Command.Arg)]) rfl (.cons (Xs := y8 (D.an4.mk false a1.Command.Arg)) rfl r_33 rfl .nil) rfl) ?_
   rintro v_35 ⟨r_36, k_37⟩
   obtain ⟨x_38, e_39, h⟩ := ae5 h
   refine g_apP (i := 7) (c := y8) rfl rfl rfl rfl (RelC.toA r_36) rfl rfl rfl e_39 fun w_40 F_41 => ?_
   refine o6 (ag4 rfl) (o6 (s_fa (o' := 12) rfl rfl) ?_)
   refine bP3 (i := 7) (es := List.map y8 x_38) rfl fun ra_42 => ?_
   refine g_co (i := 7) rfl fun hc_43 => ?_
   refine aq6 (i := 1) rfl rfl rfl (ra_42.cells) hc_43 rfl rfl rfl (aa4 (ak8 ?_))
   obtain rfl := Option.some.inj h
   refine g_mv (Mv.sub (.cons (i := 1) rfl .rfl (.cons (i := 2) rfl .rfl (.cons (i := 3) rfl .rfl (.cons (i := 4) rfl .rfl (.cons (i := 5) rfl .rfl (.cons (i := 6) rfl .rfl (.cons (i := 7) rfl .rfl (.cons (i := 0) rfl .rfl .nil)))))))) rfl) ?_
   rintro _ rfl
   refine g_mv (Mv.sht (os := (l9 (D.o5.mk a0.f a0.regexes a0.input a0.files a0.out (D.y7.mk a0.state.Op a0.state.Pattern a0.state.Hold a0.state.Flag a0.state.Line a0.state.Ranges x_38 a0.state.Done)))) (N := [.own true [] (.gs 1 88 (List.map (al3 y9) a0.regexes)) w_5 F_6, .own true [] (.gs 1 9 (List.map aa8 a0.input)) w_7 F_8, .own true [] (.ptr 96 (o7 a0.files)) w_9 F_10, .own true [] (.bb 5 a0.out) w_13 F_14, .own true [] (.rw true 1 3 (List.map (aj3 .i64) a0.state.Ranges)) w_15 F_16, .own true [37] (.gs 2 122 (List.map y8 x_38)) w_40 F_41]) rfl ⟨(CV.rel.2 (CV.rel.1 r_4)), rfl, rfl, rfl, rfl, rfl, rfl, h_12, rfl, rfl, rfl, rfl, rfl, rfl, rfl, rfl, rfl, rfl, rfl, rfl, rfl, rfl⟩) ?_
   rintro _ ⟨F_44, rfl⟩
   exact ak9 (A1 := [.own true [37] (.ptr 80 (l9 (D.o5.mk a0.f a0.regexes a0.input a0.files a0.out (D.y7.mk a0.state.Op a0.state.Pattern a0.state.Hold a0.state.Flag a0.state.Line a0.state.Ranges x_38 a0.state.Done)))) (.ptr p_1 g_2 0 0) F_44]) (A2 := []) (A3 := []) rfl ⟨rfl, rfl, rfl, rfl⟩ .nil rfl rfl
  ·replace h := iteF h h_31
   refine g_cF rfl (decide_eq_false h_31) (aa1 (aa2 (o6 (s_ib rfl rfl rfl) (o6 (s_mv rfl) (aa4 (aa0 ?_))))))
   by_cases h_45 : a1.Command.Name = 114
   ·replace h := iteT h h_45
    refine g_cT rfl (decide_eq_true h_45) (aa2 (o6 (s_mv rfl) (o6 (s_mv rfl) (o6 (ag4 rfl) (o6 (s_fa (o' := 12) rfl rfl) (o6 (ar8 (i := 1) rfl rfl rfl) (o6 (s_mv rfl) ?_)))))))
    refine ah6 (cK1 (M' := y8 (D.an4.mk true a1.Command.Arg)) bT0 (.cons (Xs := [.bool true]) rfl (bo3 _) rfl rfl (.cons (Xs := [.str a1.Command.Arg]) rfl (bk3 _) rfl rfl (.nil _))) rfl) ?_
    rintro _ ⟨c_46, rfl, r_47, kf_48⟩
    refine ah6 (cE4 (es' := List.map y8 [(D.an4.mk true a1.Command.Arg)]) rfl (.cons (Xs := y8 (D.an4.mk true a1.Command.Arg)) rfl r_47 rfl .nil) rfl) ?_
    rintro v_49 ⟨r_50, k_51⟩
    obtain ⟨x_52, e_53, h⟩ := ae5 h
    refine g_apP (i := 7) (c := y8) rfl rfl rfl rfl (RelC.toA r_50) rfl rfl rfl e_53 fun w_54 F_55 => ?_
    refine o6 (ag4 rfl) (o6 (s_fa (o' := 12) rfl rfl) ?_)
    refine bP3 (i := 7) (es := List.map y8 x_52) rfl fun ra_56 => ?_
    refine g_co (i := 7) rfl fun hc_57 => ?_
    refine aq6 (i := 1) rfl rfl rfl (ra_56.cells) hc_57 rfl rfl rfl (aa4 (ak8 ?_))
    obtain rfl := Option.some.inj h
    refine g_mv (Mv.sub (.cons (i := 1) rfl .rfl (.cons (i := 2) rfl .rfl (.cons (i := 3) rfl .rfl (.cons (i := 4) rfl .rfl (.cons (i := 5) rfl .rfl (.cons (i := 6) rfl .rfl (.cons (i := 7) rfl .rfl (.cons (i := 0) rfl .rfl .nil)))))))) rfl) ?_
    rintro _ rfl
    refine g_mv (Mv.sht (os := (l9 (D.o5.mk a0.f a0.regexes a0.input a0.files a0.out (D.y7.mk a0.state.Op a0.state.Pattern a0.state.Hold a0.state.Flag a0.state.Line a0.state.Ranges x_52 a0.state.Done)))) (N := [.own true [] (.gs 1 88 (List.map (al3 y9) a0.regexes)) w_5 F_6, .own true [] (.gs 1 9 (List.map aa8 a0.input)) w_7 F_8, .own true [] (.ptr 96 (o7 a0.files)) w_9 F_10, .own true [] (.bb 5 a0.out) w_13 F_14, .own true [] (.rw true 1 3 (List.map (aj3 .i64) a0.state.Ranges)) w_15 F_16, .own true [50] (.gs 2 122 (List.map y8 x_52)) w_54 F_55]) rfl ⟨(CV.rel.2 (CV.rel.1 r_4)), rfl, rfl, rfl, rfl, rfl, rfl, h_12, rfl, rfl, rfl, rfl, rfl, rfl, rfl, rfl, rfl, rfl, rfl, rfl, rfl, rfl⟩) ?_
    rintro _ ⟨F_58, rfl⟩
    exact ak9 (A1 := [.own true [50] (.ptr 80 (l9 (D.o5.mk a0.f a0.regexes a0.input a0.files a0.out (D.y7.mk a0.state.Op a0.state.Pattern a0.state.Hold a0.state.Flag a0.state.Line a0.state.Ranges x_52 a0.state.Done)))) (.ptr p_1 g_2 0 0) F_58]) (A2 := []) (A3 := []) rfl ⟨rfl, rfl, rfl, rfl⟩ .nil rfl rfl
   ·replace h := iteF h h_45
    refine g_cF rfl (decide_eq_false h_45) (aa1 (aa2 (o6 (s_ib rfl rfl rfl) (o6 (s_mv rfl) (aa4 (aa0 ?_))))))
    by_cases h_59 : a1.Command.Name = 105
    ·replace h := iteT h h_59
     refine g_cT rfl (decide_eq_true h_59) (aa2 (o6 (s_mv rfl) (o6 (ag4 rfl) (o6 (s_fa (o' := 4) rfl rfl) (o6 (s_mv rfl) (aq4 (Mv.sub (.cons (i := 1) rfl .rfl (.cons (i := 5) rfl .rfl (.cons (i := 0) rfl .rfl (.cons (i := 2) rfl .rfl (.cons (i := 3) rfl .rfl (.cons (i := 4) rfl .rfl (.cons (i := 6) rfl .rfl (.cons (i := 7) rfl .rfl .nil)))))))) rfl) ?_))))))
     rintro _ rfl
     obtain ⟨x_60, e_61, h⟩ := ae5 h
     refine ce9 hc.bld rfl rfl rfl rfl rfl h_12 rfl rfl hc.lies_80_4 rfl e_61 fun v_62 b_63 w_64 F_65 h_66 => ?_
     refine aa4 (ak8 ?_)
     obtain rfl := Option.some.inj h
     refine g_mv (Mv.sub (.cons (i := 0) rfl .rfl (.cons (i := 3) rfl .rfl (.cons (i := 4) rfl .rfl (.cons (i := 5) rfl .rfl (.cons (i := 1) rfl .rfl (.cons (i := 6) rfl .rfl (.cons (i := 7) rfl .rfl (.cons (i := 2) rfl .rfl .nil)))))))) rfl) ?_
     rintro _ rfl
     refine g_mv (Mv.sht (os := (l9 (D.o5.mk a0.f a0.regexes a0.input a0.files x_60 a0.state))) (N := [.own true [] (.gs 1 88 (List.map (al3 y9) a0.regexes)) w_5 F_6, .own true [] (.gs 1 9 (List.map aa8 a0.input)) w_7 F_8, .own true [] (.ptr 96 (o7 a0.files)) w_9 F_10, .own true [] (.bb 5 x_60) w_64 F_65, .own true [] (.rw true 1 3 (List.map (aj3 .i64) a0.state.Ranges)) w_15 F_16, .own true [] (.gs 2 122 (List.map y8 a0.state.Queue)) w_17 F_18]) rfl ⟨(CV.rel.2 (CV.rel.1 r_4)), rfl, rfl, rfl, rfl, rfl, rfl, h_66, rfl, rfl, rfl, rfl, rfl, rfl, rfl, rfl, rfl, rfl, rfl, rfl, rfl, rfl⟩) ?_
     rintro _ ⟨F_67, rfl⟩
     exact ak9 (A1 := [.own true [] (.ptr 80 (l9 (D.o5.mk a0.f a0.regexes a0.input a0.files x_60 a0.state))) (.ptr p_1 g_2 0 0) F_67]) (A2 := []) (A3 := []) rfl ⟨rfl, rfl, rfl, rfl⟩ .nil rfl rfl
    ·replace h := iteF h h_59
     refine g_cF rfl (decide_eq_false h_59) (aa1 (aa2 (o6 (s_ib rfl rfl rfl) (o6 (s_mv rfl) (aa4 (aa0 ?_))))))
     by_cases h_68 : a1.Command.Name = 108
     ·replace h := iteT h h_68
      refine g_cT rfl (decide_eq_true h_68) (aa2 (o6 (s_mv rfl) (o6 (s_mv rfl) (o6 (ag4 rfl) (o6 (s_fa (o' := 7) rfl rfl) (o6 (ar8 (i := 1) rfl rfl rfl) ?_))))))
      cases h
     ·replace h := iteF h h_68
      refine g_cF rfl (decide_eq_false h_68) (aa1 (aa2 (o6 (s_ib rfl rfl rfl) (o6 (s_mv rfl) (aa4 (aa0 ?_))))))
      by_cases h_69 : a1.Command.Name = 112
      ·replace h := iteT h h_69
       refine g_cT rfl (decide_eq_true h_69) (aa2 (o6 (s_mv rfl) (o6 (s_mv rfl) (o6 (ag4 rfl) (o6 (s_fa (o' := 7) rfl rfl) (o6 (ar8 (i := 1) rfl rfl rfl) (aq4 (Mv.sub (.cons (i := 1) rfl .rfl (.cons (i := 2) rfl .rfl (.cons (i := 3) rfl .rfl (.cons (i := 4) rfl .rfl (.cons (i := 5) rfl .rfl (.cons (i := 6) rfl .rfl (.cons (i := 7) rfl .rfl (.cons (i := 0) rfl .rfl .nil)))))))) rfl) ?_)))))))
       rintro _ rfl
       refine aq4 (Mv.sht (os := (l9 a0)) (N := [.own true [] (.gs 1 88 (List.map (al3 y9) a0.regexes)) w_5 F_6, .own true [] (.gs 1 9 (List.map aa8 a0.input)) w_7 F_8, .own true [] (.ptr 96 (o7 a0.files)) w_9 F_10, .own true [] (.bb 5 a0.out) w_13 F_14, .own true [] (.rw true 1 3 (List.map (aj3 .i64) a0.state.Ranges)) w_15 F_16, .own true [] (.gs 2 122 (List.map y8 a0.state.Queue)) w_17 F_18]) rfl ⟨(CV.rel.2 (CV.rel.1 r_4)), rfl, rfl, rfl, rfl, rfl, rfl, h_12, rfl, rfl, rfl, rfl, rfl, rfl, rfl, rfl, rfl, rfl, rfl, rfl, rfl, rfl⟩) ?_
       rintro _ ⟨F_70, rfl⟩
       obtain ⟨x_71, e_72, h⟩ := ae5 h
       refine aN0 (A1 := [.own true [] (.ptr 80 (l9 a0)) (.ptr p_1 g_2 0 0) F_70]) rfl rfl (show InC [.o (.ptr 80 (l9 a0)), .r (.str a0.state.Pattern)] _ _ from ⟨rfl, rfl, rfl, rfl, rfl⟩) rfl rfl rfl rfl rfl ((aL8) _ _ _ e_72) ?_
       rintro _ _ _ J_74 ⟨F_75, _, rfl, rfl⟩ ⟨_, rfl, rfl, rfl⟩
       refine aa4 (ak8 ?_)
       obtain rfl := Option.some.inj h
       exact ak9 (A1 := [.own true [] (.ptr 80 (l9 x_71)) (.ptr p_1 g_2 0 0) F_75]) (A2 := []) (A3 := [.jnk true [] J_74]) rfl ⟨rfl, rfl, rfl, rfl⟩ .nil rfl rfl
      ·replace h := iteF h h_69
       refine g_cF rfl (decide_eq_false h_69) (aa1 (aa2 (o6 (s_ib rfl rfl rfl) (o6 (s_mv rfl) (aa4 (aa0 ?_))))))
       by_cases h_76 : a1.Command.Name = 80
       ·replace h := iteT h h_76
        refine g_cT rfl (decide_eq_true h_76) (aa1 (aa2 (o6 (s_mv rfl) (o6 (ag4 rfl) (o6 (s_fa (o' := 7) rfl rfl) (o6 (ar8 (i := 1) rfl rfl rfl) ?_))))))
        cases h
       ·replace h := iteF h h_76
        refine g_cF rfl (decide_eq_false h_76) (aa1 (aa2 (o6 (s_ib rfl rfl rfl) (o6 (s_mv rfl) (aa4 (aa0 ?_))))))
        by_cases h_77 : a1.Command.Name = 119
        ·replace h := iteT h h_77
         refine g_cT rfl (decide_eq_true h_77) (av3 (o6 (s_mv rfl) (o6 (ag4 rfl) (o6 (s_fa (o' := 3) rfl rfl) (o6 (ar8 (i := 1) rfl rfl rfl) (o6 (s_mv rfl) (o6 (s_mv rfl) ?_)))))))
         refine o6 (ag4 rfl) (o6 (s_fa (o' := 7) rfl rfl) (o6 (ar8 (i := 1) rfl rfl rfl) ?_))
         cases h
        ·replace h := iteF h h_77
         refine g_cF rfl (decide_eq_false h_77) (ai6 (ak8 ?_))
         obtain rfl := Option.some.inj h
         refine g_mv (Mv.sub (.cons (i := 1) rfl .rfl (.cons (i := 2) rfl .rfl (.cons (i := 3) rfl .rfl (.cons (i := 4) rfl .rfl (.cons (i := 5) rfl .rfl (.cons (i := 6) rfl .rfl (.cons (i := 7) rfl .rfl (.cons (i := 0) rfl .rfl .nil)))))))) rfl) ?_
         rintro _ rfl
         refine g_mv (Mv.sht (os := (l9 a0)) (N := [.own true [] (.gs 1 88 (List.map (al3 y9) a0.regexes)) w_5 F_6, .own true [] (.gs 1 9 (List.map aa8 a0.input)) w_7 F_8, .own true [] (.ptr 96 (o7 a0.files)) w_9 F_10, .own true [] (.bb 5 a0.out) w_13 F_14, .own true [] (.rw true 1 3 (List.map (aj3 .i64) a0.state.Ranges)) w_15 F_16, .own true [] (.gs 2 122 (List.map y8 a0.state.Queue)) w_17 F_18]) rfl ⟨(CV.rel.2 (CV.rel.1 r_4)), rfl, rfl, rfl, rfl, rfl, rfl, h_12, rfl, rfl, rfl, rfl, rfl, rfl, rfl, rfl, rfl, rfl, rfl, rfl, rfl, rfl⟩) ?_
         rintro _ ⟨F_78, rfl⟩
         exact ak9 (A1 := [.own true [] (.ptr 80 (l9 a0)) (.ptr p_1 g_2 0 0) F_78]) (A2 := []) (A3 := []) rfl ⟨rfl, rfl, rfl, rfl⟩ .nil rfl rfl
def S.ab3 (P : Program) (φ : D.o5 → Option (D.o5 × Bool)) : Prop := ∀ (a0 : D.o5) (r : (D.o5 × Bool)), φ a0 = some r → bd8 P F.ab3 [.o (.ptr 80 (l9 a0))] false [.o (.ptr 80 (l9 r.1))] [.r (.bool r.2)]
theorem bu4 {P : Program} [hc : ae8 P] : S.ab3 P (ab3) := by
 intro a0 r h
 refine al5 (b := K.ab3) rfl hc.ab3 rfl rfl rfl ?_
 rintro L S0 _ _ _ ⟨av0, _, F0, _, _, rfl, rfl, rfl, rfl, rfl, rfl⟩
 unfold ab3 at h
 refine (show GC P _ L (⟨F.ab3, (F0 ++ []), S0, true, false⟩ : Fr) (numE 0 [av0]) [.own true [] (.ptr 80 (l9 a0)) av0 F0] (RetO (⟨F.ab3, (F0 ++ []), S0, true, false⟩ : Fr) L false [av0] K.ab3.res [.o (.ptr 80 (l9 r.1))] [.r (.bool r.2)]) from ?_)
 generalize ((F0 ++ []) : List Loc) = W
 refine aK7 (Mv.opn rfl) ?_
 rintro _ ⟨p_1, g_2, _, _, rfl, hO_19, rfl⟩
 obtain ⟨v_3, w_5, F_6, w_7, F_8, w_9, F_10, b_11, w_13, F_14, w_15, F_16, w_17, F_18, rfl, rfl, r_4, h_12⟩ := ac8 hO_19
 refine aa1 (aa2 (o6 (s_mv rfl) (aa4 (aa0 (aa1 (aa1 (aa2 ?_)))))))
 refine o6 (s_mv rfl) (o6 (ag4 rfl) (o6 (s_fa (o' := 6) rfl rfl) (o6 (s_fa (o' := 13) rfl rfl) (o6 (ar8 (i := 0) rfl rfl rfl) (aa4 (aa0 ?_))))))
 by_cases h_20 : a0.state.Done = true
 ·replace h := iteT h h_20
  refine g_cT rfl h_20 (aa1 (aa2 (o6 (s_mv rfl) (aa4 (aa0 (ar4 (aY6 ?_)))))))
  obtain rfl := Option.some.inj h
  refine g_mv (Mv.sht (os := (l9 a0)) (N := [.own true [] (.gs 1 88 (List.map (al3 y9) a0.regexes)) w_5 F_6, .own true [] (.gs 1 9 (List.map aa8 a0.input)) w_7 F_8, .own true [] (.ptr 96 (o7 a0.files)) w_9 F_10, .own true [] (.bb 5 a0.out) w_13 F_14, .own true [] (.rw true 1 3 (List.map (aj3 .i64) a0.state.Ranges)) w_15 F_16, .own true [] (.gs 2 122 (List.map y8 a0.state.Queue)) w_17 F_18]) rfl ⟨(CV.rel.2 (CV.rel.1 r_4)), rfl, rfl, rfl, rfl, rfl, rfl, h_12, rfl, rfl, rfl, rfl, rfl, rfl, rfl, rfl, rfl, rfl, rfl, rfl, rfl, rfl⟩) ?_
  rintro _ ⟨F_21, rfl⟩
  exact ak9 (A1 := [.own true [] (.ptr 80 (l9 a0)) (.ptr p_1 g_2 0 0) F_21]) (A2 := []) (A3 := []) rfl ⟨rfl, rfl, rfl, rfl⟩ (.tr rfl rfl .nil) rfl rfl
 ·replace h := iteF h h_20
  refine g_cF rfl (Bool.eq_false_iff.2 h_20) (ai6 (aa0 (aa1 (aa1 (av3 (o6 (s_mv rfl) (o6 (ag4 rfl) ?_)))))))
  refine o6 (s_fa (o' := 6) rfl rfl) (o6 (s_fa (o' := 6) rfl rfl) (o6 (ar8 (i := 0) rfl rfl rfl) (o6 (s_mv rfl) (o6 (ag4 rfl) (o6 (s_fa (o' := 0) rfl rfl) (o6 (ar8 (i := 0) rfl rfl rfl) ?_))))))
  obtain ⟨x_24, e_25, h⟩ := ae5 h
  refine ah6 (cJ8 (c := ac2) rfl (CV.rel.1 r_4) e_25) ?_
  rintro _ ⟨c_22, rfl, r_23⟩
  refine ah6 (cI6 rfl r_23) ?_
  rintro _ ⟨c_26, rfl, r_27⟩
  refine ah6 (cX8 (v := .sl 26 (x_24.Ops.map ae9)) rfl r_27 rfl) ?_
  rintro v_28 r_29
  refine o6 (bX7 (c := ae9) rfl r_29) (o6 (s_ib rfl rfl rfl) (aG1 rfl (aa0 ?_)))
  by_cases h_30 : a0.state.Op ≥ (x_24.Ops.length : Int)
  ·replace h := iteT h h_30
   refine g_cT rfl (decide_eq_true h_30) (aa1 (aa2 (o6 (s_mv rfl) (aq4 (Mv.sht (os := (l9 a0)) (N := [.own true [] (.gs 1 88 (List.map (al3 y9) a0.regexes)) w_5 F_6, .own true [] (.gs 1 9 (List.map aa8 a0.input)) w_7 F_8, .own true [] (.ptr 96 (o7 a0.files)) w_9 F_10, .own true [] (.bb 5 a0.out) w_13 F_14, .own true [] (.rw true 1 3 (List.map (aj3 .i64) a0.state.Ranges)) w_15 F_16, .own true [] (.gs 2 122 (List.map y8 a0.state.Queue)) w_17 F_18]) rfl ⟨(CV.rel.2 (CV.rel.1 r_4)), rfl, rfl, rfl, rfl, rfl, rfl, h_12, rfl, rfl, rfl, rfl, rfl, rfl, rfl, rfl, rfl, rfl, rfl, rfl, rfl, rfl⟩) ?_))))
   rintro _ ⟨F_31, rfl⟩
   obtain ⟨x_32, e_33, h⟩ := ae5 h
   refine aN0 (A1 := [.own true [] (.ptr 80 (l9 a0)) (.ptr p_1 g_2 0 0) F_31]) rfl rfl (show InC [.o (.ptr 80 (l9 a0))] _ _ from ⟨rfl, rfl, rfl, rfl⟩) rfl rfl rfl rfl rfl ((ay9) _ _ e_33) ?_
   rintro _ _ _ J_35 ⟨F_36, _, rfl, rfl⟩ ⟨_, rfl, rfl, rfl⟩
   refine aa4 (aa0 (aa1 (aa2 (o6 (s_mv rfl) ?_))))
   obtain ⟨x_37, e_38, h⟩ := ae5 h
   refine aN0 (A1 := [.own true [] (.ptr 80 (l9 x_32)) (.ptr p_1 g_2 0 0) F_36]) rfl rfl (show InC [.o (.ptr 80 (l9 x_32))] _ _ from ⟨rfl, rfl, rfl, rfl⟩) rfl rfl rfl rfl rfl ((aK8) _ _ e_38) ?_
   rintro _ _ _ J_40 ⟨F_41, _, rfl, rfl⟩ ⟨_, rfl, rfl, rfl⟩
   refine aa4 (aa0 (aa1 (aa2 (o6 (s_mv rfl) (aa4 (aa0 (ar4 ?_)))))))
   refine aY6 ?_
   obtain rfl := Option.some.inj h
   exact ak9 (A1 := [.own true [] (.ptr 80 (l9 x_37)) (.ptr p_1 g_2 0 0) F_41]) (A2 := []) (A3 := [.jnk true [] J_40, .jnk true [] J_35]) rfl ⟨rfl, rfl, rfl, rfl⟩ (.tr rfl rfl .nil) rfl rfl
  ·replace h := iteF h h_30
   refine g_cF rfl (decide_eq_false h_30) (ai6 (aa0 (aa1 (av3 (o6 (s_mv rfl) (o6 (ag4 rfl) (o6 (s_fa (o' := 0) rfl rfl) ?_)))))))
   refine o6 (ar8 (i := 0) rfl rfl rfl) ?_
   obtain ⟨x_44, e_45, h⟩ := ae5 h
   refine ah6 (cJ8 (c := ac2) rfl (CV.rel.1 r_4) e_45) ?_
   rintro _ ⟨c_42, rfl, r_43⟩
   refine ah6 (cI6 rfl r_43) ?_
   rintro _ ⟨c_46, rfl, r_47⟩
   refine ah6 (cX8 (v := .sl 26 (x_44.Ops.map ae9)) rfl r_47 rfl) ?_
   rintro v_48 r_49
   refine o6 (s_mv rfl) (o6 (ag4 rfl) (o6 (s_fa (o' := 6) rfl rfl) (o6 (s_fa (o' := 6) rfl rfl) (o6 (ar8 (i := 0) rfl rfl rfl) ?_))))
   obtain ⟨x_52, e_53, h⟩ := ae5 h
   refine ah6 (s_ia (c := ae9) rfl r_49.toS rfl e_53) ?_
   rintro _ ⟨c_50, rfl, r_51⟩
   refine ah6 (cg8 (N := ae9 x_52) rfl r_51 rfl rfl) ?_
   rintro _ ⟨c_54, rfl, r_55⟩
   refine cf6 rfl rfl fun g_56 => ?_
   obtain ⟨v_57, v_59, v_61, v_63, hE_65, r_58, r_60, r_62, r_64⟩ := aT5 r_55
   refine bY8 (i := 0) (b := .agg c_54) (cs' := [.lit (.int .i64 x_52.Command.At), .lit (.int .i64 x_52.Command.Guard.A.Kind), .lit (.int .i64 x_52.Command.Guard.A.Line), .lit (.string (bs x_52.Command.Guard.A.Text)), v_57, .lit (.int .i64 x_52.Command.Guard.B.Kind), .lit (.int .i64 x_52.Command.Guard.B.Line), .lit (.string (bs x_52.Command.Guard.B.Text)), v_59, .lit (.bool x_52.Command.Guard.Not), .lit (.int .u8 x_52.Command.Name), .lit (.string (bs x_52.Command.Arg)), .lit (.string (bs x_52.Command.Sub.Text)), v_61, v_63, .lit (.int .i64 x_52.Command.Sub.Nth), .lit (.bool x_52.Command.Sub.All), .lit (.bool x_52.Command.Sub.Print), .lit (.string (bs x_52.Command.Sub.File)), .lit (.string (bs x_52.Command.Table)), .lit (.int .i64 x_52.A), .lit (.int .i64 x_52.B), .lit (.int .i64 x_52.Sub), .lit (.int .i64 x_52.Range), .lit (.int .i64 x_52.Else), .lit (.int .i64 x_52.To)]) rfl rfl rfl (by rw [hE_65]; rfl) (ab6.ones r_55) (fun a ha => .c (ak6 (ab6.closed r_55) a ha)) rfl (by rw [hE_65]; rfl) rfl (aG1 rfl (aa0 (aa1 (ai7 (aa1 (aa2 (o6 (s_mv rfl) ?_)))))))
   refine o6 (bv1 (i := 0) rfl rfl rfl rfl) (aq4 (Mv.sub (.cons (i := 1) rfl .rfl (.cons (i := 2) rfl .rfl (.cons (i := 3) rfl .rfl (.cons (i := 4) rfl .rfl (.cons (i := 5) rfl .rfl (.cons (i := 6) rfl .rfl (.cons (i := 7) rfl .rfl (.cons (i := 0) rfl .rfl .nil)))))))) rfl) ?_)
   rintro _ rfl
   refine aq4 (Mv.sht (os := (l9 a0)) (N := [.own true [] (.gs 1 88 (List.map (al3 y9) a0.regexes)) w_5 F_6, .own true [] (.gs 1 9 (List.map aa8 a0.input)) w_7 F_8, .own true [] (.ptr 96 (o7 a0.files)) w_9 F_10, .own true [] (.bb 5 a0.out) w_13 F_14, .own true [] (.rw true 1 3 (List.map (aj3 .i64) a0.state.Ranges)) w_15 F_16, .own true [] (.gs 2 122 (List.map y8 a0.state.Queue)) w_17 F_18]) rfl ⟨(CV.rel.2 (CV.rel.1 r_4)), rfl, rfl, rfl, rfl, rfl, rfl, h_12, rfl, rfl, rfl, rfl, rfl, rfl, rfl, rfl, rfl, rfl, rfl, rfl, rfl, rfl⟩) ?_
   rintro _ ⟨F_66, rfl⟩
   obtain ⟨x_67, e_68, h⟩ := ae5 h
   refine aN0 (A1 := [.own true [] (.ptr 80 (l9 a0)) (.ptr p_1 g_2 0 0) F_66]) rfl rfl (show InC [.o (.ptr 80 (l9 a0)), .r (.agg (ae9 x_52))] _ _ from ⟨rfl, rfl, (RV.C.nrmA (r := .agg (ae9 x_52)) ⟨_, rfl, ((x8 ac0 (x8 ac0 (x8 ac0 (x8 ah3 (x8 (CV.rel.1 r_58) (x8 ac0 (x8 ac0 (x8 ah3 (x8 (CV.rel.1 r_60) (x8 aj0 (x8 ac0 (x8 ah3 (x8 ah3 (x8 (CV.rel.1 r_62) (x8 r_64 (x8 ac0 (x8 aj0 (x8 aj0 (x8 ah3 (x8 ah3 (x8 ac0 (x8 ac0 (x8 ac0 (x8 ac0 (x8 ac0 (x8 ac0 ar6)))))))))))))))))))))))))) : ab6 (ae9 x_52) _)⟩), rfl, rfl⟩) rfl rfl rfl rfl rfl ((bi3) _ _ _ e_68) ?_
   rintro _ _ _ J_70 ⟨F_71, _, rfl, rfl⟩ ⟨rfl, rfl⟩
   refine o6 (s_nt rfl) (o6 (s_mv rfl) (aa4 (aa0 ?_)))
   by_cases h_72 : (!x_67.2) = true
   ·replace h := iteT h h_72
    refine g_cT rfl h_72 (aa2 (o6 (s_mv rfl) (o6 (s_fa (o' := 24) rfl rfl) (o6 (aG7 (i := 2) rfl rfl rfl) (o6 (ag4 rfl) (aq4 (Mv.opn2 rfl) ?_))))))
    rintro _ ⟨_, _, hO_89, rfl⟩
    obtain ⟨v_73, w_75, F_76, w_77, F_78, w_79, F_80, b_81, w_83, F_84, w_85, F_86, w_87, F_88, rfl, rfl, r_74, h_82⟩ := ac8 hO_89
    refine o6 (s_fa (o' := 6) rfl rfl) (o6 (s_fa (o' := 6) rfl rfl) (aq6 (i := 0) rfl rfl rfl ⟨rfl, rfl⟩ (.c rfl) rfl rfl rfl (aa4 (ak8 (aa0 (aa1 (aa2 ?_)))))))
    refine o6 (s_mv rfl) (aa4 (aa0 (ar4 ?_)))
    obtain rfl := Option.some.inj h
    refine g_mv (Mv.sht (os := (l9 (D.o5.mk x_67.1.f x_67.1.regexes x_67.1.input x_67.1.files x_67.1.out (D.y7.mk x_52.Else x_67.1.state.Pattern x_67.1.state.Hold x_67.1.state.Flag x_67.1.state.Line x_67.1.state.Ranges x_67.1.state.Queue x_67.1.state.Done)))) (N := [.own true [] (.gs 1 88 (List.map (al3 y9) x_67.1.regexes)) w_75 F_76, .own true [] (.gs 1 9 (List.map aa8 x_67.1.input)) w_77 F_78, .own true [] (.ptr 96 (o7 x_67.1.files)) w_79 F_80, .own true [] (.bb 5 x_67.1.out) w_83 F_84, .own true [] (.rw true 1 3 (List.map (aj3 .i64) x_67.1.state.Ranges)) w_85 F_86, .own true [] (.gs 2 122 (List.map y8 x_67.1.state.Queue)) w_87 F_88]) rfl ⟨(CV.rel.2 (CV.rel.1 r_74)), rfl, rfl, rfl, rfl, rfl, rfl, h_82, rfl, rfl, rfl, rfl, rfl, rfl, rfl, rfl, rfl, rfl, rfl, rfl, rfl, rfl⟩) ?_
    rintro _ ⟨F_90, rfl⟩
    exact ak9 (A1 := [.own true [] (.ptr 80 (l9 (D.o5.mk x_67.1.f x_67.1.regexes x_67.1.input x_67.1.files x_67.1.out (D.y7.mk x_52.Else x_67.1.state.Pattern x_67.1.state.Hold x_67.1.state.Flag x_67.1.state.Line x_67.1.state.Ranges x_67.1.state.Queue x_67.1.state.Done)))) (.ptr p_1 g_2 0 0) F_90]) (A2 := []) (A3 := [.jnk true [] J_70]) rfl ⟨rfl, rfl, rfl, rfl⟩ (.tr rfl rfl .nil) rfl rfl
   ·replace h := iteF h h_72
    refine g_cF rfl (Bool.eq_false_iff.2 h_72) (aa1 (aa2 (o6 (s_mv rfl) (o6 (bv1 (i := 2) rfl rfl rfl rfl) ?_))))
    obtain ⟨x_91, e_92, h⟩ := ae5 h
    refine aN0 (A1 := [.own true [] (.ptr 80 (l9 x_67.1)) (.ptr p_1 g_2 0 0) F_71]) rfl rfl (show InC [.o (.ptr 80 (l9 x_67.1)), .r (.agg (ae9 x_52))] _ _ from ⟨rfl, rfl, (RV.C.nrmA (r := .agg (ae9 x_52)) ⟨_, rfl, ((x8 ac0 (x8 ac0 (x8 ac0 (x8 ah3 (x8 (CV.rel.1 r_58) (x8 ac0 (x8 ac0 (x8 ah3 (x8 (CV.rel.1 r_60) (x8 aj0 (x8 ac0 (x8 ah3 (x8 ah3 (x8 (CV.rel.1 r_62) (x8 r_64 (x8 ac0 (x8 aj0 (x8 aj0 (x8 ah3 (x8 ah3 (x8 ac0 (x8 ac0 (x8 ac0 (x8 ac0 (x8 ac0 (x8 ac0 ar6)))))))))))))))))))))))))) : ab6 (ae9 x_52) _)⟩), rfl, rfl⟩) rfl rfl rfl rfl rfl ((bj2) _ _ _ e_92) ?_
    rintro _ _ _ J_94 ⟨F_95, _, rfl, rfl⟩ ⟨rfl, rfl⟩
    refine o6 (s_nt rfl) (o6 (s_mv rfl) (aa4 (aa0 ?_)))
    by_cases h_96 : (!x_91.2) = true
    ·replace h := iteT h h_96
     refine g_cT rfl h_96 (aa1 (aa2 (o6 (s_mv rfl) (o6 (ag4 rfl) (aq4 (Mv.opn2 rfl) ?_)))))
     rintro _ ⟨_, _, hO_113, rfl⟩
     obtain ⟨v_97, w_99, F_100, w_101, F_102, w_103, F_104, b_105, w_107, F_108, w_109, F_110, w_111, F_112, rfl, rfl, r_98, h_106⟩ := ac8 hO_113
     refine o6 (s_fa (o' := 6) rfl rfl) (o6 (s_fa (o' := 6) rfl rfl) (o6 (ar8 (i := 0) rfl rfl rfl) (o6 (s_ib rfl rfl rfl) (o6 (ag4 rfl) (o6 (s_fa (o' := 6) rfl rfl) (o6 (s_fa (o' := 6) rfl rfl) (aq6 (i := 0) rfl rfl rfl ⟨rfl, rfl⟩ (.c rfl) rfl rfl rfl ?_)))))))
     refine aa4 (aa0 (aa1 (aa2 (o6 (s_mv rfl) (o6 (bv1 (i := 9) rfl rfl rfl rfl) (aq4 (Mv.sht (os := (l9 (D.o5.mk x_91.1.f x_91.1.regexes x_91.1.input x_91.1.files x_91.1.out (D.y7.mk (G.addI x_91.1.state.Op 1) x_91.1.state.Pattern x_91.1.state.Hold x_91.1.state.Flag x_91.1.state.Line x_91.1.state.Ranges x_91.1.state.Queue x_91.1.state.Done)))) (N := [.own true [] (.gs 1 88 (List.map (al3 y9) x_91.1.regexes)) w_99 F_100, .own true [] (.gs 1 9 (List.map aa8 x_91.1.input)) w_101 F_102, .own true [] (.ptr 96 (o7 x_91.1.files)) w_103 F_104, .own true [] (.bb 5 x_91.1.out) w_107 F_108, .own true [] (.rw true 1 3 (List.map (aj3 .i64) x_91.1.state.Ranges)) w_109 F_110, .own true [] (.gs 2 122 (List.map y8 x_91.1.state.Queue)) w_111 F_112]) rfl ⟨(CV.rel.2 (CV.rel.1 r_98)), rfl, rfl, rfl, rfl, rfl, rfl, h_106, rfl, rfl, rfl, rfl, rfl, rfl, rfl, rfl, rfl, rfl, rfl, rfl, rfl, rfl⟩) ?_))))))
     rintro _ ⟨F_114, rfl⟩
     obtain ⟨x_115, e_116, h⟩ := ae5 h
     refine aN0 (A1 := [.own true [] (.ptr 80 (l9 (D.o5.mk x_91.1.f x_91.1.regexes x_91.1.input x_91.1.files x_91.1.out (D.y7.mk (G.addI x_91.1.state.Op 1) x_91.1.state.Pattern x_91.1.state.Hold x_91.1.state.Flag x_91.1.state.Line x_91.1.state.Ranges x_91.1.state.Queue x_91.1.state.Done)))) (.ptr p_1 g_2 0 0) F_114]) rfl rfl (show InC [.o (.ptr 80 (l9 (D.o5.mk x_91.1.f x_91.1.regexes x_91.1.input x_91.1.files x_91.1.out (D.y7.mk (G.addI x_91.1.state.Op 1) x_91.1.state.Pattern x_91.1.state.Hold x_91.1.state.Flag x_91.1.state.Line x_91.1.state.Ranges x_91.1.state.Queue x_91.1.state.Done)))), .r (.agg (ae9 x_52))] _ _ from ⟨rfl, rfl, (RV.C.nrmA (r := .agg (ae9 x_52)) ⟨_, rfl, ((x8 ac0 (x8 ac0 (x8 ac0 (x8 ah3 (x8 (CV.rel.1 r_58) (x8 ac0 (x8 ac0 (x8 ah3 (x8 (CV.rel.1 r_60) (x8 aj0 (x8 ac0 (x8 ah3 (x8 ah3 (x8 (CV.rel.1 r_62) (x8 r_64 (x8 ac0 (x8 aj0 (x8 aj0 (x8 ah3 (x8 ah3 (x8 ac0 (x8 ac0 (x8 ac0 (x8 ac0 (x8 ac0 (x8 ac0 ar6)))))))))))))))))))))))))) : ab6 (ae9 x_52) _)⟩), rfl, rfl⟩) rfl rfl rfl rfl rfl ((br0) _ _ _ e_116) ?_
     rintro _ _ _ J_118 ⟨F_119, _, rfl, rfl⟩ ⟨_, rfl, rfl, rfl⟩
     refine aa4 (aa0 (aa2 (o6 (s_mv rfl) (o6 (bv1 (i := 4) rfl rfl rfl rfl) ?_))))
     obtain ⟨x_120, e_121, h⟩ := ae5 h
     refine aN0 (A1 := [.own true [] (.ptr 80 (l9 x_115)) (.ptr p_1 g_2 0 0) F_119]) rfl rfl (show InC [.o (.ptr 80 (l9 x_115)), .r (.agg (ae9 x_52))] _ _ from ⟨rfl, rfl, (RV.C.nrmA (r := .agg (ae9 x_52)) ⟨_, rfl, ((x8 ac0 (x8 ac0 (x8 ac0 (x8 ah3 (x8 (CV.rel.1 r_58) (x8 ac0 (x8 ac0 (x8 ah3 (x8 (CV.rel.1 r_60) (x8 aj0 (x8 ac0 (x8 ah3 (x8 ah3 (x8 (CV.rel.1 r_62) (x8 r_64 (x8 ac0 (x8 aj0 (x8 aj0 (x8 ah3 (x8 ah3 (x8 ac0 (x8 ac0 (x8 ac0 (x8 ac0 (x8 ac0 (x8 ac0 ar6)))))))))))))))))))))))))) : ab6 (ae9 x_52) _)⟩), rfl, rfl⟩) rfl rfl rfl rfl rfl ((bu0) _ _ _ e_121) ?_
     rintro _ _ _ J_123 ⟨F_124, _, rfl, rfl⟩ ⟨_, rfl, rfl, rfl⟩
     refine aa4 (ak8 (aa0 (aa1 (aa2 (o6 (s_mv rfl) (aa4 (aa0 ?_)))))))
     refine ar4 ?_
     obtain rfl := Option.some.inj h
     exact ak9 (A1 := [.own true [] (.ptr 80 (l9 x_120)) (.ptr p_1 g_2 0 0) F_124]) (A2 := []) (A3 := [.jnk true [] J_123, .jnk true [] J_118, .jnk true [] J_94, .jnk true [] J_70]) rfl ⟨rfl, rfl, rfl, rfl⟩ (.tr rfl rfl .nil) rfl rfl
    ·replace h := iteF h h_96
     refine g_cF rfl (Bool.eq_false_iff.2 h_96) (ai6 (ak8 (aa0 (aa1 (aa2 (o6 (s_mv rfl) (aa4 ?_)))))))
     refine aa0 (ar4 ?_)
     obtain rfl := Option.some.inj h
     exact ak9 (A1 := [.own true [] (.ptr 80 (l9 x_91.1)) (.ptr p_1 g_2 0 0) F_95]) (A2 := []) (A3 := [.jnk true [] J_94, .jnk true [] J_70]) rfl ⟨rfl, rfl, rfl, rfl⟩ (.tr rfl rfl .nil) rfl rfl
def S.ae1 (P : Program) (φ : D.o5 → Option (List UInt8)) : Prop := ∀ (a0 : D.o5) (r : List UInt8), φ a0 = some r → cI5 P F.ae1 [.o (.ptr 80 (l9 a0))] [.str r]
theorem bz8 {P : Program} [hc : ae8 P] : S.ae1 P (ae1) := by
 intro a0 r h
 refine bC0 (b := K.ae1) rfl hc.ae1 (fun _ => rfl) rfl rfl rfl ?_
 rintro L S0 _ _ _ ⟨av0, _, F0, _, _, rfl, rfl, rfl, rfl, rfl, rfl⟩
 unfold ae1 at h
 refine (show GC P _ L (⟨F.ae1, (F0 ++ []), S0, false, true⟩ : Fr) (numE 0 [av0]) [.own true [] (.ptr 80 (l9 a0)) av0 F0] (ae2 L K.ae1.res [.str r]) from ?_)
 generalize ((F0 ++ []) : List Loc) = W
 refine aK7 (Mv.opn rfl) ?_
 rintro _ ⟨p_1, g_2, _, _, rfl, hO_19, rfl⟩
 obtain ⟨v_3, w_5, F_6, w_7, F_8, w_9, F_10, b_11, w_13, F_14, w_15, F_16, w_17, F_18, rfl, rfl, r_4, h_12⟩ := ac8 hO_19
 refine aa1 (aa2 (o6 (s_mv rfl) (aa4 (aa0 (aa1 (aa2 (o6 (s_mv rfl) ?_)))))))
 refine o6 (ag4 rfl) (o6 (s_fa (o' := 4) rfl rfl) (aq4 (Mv.sub (.cons (i := 0) rfl .rfl (.cons (i := 4) rfl .rfl (.cons (i := 1) rfl .rfl (.cons (i := 2) rfl .rfl (.cons (i := 3) rfl .rfl (.cons (i := 5) rfl .rfl (.cons (i := 6) rfl .rfl .nil))))))) rfl) ?_))
 rintro _ rfl
 refine o6 (s_bstP hc.bld rfl rfl rfl h_12 rfl rfl) (o6 (s_mv rfl) (aa4 (aa0 (ar4 ?_))))
 obtain rfl := Option.some.inj h
 exact b05 (.tr rfl rfl .nil)
def S.ac5 (P : Program) (φ : D.o5 → Option (D.o5 × D.y5)) : Prop := ∀ (a0 : D.o5) (r : (D.o5 × D.y5)), φ a0 = some r → bd8 P F.ac5 [.o (.ptr 80 (l9 a0))] false [.o (.ptr 80 (l9 r.1))] [.o (.ptr 96 (o7 r.2))]
theorem bo0 {P : Program} [hc : ae8 P] : S.ac5 P (ac5) := by
 intro a0 r h
 refine al5 (b := K.ac5) rfl hc.ac5 rfl rfl rfl ?_
 rintro L S0 _ _ _ ⟨av0, _, F0, _, _, rfl, rfl, rfl, rfl, rfl, rfl⟩
 unfold ac5 at h
 refine (show GC P _ L (⟨F.ac5, (F0 ++ []), S0, true, false⟩ : Fr) (numE 0 [av0]) [.own true [] (.ptr 80 (l9 a0)) av0 F0] (RetO (⟨F.ac5, (F0 ++ []), S0, true, false⟩ : Fr) L false [av0] K.ac5.res [.o (.ptr 80 (l9 r.1))] [.o (.ptr 96 (o7 r.2))]) from ?_)
 generalize ((F0 ++ []) : List Loc) = W
 refine aK7 (Mv.opn rfl) ?_
 rintro _ ⟨p_1, g_2, _, _, rfl, hO_19, rfl⟩
 obtain ⟨v_3, w_5, F_6, w_7, F_8, w_9, F_10, b_11, w_13, F_14, w_15, F_16, w_17, F_18, rfl, rfl, r_4, h_12⟩ := ac8 hO_19
 refine aa1 (aa2 (o6 (s_mv rfl) (aa4 (aa0 (aa1 (aa2 (o6 (s_mv rfl) ?_)))))))
 refine o6 (ag4 rfl) (o6 (s_fa (o' := 3) rfl rfl) (o6 (ar8 (i := 0) rfl rfl rfl) (aq4 (Mv.sub (.cons (i := 3) rfl .rfl (.cons (i := 0) rfl .rfl (.cons (i := 1) rfl .rfl (.cons (i := 2) rfl .rfl (.cons (i := 4) rfl .rfl (.cons (i := 5) rfl .rfl (.cons (i := 6) rfl .rfl .nil))))))) rfl) ?_)))
 rintro _ rfl
 obtain ⟨x_20, e_21, h⟩ := ae5 h
 refine aN0 (A1 := [.own true [] (.ptr 96 (o7 a0.files)) w_9 F_10]) rfl rfl (show InC [.o (.ptr 96 (o7 a0.files))] _ _ from ⟨rfl, rfl, rfl, rfl⟩) rfl rfl rfl rfl rfl ((aP0) _ _ e_21) ?_
 rintro w_25 _ _ J_23 ⟨F_24, _, rfl, rfl⟩ ⟨F_26, rfl⟩
 refine o6 (s_mv rfl) (aa4 (aa0 (ar4 ?_)))
 obtain rfl := Option.some.inj h
 refine g_mv (Mv.sub (.cons (i := 3) rfl .rfl (.cons (i := 4) rfl .rfl (.cons (i := 5) rfl .rfl (.cons (i := 0) rfl .rfl (.cons (i := 6) rfl .rfl (.cons (i := 7) rfl .rfl (.cons (i := 8) rfl .rfl (.cons (i := 1) rfl .rfl (.cons (i := 2) rfl .rfl .nil))))))))) rfl) ?_
 rintro _ rfl
 refine g_mv (Mv.sht (os := (l9 (D.o5.mk a0.f a0.regexes a0.input x_20.1 a0.out a0.state))) (N := [.own true [] (.gs 1 88 (List.map (al3 y9) a0.regexes)) w_5 F_6, .own true [] (.gs 1 9 (List.map aa8 a0.input)) w_7 F_8, .own true [] (.ptr 96 (o7 x_20.1)) w_9 F_24, .own true [] (.bb 5 a0.out) w_13 F_14, .own true [] (.rw true 1 3 (List.map (aj3 .i64) a0.state.Ranges)) w_15 F_16, .own true [] (.gs 2 122 (List.map y8 a0.state.Queue)) w_17 F_18]) rfl ⟨(CV.rel.2 (CV.rel.1 r_4)), rfl, rfl, rfl, rfl, rfl, rfl, h_12, rfl, rfl, rfl, rfl, rfl, rfl, rfl, rfl, rfl, rfl, rfl, rfl, rfl, rfl⟩) ?_
 rintro _ ⟨F_27, rfl⟩
 exact ak9 (A1 := [.own true [] (.ptr 80 (l9 (D.o5.mk a0.f a0.regexes a0.input x_20.1 a0.out a0.state))) (.ptr p_1 g_2 0 0) F_27]) (A2 := [.own true [] (.ptr 96 (o7 x_20.2)) w_25 F_26]) (A3 := [.jnk true [] J_23]) rfl ⟨rfl, rfl, rfl, rfl⟩ (.l7 rfl .nil) rfl rfl
end Go.Proofs.YtbinfgmdamlkbaaGreatDoor
namespace Go.Proofs.YtbinfgmdamlkbaaGreatDoor
open Go.RowKit
theorem cB6 {P : Program} [hc : ae8 P] : S.au9 P au9 := hc.ext_run_Load
def S.as5 (P : Program) (φ : (Option D.ab9) → (List (List UInt8)) → (List D.aj7) → Int → Option (D.ae4 × Int)) : Prop := ∀ (a0 : (Option D.ab9)) (a1 : (List (List UInt8))) (a2 : (List D.aj7)) (a3 : Int) (r : (D.ae4 × Int)), φ a0 a1 a2 a3 = some r → ∀ (k0 : Nat) (args : List AV), RVN [.v (vref ac2 a0), .sl 1 (a1.map aa8), .sl 2 (a2.map ai8), .int .i64 a3] args → a15 P F.as5 args (ResC [.agg (an6 r.1), .int .i64 r.2])
def aY2 (L : Nat) (p3 : Int) (W_i4 : AV) (G_i1 : Nat) : (D.o5 × D.ae4 × Int) → BT → AS → Prop := fun (q_i4, q_i1, p11) T S => ∃ (J_i5 : List Loc) (F_i4 : List Loc) (z_i1_1 : AV), RelC (.sl 2 (q_i1.Files.map ai8)) z_i1_1 ∧ Ag [(3, .lit (.int .i64 p3)), (8, .ptr ⟨L + 1, 8, 0⟩ G_i1 0 0), (10, W_i4), (11, .lit (.int .i64 p11))] T ∧ StA S L F.as5 [.jnk false [] J_i5, .own false [] (.ptr 80 (l9 q_i4)) W_i4 F_i4, .cel false [8] ⟨L + 1, 8, 0⟩ G_i1 142 [.lit (.string (bs q_i1.Out)), z_i1_1, .lit (.int .i64 q_i1.Steps)]]
def by5 (L : Nat) (p3 : Int) (W_i4 : AV) (G_i1 : Nat) : (D.o5 × D.ae4 × Int) → BT → AS → Prop := fun (q_i4, q_i1, p11) T S => ∃ (J_i5 : List Loc) (F_i4 : List Loc) (z_i1_1 : AV), RelC (.sl 2 (q_i1.Files.map ai8)) z_i1_1 ∧ Ag [(8, .ptr ⟨L + 1, 8, 0⟩ G_i1 0 0), (10, W_i4), (11, .lit (.int .i64 p11))] T ∧ StA S L F.as5 [.jnk false [] J_i5, .own false [] (.ptr 80 (l9 q_i4)) W_i4 F_i4, .cel false [8] ⟨L + 1, 8, 0⟩ G_i1 142 [.lit (.string (bs q_i1.Out)), z_i1_1, .lit (.int .i64 q_i1.Steps)]]
theorem cl6 {P : Program} [hc : ae8 P] (fu : Nat) {L : Nat} (p3 : Int) {W_i4 : AV} {G_i1 : Nat} : ∀ (s : (D.o5 × D.ae4 × Int)) (c : Ctl (D.o5 × D.ae4 × Int) (D.o5 × D.ae4 × Int) (D.ae4 × Int)), aP7 fu p3 s = some c → ∀ T S, aY2 L p3 W_i4 G_i1 s T S → RunB P K.bW8 T S (at7 0 (aY2 L p3 W_i4 G_i1) (by5 L p3 W_i4 G_i1) (fun r => ae2 L K.as5.res [.agg (an6 r.1), .int .i64 r.2]) c) := by
 rintro ⟨q_i4, q_i1, p11⟩ c h T S ⟨J_i5, F_i4, z_i1_1, y_i1_1, hT, hS⟩
 unfold aP7 at h
 refine (show GC P K.bW8 L F.as5 [(3, .lit (.int .i64 p3)), (8, .ptr ⟨L + 1, 8, 0⟩ G_i1 0 0), (10, W_i4), (11, .lit (.int .i64 p11))] [.jnk false [] J_i5, .own false [] (.ptr 80 (l9 q_i4)) W_i4 F_i4, .cel false [8] ⟨L + 1, 8, 0⟩ G_i1 142 [.lit (.string (bs q_i1.Out)), z_i1_1, .lit (.int .i64 q_i1.Steps)]] (at7 0 (aY2 L p3 W_i4 G_i1) (by5 L p3 W_i4 G_i1) (fun r => ae2 L K.as5.res [.agg (an6 r.1), .int .i64 r.2]) c) from ?_) T S hT hS
 refine aa1 (aa1 (aa2 (o6 (s_mv rfl) (o6 (s_mv rfl) (o6 (s_ib rfl rfl rfl) (o6 (s_mv rfl) ?_))))))
 refine ax9 (gb := (decide (p11 < p3))) (af := af0) (Q := fun u => u = W_i4) rfl (ag3 _) (fun hg => ?_) ?_
 ·exact s_mv rfl
 intro v_18 hv_16 hu_17
 by_cases h_19 : decide (p11 < p3) = true
 ·replace h := iteT h h_19
  refine cq6 rfl ((ag3 _).trans h_19) ?_
  obtain rfl := (hv_16 h_19).symm
  refine aq4 (Mv.sub (.cons (i := 1) rfl .rfl (.cons (i := 0) rfl .rfl (.cons (i := 2) rfl .rfl .nil))) rfl) ?_
  rintro _ rfl
  obtain ⟨x_20, e_21, h⟩ := ae5 h
  refine aN0 (A1 := [.own false [] (.ptr 80 (l9 q_i4)) W_i4 F_i4]) rfl rfl (show InC [.o (.ptr 80 (l9 q_i4))] _ _ from ⟨rfl, rfl, rfl, rfl⟩) rfl rfl rfl rfl rfl ((bu4) _ _ e_21) ?_
  rintro _ _ _ J_23 ⟨F_24, _, rfl, rfl⟩ ⟨rfl, rfl⟩
  refine o6 (cK7 rfl rfl (fun _ => rfl)) (aa4 (aa0 ?_))
  by_cases h_25 : ((decide (p11 < p3)) && x_20.2) = true
  ·replace h := iteT h h_25
   refine g_cT rfl h_25 (ai6 (aa0 (ai7 (aa2 (o6 (s_mv rfl) (o6 (s_ib rfl rfl rfl) (o6 (s_mv rfl) ?_)))))))
   refine aa4 (ak8 ?_)
   obtain rfl := Option.some.inj h
   refine g_mv (Mv.sub (.cons (i := 1) rfl .rfl (.cons (i := 2) rfl .rfl (.cons (i := 0) rfl .rfl (.cons (i := 3) rfl .rfl .nil)))) rfl) ?_
   rintro _ rfl
   refine g_mv (Mv.jj rfl) ?_
   rintro _ ⟨J_26, rfl⟩
   exact fun T S hT hS => ⟨rfl, ⟨J_26, F_24, z_i1_1, y_i1_1, hT.sub (subE.cons rfl (subE.cons rfl (subE.cons rfl (subE.cons rfl (subE.nil _))))), hS.sub (.cons (i := 0) rfl (.jnk rfl rfl) (.cons (i := 1) rfl (.own rfl rfl) (.cons (i := 2) rfl (.cel rfl rfl) .nil))) rfl⟩⟩
  ·replace h := iteF h h_25
   refine g_cF rfl (Bool.eq_false_iff.2 h_25) (aO2 (aN9 ?_))
   obtain rfl := Option.some.inj h
   refine g_mv (Mv.sub (.cons (i := 1) rfl .rfl (.cons (i := 2) rfl .rfl (.cons (i := 0) rfl .rfl (.cons (i := 3) rfl .rfl .nil)))) rfl) ?_
   rintro _ rfl
   refine g_mv (Mv.jj rfl) ?_
   rintro _ ⟨J_27, rfl⟩
   exact fun T S hT hS => ⟨rfl, ⟨J_27, F_24, z_i1_1, y_i1_1, hT.sub (subE.cons rfl (subE.cons rfl (subE.cons rfl (subE.nil _)))), hS.sub (.cons (i := 0) rfl (.jnk rfl rfl) (.cons (i := 1) rfl (.own rfl rfl) (.cons (i := 2) rfl (.cel rfl rfl) .nil))) rfl⟩⟩
 ·replace h := iteF h h_19
  replace h_19 := Bool.eq_false_iff.2 h_19
  refine cv4 rfl ((ag3 _).trans h_19) (o6 (cK7 (b := false) rfl rfl (fun hq => by have hz := hq; first | (rw [h_19] at hz; cases hz) | simp [h_19] at hz <;> rfl)) (aa4 (aa0 ?_)))
  by_cases h_28 : ((decide (p11 < p3)) && false) = true
  ·replace h := iteT h h_28
   refine g_cT rfl h_28 (ai6 (aa0 (ai7 (aa2 (o6 (s_mv rfl) (o6 (s_ib rfl rfl rfl) (o6 (s_mv rfl) ?_)))))))
   refine aa4 (ak8 ?_)
   obtain rfl := Option.some.inj h
   exact fun T S hT hS => ⟨rfl, ⟨J_i5, F_i4, z_i1_1, y_i1_1, hT.sub (subE.cons rfl (subE.cons rfl (subE.cons rfl (subE.cons rfl (subE.nil _))))), hS.sub (.cons (i := 0) rfl (.jnk rfl rfl) (.cons (i := 1) rfl (.own rfl rfl) (.cons (i := 2) rfl (.cel rfl rfl) .nil))) rfl⟩⟩
  ·replace h := iteF h h_28
   refine g_cF rfl (Bool.eq_false_iff.2 h_28) (aO2 (aN9 ?_))
   obtain rfl := Option.some.inj h
   exact fun T S hT hS => ⟨rfl, ⟨J_i5, F_i4, z_i1_1, y_i1_1, hT.sub (subE.cons rfl (subE.cons rfl (subE.cons rfl (subE.nil _)))), hS.sub (.cons (i := 0) rfl (.jnk rfl rfl) (.cons (i := 1) rfl (.own rfl rfl) (.cons (i := 2) rfl (.cel rfl rfl) .nil))) rfl⟩⟩
theorem cR7 {P : Program} [hc : ae8 P] (fu : Nat) : S.as5 P (as5 fu) := by
 intro a0 a1 a2 a3 r h k0 args ha
 refine ao1 (b := K.as5) rfl hc.as5 (fun _ => rfl) rfl rfl ?_ ha
 rintro L _ ⟨av0, _, rfl, ar0, av1, _, rfl, ar1, av2, _, rfl, ar2, _, _, rfl, rfl, rfl⟩
 unfold as5 at h
 show GC P _ L F.as5 [(0, av0), (1, av1), (2, av2), (3, .lit (.int .i64 a3))] [] (ae2 L K.as5.res [.agg (an6 r.1), .int .i64 r.2])
 refine aa1 (aa2 ?_)
 refine cf6 rfl rfl fun g_1 => ?_
 refine o6 (s_mv rfl) (aa4 (aa0 (aa1 (aa2 (o6 (s_mv rfl) (o6 (s_mv rfl) (o6 (s_mv rfl) ?_)))))))
 obtain ⟨x_2, e_3, h⟩ := ae5 h
 refine aN0 (A1 := []) rfl rfl (show InC [.r (.sl 2 (a2.map ai8))] _ _ from ⟨(RV.C.nrmA (r := .sl 2 (a2.map ai8)) ar2), rfl, rfl⟩) rfl rfl rfl rfl rfl ((cs8) _ _ e_3) ?_
 rintro w_6 _ _ J_5 rfl ⟨F_7, rfl⟩
 obtain ⟨x_8, e_9, h⟩ := ae5 h
 refine aN0 (A1 := [.own false [] (.ptr 96 (o7 x_2)) w_6 F_7]) rfl rfl (show InC [.r (.v (vref ac2 a0)), .r (.sl 1 (a1.map aa8)), .o (.ptr 96 (o7 x_2))] _ _ from ⟨(RV.C.nrmA (r := .v (vref ac2 a0)) ar0), (RV.C.nrmA (r := .sl 1 (a1.map aa8)) ar1), rfl, rfl, rfl, rfl⟩) rfl rfl rfl rfl rfl ((cB4 fu) _ _ _ _ e_9) ?_
 rintro w_13 _ _ J_11 ⟨F_12, _, rfl, rfl⟩ ⟨F_14, rfl⟩
 refine o6 (s_mv rfl) (aa4 (aa0 (aa1 (aa2 (o6 (s_mv rfl) (aa4 (aa0 ?_)))))))
 refine aa1 (ai7 (aK7 (Mv.sub (.cons (i := 1) rfl .rfl (.cons (i := 2) rfl .rfl (.cons (i := 3) rfl .rfl (.cons (i := 4) rfl .rfl .nil)))) rfl) ?_))
 rintro _ rfl
 refine aK7 (Mv.sub (.cons (i := 1) rfl .rfl (.cons (i := 2) rfl .rfl (.cons (i := 0) rfl .rfl (.cons (i := 3) rfl .rfl .nil)))) rfl) ?_
 rintro _ rfl
 refine aK7 (Mv.jj rfl) ?_
 rintro _ ⟨J_15, rfl⟩
 obtain ⟨o_29, e_30, h⟩ := ae5 h
 refine aR0 (IN := aY2 L a3 w_13 g_1) (IB := by5 L a3 w_13 g_1) (IR := fun r => ae2 L K.as5.res [.agg (an6 r.1), .int .i64 r.2]) e_30 (cl6 fu  a3 (W_i4 := w_13) (G_i1 := g_1)) (fun T S hT hS => ⟨J_15, F_14, (.lit (.slice none 0 0)), (RelC.nil 2 _), hT.sub (subE.cons rfl (subE.cons rfl (subE.cons rfl (subE.cons rfl (subE.nil _))))), hS.sub (.cons (i := 0) rfl (.jnk rfl rfl) (.cons (i := 1) rfl (.own rfl rfl) (.cons (i := 2) rfl (.cel rfl rfl) .nil))) rfl⟩) ?_
 rintro x T S hO
 cases o_29 with
 | brk s =>
  obtain ⟨q_i4b_31, q_i1b_31, p11b_31⟩ := s
  obtain ⟨rfl, J_i5b_31, F_i4b_31, z_i1_1b_31, y_i1_1b_31, hT, hS⟩ := hO
  refine (show G (.exit 0) L F.as5 [(8, .ptr ⟨L + 1, 8, 0⟩ g_1 0 0), (10, w_13), (11, .lit (.int .i64 p11b_31))] [.jnk false [] J_i5b_31, .own false [] (.ptr 80 (l9 q_i4b_31)) w_13 F_i4b_31, .cel false [8] ⟨L + 1, 8, 0⟩ g_1 142 [.lit (.string (bs q_i1b_31.Out)), z_i1_1b_31, .lit (.int .i64 q_i1b_31.Steps)]] (Blk 0 (Thn P K.cw1 (ae2 L K.as5.res [.agg (an6 r.1), .int .i64 r.2]))) from ?_) T S hT hS
  refine aQ0 (aa0 (aa1 (aa1 (aa2 (o6 (s_mv rfl) (aq4 (Mv.sub (.cons (i := 1) rfl .rfl (.cons (i := 0) rfl .rfl (.cons (i := 2) rfl .rfl .nil))) rfl) ?_))))))
  rintro _ rfl
  obtain ⟨x_32, e_33, h⟩ := ae5 h
  refine ah6 (s_clQ (A1 := [.own false [] (.ptr 80 (l9 q_i4b_31)) w_13 F_i4b_31]) (fun _ => rfl) rfl rfl rfl (show InC [.o (.ptr 80 (l9 q_i4b_31))] _ _ from ⟨rfl, rfl, rfl, rfl⟩) rfl ((bc4) _ _ e_33)) ?_
  rintro _ ⟨c_34, rfl, r_35⟩
  obtain ⟨v_36, v_38, hE_40, r_37, r_39⟩ := cc5 r_35
  refine o6 (s_fd1c rfl (by rw [hE_40]; rfl)) (o6 (s_nt rfl) (aa4 (aa0 ?_)))
  by_cases h_41 : (!x_32.Done) = true
  ·replace h := iteT h h_41
   refine g_cT rfl h_41 (aa1 (aa2 (ah6 (cK1 (M' := an6 (D.ae4.mk [] [] 0)) bg4 (.nil _) rfl) ?_)))
   rintro _ ⟨c_42, rfl, r_43, kf_44⟩
   obtain ⟨_, hE_47, _, _, rfl, rfl, v_45, _, rfl, r_46, _, _, rfl, rfl, rfl⟩ := exL' r_43
   refine bY8 (i := 2) (b := .agg c_42) (cs' := [.lit (.string (bs ((D.ae4.mk [] [] 0).Out))), v_45, .lit (.int .i64 ((D.ae4.mk [] [] 0).Steps))]) rfl rfl rfl (by rw [hE_47]; rfl) (ab6.ones r_43) (fun a ha => .c (ak6 (ab6.closed r_43) a ha)) rfl (by rw [hE_47]; rfl) rfl (o6 (s_mv rfl) (aa4 (aa0 (ar4 (aY6 ?_)))))
   obtain rfl := Option.some.inj h
   exact b05 (.cn (i := 2) rfl ⟨_, _, _, rfl⟩ (x8 ah3 (x8 r_46 (x8 ac0 ar6))) rfl (.tr rfl rfl .nil))
  ·replace h := iteF h h_41
   refine g_cF rfl (Bool.eq_false_iff.2 h_41) (ai6 (aa0 (aa1 (aa2 (o6 (s_mv rfl) ?_)))))
   obtain ⟨x_48, e_49, h⟩ := ae5 h
   refine ah6 (s_clQ (A1 := [.own false [] (.ptr 80 (l9 q_i4b_31)) w_13 F_i4b_31]) (fun _ => rfl) rfl rfl rfl (show InC [.o (.ptr 80 (l9 q_i4b_31))] _ _ from ⟨rfl, rfl, rfl, rfl⟩) rfl ((bz8) _ _ e_49)) ?_
   rintro _ rfl
   refine o6 (s_mv rfl) ?_
   obtain ⟨x_50, e_51, h⟩ := ae5 h
   refine aN0 (A1 := [.own false [] (.ptr 80 (l9 q_i4b_31)) w_13 F_i4b_31]) rfl rfl (show InC [.o (.ptr 80 (l9 q_i4b_31))] _ _ from ⟨rfl, rfl, rfl, rfl⟩) rfl rfl rfl rfl rfl ((bo0) _ _ e_51) ?_
   rintro w_55 _ _ J_53 ⟨F_54, _, rfl, rfl⟩ ⟨F_56, rfl⟩
   refine aq4 (Mv.sub (.cons (i := 1) rfl .rfl (.cons (i := 0) rfl .rfl (.cons (i := 2) rfl .rfl (.cons (i := 3) rfl .rfl (.cons (i := 4) rfl .rfl .nil))))) rfl) ?_
   rintro _ rfl
   obtain ⟨x_57, e_58, h⟩ := ae5 h
   refine ah6 (s_clQ (A1 := [.own false [] (.ptr 96 (o7 x_50.2)) w_55 F_56]) (fun _ => rfl) rfl rfl rfl (show InC [.o (.ptr 96 (o7 x_50.2))] _ _ from ⟨rfl, rfl, rfl, rfl⟩) rfl ((by1) _ _ e_58)) ?_
   rintro v_59 r_60
   refine o6 (s_mv rfl) (ah6 (cK1 (M' := an6 (D.ae4.mk x_48 x_57 p11b_31)) bg4 (.cons (Xs := [.str x_48]) rfl (bk3 _) rfl rfl (.cons (Xs := [.sl 2 (x_57.map ai8)]) rfl (relCL1 r_60) rfl rfl (.cons (Xs := [.int .i64 p11b_31]) rfl (cR4 _ _) rfl rfl (.nil _)))) rfl) ?_)
   rintro _ ⟨c_61, rfl, r_62, kf_63⟩
   obtain ⟨_, hE_66, _, _, rfl, rfl, v_64, _, rfl, r_65, _, _, rfl, rfl, rfl⟩ := exL' r_62
   refine bY8 (i := 4) (b := .agg c_61) (cs' := [.lit (.string (bs ((D.ae4.mk x_48 x_57 p11b_31).Out))), v_64, .lit (.int .i64 ((D.ae4.mk x_48 x_57 p11b_31).Steps))]) rfl rfl rfl (by rw [hE_66]; rfl) (ab6.ones r_62) (fun a ha => .c (ak6 (ab6.closed r_62) a ha)) rfl (by rw [hE_66]; rfl) rfl (o6 (s_mv rfl) (aa4 (aa0 (ar4 ?_))))
   obtain rfl := Option.some.inj h
   exact b05 (.cn (i := 4) rfl ⟨_, _, _, rfl⟩ (x8 ah3 (x8 r_65 (x8 ac0 ar6))) rfl (.tr rfl rfl .nil))
 | ret r =>
  obtain rfl := Option.some.inj h
  obtain ⟨rfl, hO⟩ := hO
  exact hO
def S.ap3 (P : Program) (φ : List UInt8 → D.ak3 → (List (List UInt8)) → Int → Option (List UInt8 × Int × Int)) : Prop := ∀ (a0 : List UInt8) (a1 : D.ak3) (a2 : (List (List UInt8))) (a3 : Int) (r : (List UInt8 × Int × Int)), φ a0 a1 a2 a3 = some r → ∀ (k0 : Nat) (args : List AV), RVN [.str a0, .agg (ao7 a1), .sl 1 (a2.map aa8), .int .i64 a3] args → a15 P F.ap3 args (ResC [.str r.1, .int .i64 r.2.1, .int .i64 r.2.2])
theorem bV2 {P : Program} [hc : ae8 P] (fu : Nat) : S.ap3 P (ap3 fu) := by
 intro a0 a1 a2 a3 r h k0 args ha
 refine ao1 (b := K.ap3) rfl hc.ap3 (fun _ => rfl) rfl rfl ?_ ha
 rintro L _ ⟨_, _, rfl, rfl, _, _, rfl, ⟨ac1, rfl, ar1⟩, av2, _, rfl, ar2, _, _, rfl, rfl, rfl⟩
 unfold ap3 at h
 show GC P _ L F.ap3 [(0, .lit (.string (bs a0))), (1, .agg ac1), (2, av2), (3, .lit (.int .i64 a3))] [] (ae2 L K.ap3.res [.str r.1, .int .i64 r.2.1, .int .i64 r.2.2])
 refine aa1 (aa2 ?_)
 refine g_bx rfl rfl rfl fun g_1 => ?_
 refine o6 (s_mv rfl) (o6 (s_mv rfl) (o6 (s_mv rfl) (aa4 (aa0 (aa1 (aa2 (o6 (s_mv rfl) ?_)))))))
 refine ah6 (c61 (off := 0) (N := ao7 a1) rfl rfl ar1 rfl rfl) ?_
 rintro _ ⟨c_2, rfl, r_3⟩
 obtain ⟨x_4, e_5, h⟩ := ae5 h
 refine ah6 (s_clB (rs := [.str a0, .agg (ao7 a1)]) (fun _ => rfl) rfl (RVL.toN (L := L + 1) ⟨_, _, rfl, rfl, _, _, rfl, ⟨_, rfl, r_3.toS⟩, rfl⟩) ((cB6) _ _ _ e_5 (L + 1) _)) ?_
 rintro _ ⟨_, rfl, v_6, _, rfl, r_7, v_8, _, rfl, r_9, _, _, rfl, rfl, _, _, rfl, rfl, rfl⟩
 refine o6 (s_mv rfl) (o6 (s_ex rfl rfl) (o6 (s_ex rfl rfl) (o6 (s_ex rfl rfl) (o6 (s_ex rfl rfl) (o6 (s_mv rfl) (o6 (s_mv rfl) (o6 (s_mv rfl) ?_)))))))
 refine o6 (s_mv rfl) (aa4 (aa0 (aa1 (aa1 (aa2 (o6 (s_mv rfl) (o6 (s_ib rfl rfl rfl) ?_)))))))
 refine aa4 (aa0 ?_)
 by_cases h_10 : x_4.2.2.2 ≠ 0
 ·replace h := iteT h h_10
  refine g_cT rfl (decide_eq_true h_10) (aa1 (aa2 (o6 (s_mv rfl) (o6 (s_mv rfl) (o6 (s_mv rfl) (o6 (s_mv rfl) (o6 (s_mv rfl) ?_)))))))
  refine aa4 (aa0 (ar4 (aY6 ?_)))
  obtain rfl := Option.some.inj h
  exact br3 (.t rfl rfl (.t rfl rfl (.t rfl rfl .nil)))
 ·replace h := iteF h h_10
  refine g_cF rfl (decide_eq_false h_10) (ai6 (aa0 (aa1 (aa2 (o6 (s_mv rfl) (o6 (s_mv rfl) (o6 (s_mv rfl) ?_)))))))
  obtain ⟨x_11, e_12, h⟩ := ae5 h
  refine ah6 (bW7 (rs := [.v (vref ac2 x_4.1), .sl 1 (a2.map aa8), .sl 2 ([].map ai8), .int .i64 a3]) (fun _ => rfl) rfl (RVL.toN (L := L + 1) ⟨_, _, rfl, r_7, _, _, rfl, ar2.toS, _, _, rfl, (RelC.nil 2 _).toS, _, _, rfl, rfl, rfl⟩) ((cR7 fu) _ _ _ _ _ e_12 (L + 1) _)) ?_
  rintro _ ⟨_, rfl, _, _, rfl, ⟨c_13, rfl, r_14⟩, _, _, rfl, rfl, rfl⟩
  refine o6 (s_mv rfl) (o6 (s_ex rfl rfl) (o6 (s_ex rfl rfl) ?_))
  refine g_al rfl fun g_15 => ?_
  refine g_stC (Xs := an6 x_11.1) (M' := an6 x_11.1) rfl rfl rfl rfl bg4 r_14 rfl rfl rfl fun d_16 s_17 q_18 => ?_
  refine o6 (s_mv rfl) (aa4 (aa0 (aa1 (aa2 (o6 (s_fa rfl rfl) (o6 (cu8 (off := 0) (v := .str x_11.1.Out) (a := .lit (.string (bs x_11.1.Out))) rfl rfl (s_17).toS rfl (fun _ => bR7)) (o6 (s_mv rfl) ?_)))))))
  refine o6 (s_mv rfl) (o6 (s_mv rfl) (o6 (s_mv rfl) (aa4 (aa0 (ar4 ?_)))))
  obtain rfl := Option.some.inj h
  exact br3 (.t rfl rfl (.t rfl rfl (.t rfl rfl .nil)))
end Go.Proofs.YtbinfgmdamlkbaaGreatDoor
namespace Go.Proofs.YtbinfgmdamlkbaaGreatDoor
open Go.RowKit
def S.aa6 (P : Program) (φ : (List (List UInt8)) → Bool → Option Bool) : Prop := ∀ (a0 : (List (List UInt8))) (a1 : Bool) (r : Bool), φ a0 a1 = some r → ∀ (k0 : Nat) (args : List AV), RVN [.sl 1 (a0.map aa8), .bool a1] args → a15 P F.aa6 args (ResC [.bool r])
def at1 (L : Nat) (p0 : (List (List UInt8))) (p1 : Bool) (p6 : Int) (p24 : (List (List UInt8))) (p25 : Int) (v0 : AV) (v24 : AV)  : (List UInt8 × Int) → BT → AS → Prop := fun (p5, p26) T S => Ag [(0, v0), (1, .lit (.bool p1)), (5, .lit (.string (bs p5))), (6, .lit (.int .i64 p6)), (24, v24), (25, .lit (.int .i64 p25)), (26, .lit (.int .i64 p26))] T ∧ StA S L F.aa6 []
def ay5 (L : Nat) (p0 : (List (List UInt8))) (p1 : Bool) (p6 : Int) (p24 : (List (List UInt8))) (p25 : Int) (v0 : AV) (v24 : AV)  : List UInt8 → BT → AS → Prop := fun p5 T S => Ag [(0, v0), (1, .lit (.bool p1)), (5, .lit (.string (bs p5))), (6, .lit (.int .i64 p6))] T ∧ StA S L F.aa6 []
theorem bu3 {P : Program} [hc : ae8 P] (fu : Nat) {L : Nat} (p0 : (List (List UInt8))) (p1 : Bool) (p6 : Int) (p24 : (List (List UInt8))) (p25 : Int) {v0 : AV} {v24 : AV} (r0 : RelC (.sl 1 (p0.map aa8)) v0) (r24 : RelC (.sl 1 (p24.map aa8)) v24) : ∀ (s : (List UInt8 × Int)) (c : Ctl (List UInt8 × Int) (List UInt8) Bool), am6 fu p0 p1 p6 p24 p25 s = some c → ∀ T S, at1 L p0 p1 p6 p24 p25 v0 v24 s T S → RunB P K.aH6 T S (at7 0 (at1 L p0 p1 p6 p24 p25 v0 v24) (ay5 L p0 p1 p6 p24 p25 v0 v24) (fun r => ae2 L K.aa6.res [.bool r]) c) := by
 rintro ⟨p5, p26⟩ c h T S ⟨hT, hS⟩
 unfold am6 at h
 refine (show GC P K.aH6 L F.aa6 [(0, v0), (1, .lit (.bool p1)), (5, .lit (.string (bs p5))), (6, .lit (.int .i64 p6)), (24, v24), (25, .lit (.int .i64 p25)), (26, .lit (.int .i64 p26))] [] (at7 0 (at1 L p0 p1 p6 p24 p25 v0 v24) (ay5 L p0 p1 p6 p24 p25 v0 v24) (fun r => ae2 L K.aa6.res [.bool r]) c) from ?_) T S hT hS
 refine aa1 (aa2 (o6 (s_ib rfl rfl rfl) (aa4 (aa0 (aa1 ?_)))))
 by_cases h_15 : p26 < p25
 ·replace h := iteT h h_15
  refine g_cT rfl (decide_eq_true h_15) (ai6 (aa0 (aa1 (ai7 (aa1 (aa2 ?_))))))
  obtain ⟨x_18, e_19, h⟩ := ae5 h
  refine ah6 (s_ia (c := aa8) rfl r24.toS rfl e_19) ?_
  rintro _ ⟨c_16, rfl, r_17⟩
  refine o6 (aO7 (v := .str x_18) (a := .lit (.string (bs x_18))) rfl r_17 rfl (fun _ => aw4)) (o6 (s_mv rfl) (aa4 (aa0 (aa1 (aa1 (aa2 (o6 (s_mv rfl) ?_)))))))
  refine o6 (s_ls rfl) (o6 (s_ib rfl rfl rfl) (aa4 (aa0 ?_)))
  by_cases h_20 : (x_18.length : Int) > 100
  ·replace h := iteT h h_20
   refine g_cT rfl (decide_eq_true h_20) (aa1 (aa2 (o6 (s_mv rfl) (aa4 (aa0 (ar4 (aY6 ?_)))))))
   refine cR5 (aY6 ?_)
   obtain rfl := Option.some.inj h
   exact fun T S hT hS => ⟨rfl, (br3 (x := .ret) (rs := [.bool true]) (.t rfl rfl .nil)) T S hT hS⟩
  ·replace h := iteF h h_20
   refine g_cF rfl (decide_eq_false h_20) (ai6 (aa0 (aa2 (o6 (s_mv rfl) (o6 (s_mv rfl) ?_)))))
   obtain ⟨x_21, e_22, h⟩ := ae5 h
   refine o6 (cq5 rfl rfl e_22) ?_
   obtain ⟨x_23, e_24, h⟩ := ae5 h
   refine o6 (cq5 rfl rfl e_24) (o6 (s_mv rfl) (aa4 (ak8 (aa0 (aa2 (o6 (s_ib rfl rfl rfl) (o6 (s_mv rfl) ?_)))))))
   refine aa4 ?_
   obtain rfl := Option.some.inj h
   exact fun T S hT hS => ⟨rfl, ⟨hT.sub (subE.cons rfl (subE.cons rfl (subE.cons rfl (subE.cons rfl (subE.cons rfl (subE.cons rfl (subE.cons rfl (subE.nil _)))))))), hS.sub .nil rfl⟩⟩
 ·replace h := iteF h h_15
  refine g_cF rfl (decide_eq_false h_15) (aO2 (aN9 ?_))
  obtain rfl := Option.some.inj h
  exact fun T S hT hS => ⟨rfl, ⟨hT.sub (subE.cons rfl (subE.cons rfl (subE.cons rfl (subE.cons rfl (subE.nil _))))), hS.sub .nil rfl⟩⟩
def au0 (L : Nat) (p0 : (List (List UInt8))) (p1 : Bool) (p5 : List UInt8) (p39 : Int) (v0 : AV)  : (Int × Int) → BT → AS → Prop := fun (p6, p40) T S => Ag [(0, v0), (1, .lit (.bool p1)), (5, .lit (.string (bs p5))), (6, .lit (.int .i64 p6)), (39, .lit (.int .i64 p39)), (40, .lit (.int .i64 p40))] T ∧ StA S L F.aa6 []
def ay3 (L : Nat) (p0 : (List (List UInt8))) (p1 : Bool) (p5 : List UInt8) (p39 : Int) (v0 : AV)  : Int → BT → AS → Prop := fun p6 T S => Ag [(0, v0), (1, .lit (.bool p1)), (5, .lit (.string (bs p5))), (6, .lit (.int .i64 p6))] T ∧ StA S L F.aa6 []
theorem bs9 {P : Program} [hc : ae8 P] (fu : Nat) {L : Nat} (p0 : (List (List UInt8))) (p1 : Bool) (p5 : List UInt8) (p39 : Int) {v0 : AV} (r0 : RelC (.sl 1 (p0.map aa8)) v0) : ∀ (s : (Int × Int)) (c : Ctl (Int × Int) Int Bool), am5 fu p0 p1 p5 p39 s = some c → ∀ T S, au0 L p0 p1 p5 p39 v0 s T S → RunB P K.aC0 T S (at7 2 (au0 L p0 p1 p5 p39 v0) (ay3 L p0 p1 p5 p39 v0) (fun r => ae2 L K.aa6.res [.bool r]) c) := by
 rintro ⟨p6, p40⟩ c h T S ⟨hT, hS⟩
 unfold am5 at h
 refine (show GC P K.aC0 L F.aa6 [(0, v0), (1, .lit (.bool p1)), (5, .lit (.string (bs p5))), (6, .lit (.int .i64 p6)), (39, .lit (.int .i64 p39)), (40, .lit (.int .i64 p40))] [] (at7 2 (au0 L p0 p1 p5 p39 v0) (ay3 L p0 p1 p5 p39 v0) (fun r => ae2 L K.aa6.res [.bool r]) c) from ?_) T S hT hS
 refine aa1 (aa2 (o6 (s_ib rfl rfl rfl) (aa4 (aa0 (aa1 ?_)))))
 by_cases h_28 : p40 < p39
 ·replace h := iteT h h_28
  refine g_cT rfl (decide_eq_true h_28) (ai6 (aa0 (aa1 (ai7 (aa1 (aa2 (o6 (s_mv rfl) ?_)))))))
  refine o6 (s_mv rfl) (aa4 (aa0 (aa1 (aa2 (o6 (s_mv rfl) (o6 (s_mv rfl) ?_))))))
  obtain ⟨x_29, e_30, h⟩ := ae5 h
  refine o6 (s_xs rfl rfl e_30) (o6 (s_ib rfl rfl rfl) (aa4 (aa0 ?_)))
  by_cases h_31 : x_29 = 10
  ·replace h := iteT h h_31
   refine g_cT rfl (decide_eq_true h_31) (aa2 (o6 (s_mv rfl) (o6 (s_ib rfl rfl rfl) (o6 (s_mv rfl) (aa4 (ak8 (aa0 ?_)))))))
   refine aa2 (o6 (s_ib rfl rfl rfl) (o6 (s_mv rfl) (aa4 ?_)))
   obtain rfl := Option.some.inj h
   exact fun T S hT hS => ⟨rfl, ⟨hT.sub (subE.cons rfl (subE.cons rfl (subE.cons rfl (subE.cons rfl (subE.cons rfl (subE.cons rfl (subE.nil _))))))), hS.sub .nil rfl⟩⟩
  ·replace h := iteF h h_31
   refine g_cF rfl (decide_eq_false h_31) (ai6 (ak8 (aa0 (aa2 (o6 (s_ib rfl rfl rfl) (o6 (s_mv rfl) (aa4 ?_)))))))
   obtain rfl := Option.some.inj h
   exact fun T S hT hS => ⟨rfl, ⟨hT.sub (subE.cons rfl (subE.cons rfl (subE.cons rfl (subE.cons rfl (subE.cons rfl (subE.cons rfl (subE.nil _))))))), hS.sub .nil rfl⟩⟩
 ·replace h := iteF h h_28
  refine g_cF rfl (decide_eq_false h_28) (aO2 (aN9 ?_))
  obtain rfl := Option.some.inj h
  exact fun T S hT hS => ⟨rfl, ⟨hT.sub (subE.cons rfl (subE.cons rfl (subE.cons rfl (subE.cons rfl (subE.nil _))))), hS.sub .nil rfl⟩⟩
theorem aM0 {P : Program} [hc : ae8 P] (fu : Nat) {L : Nat} (p0 : (List (List UInt8))) (p1 : Bool) (p5 : List UInt8) (p6 : Int) {v0 : AV} (r0 : RelC (.sl 1 (p0.map aa8)) v0) : ∀ (r : Bool), ap1 fu p0 p1 p5 p6 = some r → G .normal L F.aa6 [(0, v0), (1, .lit (.bool p1)), (5, .lit (.string (bs p5))), (6, .lit (.int .i64 p6))] [] (Thn P K.aR6 (ae2 L K.aa6.res [.bool r])) := by
 intro r h
 unfold ap1 at h
 refine aa0 (aa1 (aa2 (o6 (s_mv rfl) (ah6 (cK1 (M' := ao7 (D.ak3.mk false p1)) bH0 (.cons (Xs := [.bool p1]) rfl (bo3 _) rfl rfl (.nil _)) rfl) ?_))))
 rintro _ ⟨c_36, rfl, r_37, kf_38⟩
 refine ah6 (cE4 (es' := List.map aa8 []) rfl .nil rfl) ?_
 rintro v_39 ⟨r_40, k_41⟩
 refine o6 (s_mv rfl) ?_
 obtain ⟨x_42, e_43, h⟩ := ae5 h
 refine g_add (ks := [56]) (n := 1) (e := 9) (x := v_39) (.inr k_41) ?_
 refine g_apC (i := 0) (c := aa8) rfl rfl rfl rfl r_40.toS r0 rfl rfl e_43 fun v_44 r_45 => ?_
 refine o6 (s_mv rfl) ?_
 obtain ⟨x_46, e_47, h⟩ := ae5 h
 refine ah6 (bW7 (rs := [.str [], .agg (ao7 (D.ak3.mk false p1)), .sl 1 (x_42.map aa8), .int .i64 p6]) (fun _ => rfl) rfl (RVL.toN (L := L + 1) ⟨_, _, rfl, rfl, _, _, rfl, ⟨_, rfl, r_37.toS⟩, _, _, rfl, r_45, _, _, rfl, rfl, rfl⟩) ((bV2 fu) _ _ _ _ _ e_47 (L + 1) _)) ?_
 rintro _ ⟨_, rfl, _, _, rfl, rfl, _, _, rfl, rfl, _, _, rfl, rfl, rfl⟩
 refine o6 (s_mv rfl) (o6 (s_ex rfl rfl) (o6 (s_ex rfl rfl) (o6 (s_ex rfl rfl) (o6 (s_mv rfl) (o6 (s_mv rfl) (o6 (s_mv rfl) (aa4 ?_)))))))
 refine aa0 (aa1 (aa2 (o6 (s_mv rfl) (ah6 (cK1 (M' := ao7 (D.ak3.mk false p1)) bH0 (.cons (Xs := [.bool p1]) rfl (bo3 _) rfl rfl (.nil _)) rfl) ?_))))
 rintro _ ⟨c_48, rfl, r_49, kf_50⟩
 refine ah6 (cE4 (es' := List.map aa8 []) rfl .nil rfl) ?_
 rintro v_51 ⟨r_52, k_53⟩
 refine o6 (s_mv rfl) ?_
 obtain ⟨x_54, e_55, h⟩ := ae5 h
 refine g_add (ks := [67]) (n := 1) (e := 9) (x := v_51) (.inr k_53) ?_
 refine g_apC (i := 0) (c := aa8) rfl rfl rfl rfl r_52.toS r0 rfl rfl e_55 fun v_56 r_57 => ?_
 refine o6 (s_mv rfl) (o6 (s_ib rfl rfl rfl) ?_)
 obtain ⟨x_58, e_59, h⟩ := ae5 h
 refine ah6 (bW7 (rs := [.str [], .agg (ao7 (D.ak3.mk false p1)), .sl 1 (x_54.map aa8), .int .i64 (G.subI p6 1)]) (fun _ => rfl) rfl (RVL.toN (L := L + 1) ⟨_, _, rfl, rfl, _, _, rfl, ⟨_, rfl, r_49.toS⟩, _, _, rfl, r_57, _, _, rfl, rfl, rfl⟩) ((bV2 fu) _ _ _ _ _ e_59 (L + 1) _)) ?_
 rintro _ ⟨_, rfl, _, _, rfl, rfl, _, _, rfl, rfl, _, _, rfl, rfl, rfl⟩
 refine o6 (s_mv rfl) (o6 (s_ex rfl rfl) (o6 (s_ex rfl rfl) (o6 (s_ex rfl rfl) (o6 (s_mv rfl) (o6 (s_mv rfl) (o6 (s_mv rfl) (aa4 ?_)))))))
 refine aa0 (aa1 (aa2 (o6 (s_mv rfl) (o6 (s_mv rfl) (o6 (s_seq1 rfl rfl) (o6 (s_mv rfl) ?_))))))
 refine ax9 (gb := (decide (x_46.1 = p5))) (af := af0) (Q := fun u => u = .lit (.int .i64 x_46.2.1)) rfl (ag3 _) (fun hg => ?_) ?_
 ·exact s_mv rfl
 intro v_62 hv_60 hu_61
 refine ax9 (gb := (decide (x_46.1 = p5))) (af := af0) (Q := fun u => u = .lit (.bool (decide (x_46.2.1 = 0)))) rfl (ag3 _) (fun hg => ?_) ?_
 ·obtain rfl := (hv_60 hg).symm; exact s_ib rfl rfl rfl
 intro v_65 hv_63 hu_64
 refine o6 (cK7 (b := decide (x_46.2.1 = 0)) rfl rfl (fun hq => by obtain rfl := (hv_63 hq).symm <;> rfl)) (o6 (s_mv rfl) ?_)
 refine ax9 (gb := ((decide (x_46.1 = p5)) && (decide (x_46.2.1 = 0)))) (af := af0) (Q := fun u => u = .lit (.int .i64 x_46.2.2)) rfl (ag3 _) (fun hg => ?_) ?_
 ·exact s_mv rfl
 intro v_68 hv_66 hu_67
 refine ax9 (gb := ((decide (x_46.1 = p5)) && (decide (x_46.2.1 = 0)))) (af := af0) (Q := fun u => u = .lit (.bool (decide (x_46.2.2 = 0)))) rfl (ag3 _) (fun hg => ?_) ?_
 ·obtain rfl := (hv_66 hg).symm; exact s_ib rfl rfl rfl
 intro v_71 hv_69 hu_70
 refine o6 (cK7 (b := decide (x_46.2.2 = 0)) rfl rfl (fun hq => by obtain rfl := (hv_69 hq).symm <;> rfl)) (o6 (s_mv rfl) ?_)
 refine ax9 (gb := (((decide (x_46.1 = p5)) && (decide (x_46.2.1 = 0))) && (decide (x_46.2.2 = 0)))) (af := af0) (Q := fun u => u = .lit (.int .i64 x_58.2.2)) rfl (ag3 _) (fun hg => ?_) ?_
 ·exact s_mv rfl
 intro v_74 hv_72 hu_73
 refine ax9 (gb := (((decide (x_46.1 = p5)) && (decide (x_46.2.1 = 0))) && (decide (x_46.2.2 = 0)))) (af := af0) (Q := fun u => u = .lit (.bool (decide (x_58.2.2 = 21)))) rfl (ag3 _) (fun hg => ?_) ?_
 ·obtain rfl := (hv_72 hg).symm; exact s_ib rfl rfl rfl
 intro v_77 hv_75 hu_76
 refine ax9 (gb := (((decide (x_46.1 = p5)) && (decide (x_46.2.1 = 0))) && (decide (x_46.2.2 = 0)))) (af := af0) (Q := fun u => u = .lit (.int .i64 p6)) rfl (ag3 _) (fun hg => ?_) ?_
 ·exact s_mv rfl
 intro v_80 hv_78 hu_79
 refine ax9 (gb := (((decide (x_46.1 = p5)) && (decide (x_46.2.1 = 0))) && (decide (x_46.2.2 = 0)))) (af := af0) (Q := fun u => u = .lit (.bool (decide (p6 > 0)))) rfl (ag3 _) (fun hg => ?_) ?_
 ·obtain rfl := (hv_78 hg).symm; exact s_ib rfl rfl rfl
 intro v_83 hv_81 hu_82
 refine ax9 (gb := (((decide (x_46.1 = p5)) && (decide (x_46.2.1 = 0))) && (decide (x_46.2.2 = 0)))) (af := af0) (Q := fun u => u = .lit (.bool (decide ((decide (x_58.2.2 = 21)) = (decide (p6 > 0))) != false))) rfl (ag3 _) (fun hg => ?_) ?_
 ·obtain rfl := (hv_75 hg).symm; obtain rfl := (hv_81 hg).symm; exact s_bb rfl rfl
 intro v_86 hv_84 hu_85
 refine o6 (cK7 (b := (decide ((decide (x_58.2.2 = 21)) = (decide (p6 > 0))) != false)) rfl rfl (fun hq => by obtain rfl := (hv_84 hq).symm <;> rfl)) (o6 (s_mv rfl) (aa4 (aa0 (ar4 ?_))))
 obtain rfl := Option.some.inj h
 exact br3 (.t rfl rfl .nil)
theorem bL0 {P : Program} [hc : ae8 P] (fu : Nat) : S.aa6 P (aa6 fu) := by
 intro a0 a1 r h k0 args ha
 refine ao1 (b := K.aa6) rfl hc.aa6 (fun _ => rfl) rfl rfl ?_ ha
 rintro L _ ⟨av0, _, rfl, ar0, _, _, rfl, rfl, rfl⟩
 unfold aa6 at h
 show GC P _ L F.aa6 [(0, av0), (1, .lit (.bool a1))] [] (ae2 L K.aa6.res [.bool r])
 refine aa1 (aa2 (o6 (s_mv rfl) (aa4 (aa0 (aa1 (aa1 (aa2 ?_)))))))
 obtain ⟨x_1, e_2, h⟩ := ae5 h
 refine ah6 (s_clX (fun _ => rfl) rfl rfl (hc.ext_law20_awake _ e_2)) ?_
 rintro _ rfl
 refine o6 (s_nt rfl) (o6 (s_mv rfl) ?_)
 refine ax9 (gb := (!(!x_1))) (af := af0) (Q := fun u => u = av0) rfl (ag9 _) (fun hg => ?_) ?_
 ·exact s_mv rfl
 intro v_5 hv_3 hu_4
 refine ax9 (gb := (!(!x_1))) (af := (none, some [])) (Q := fun u => u = .lit (.int .i64 (a0.length : Int))) rfl (ag9 _) (fun hg => ?_) ?_
 ·obtain rfl := (hv_3 hg).symm; exact s_ll (c := aa8) rfl ar0.toS
 intro v_8 hv_6 hu_7
 refine ax9 (gb := (!(!x_1))) (af := af0) (Q := fun u => u = .lit (.bool (decide ((a0.length : Int) > 20)))) rfl (ag9 _) (fun hg => ?_) ?_
 ·obtain rfl := (hv_6 hg).symm; exact s_ib rfl rfl rfl
 intro v_11 hv_9 hu_10
 refine o6 (s_or (b := decide ((a0.length : Int) > 20)) rfl rfl (fun hq => by obtain rfl := (hv_9 hq).symm <;> rfl)) (aa4 (aa0 ?_))
 by_cases h_12 : ((!x_1) || (decide ((a0.length : Int) > 20))) = true
 ·replace h := iteT h h_12
  refine g_cT rfl h_12 (aa1 (aa2 ?_))
  obtain ⟨x_13, e_14, h⟩ := ae5 h
  refine ah6 (s_clX (fun _ => rfl) rfl rfl (hc.ext_law20_awake _ e_14)) ?_
  rintro _ rfl
  refine o6 (s_mv rfl) (aa4 (aa0 (ar4 (aY6 ?_))))
  obtain rfl := Option.some.inj h
  exact br3 (.t rfl rfl .nil)
 ·replace h := iteF h h_12
  refine g_cF rfl (Bool.eq_false_iff.2 h_12) (ai6 (aa0 (aa1 (aa2 (o6 (s_mv rfl) (o6 (s_mv rfl) (aa4 ?_)))))))
  refine aa0 (aa1 (aa1 (aa2 (o6 (s_mv rfl) (o6 (bX7 (c := aa8) rfl ar0) (o6 (s_mv rfl) (aa4 ?_)))))))
  refine aa0 (ai7 ?_)
  obtain ⟨o_25, e_26, h⟩ := ae5 h
  refine aR0 (IN := at1 L a0 a1 0 a0 (a0.length : Int) av0 av0) (IB := ay5 L a0 a1 0 a0 (a0.length : Int) av0 av0) (IR := fun r => ae2 L K.aa6.res [.bool r]) e_26 (bu3 fu a0 a1 0 a0 (a0.length : Int) (v0 := av0) (v24 := av0) ar0 ar0) (fun T S hT hS => ⟨hT.sub (subE.cons rfl (subE.cons rfl (subE.cons rfl (subE.cons rfl (subE.cons rfl (subE.cons rfl (subE.cons rfl (subE.nil _)))))))), hS.sub .nil rfl⟩) ?_
  rintro x T S hO
  cases o_25 with
  | brk p5b_27 =>
   obtain ⟨rfl, hT, hS⟩ := hO
   refine (show G (.exit 0) L F.aa6 [(0, av0), (1, .lit (.bool a1)), (5, .lit (.string (bs p5b_27))), (6, .lit (.int .i64 0))] [] (Blk 0 (Thn P K.aS3 (ae2 L K.aa6.res [.bool r]))) from ?_) T S hT hS
   refine aQ0 (aa0 (aa1 (aa1 (aa2 (o6 (s_mv rfl) (o6 (s_ls rfl) (o6 (s_mv rfl) ?_)))))))
   refine aa4 (aa0 (ai7 ?_))
   obtain ⟨o_32, e_33, h⟩ := ae5 h
   refine aR0 (IN := au0 L a0 a1 p5b_27 (p5b_27.length : Int) av0) (IB := ay3 L a0 a1 p5b_27 (p5b_27.length : Int) av0) (IR := fun r => ae2 L K.aa6.res [.bool r]) e_33 (bs9 fu a0 a1 p5b_27 (p5b_27.length : Int) (v0 := av0) ar0) (fun T S hT hS => ⟨hT.sub (subE.cons rfl (subE.cons rfl (subE.cons rfl (subE.cons rfl (subE.cons rfl (subE.cons rfl (subE.nil _))))))), hS.sub .nil rfl⟩) ?_
   rintro x T S hO
   cases o_32 with
   | brk p6b_34 =>
    obtain ⟨rfl, hT, hS⟩ := hO
    refine (show G (.exit 2) L F.aa6 [(0, av0), (1, .lit (.bool a1)), (5, .lit (.string (bs p5b_27))), (6, .lit (.int .i64 p6b_34))] [] (Blk 2 (Thn P K.aQ8 (ae2 L K.aa6.res [.bool r]))) from ?_) T S hT hS
    refine aQ0 (aa0 (aa1 (aa1 (aa2 (o6 (s_mv rfl) (aa4 (aa0 ?_)))))))
    by_cases h_35 : a1 = true
    ·replace h := iteT h h_35
     refine g_cT rfl h_35 (aa2 (o6 (s_mv rfl) (aa4 ?_)))
     exact b57 (subE.cons rfl (subE.cons rfl (subE.cons rfl (subE.cons rfl (subE.nil _))))) .nil rfl (aM0 fu a0 a1 [] p6b_34 (v0 := av0) ar0 _ h)
    ·replace h := iteF h h_35
     refine g_cF rfl (Bool.eq_false_iff.2 h_35) (ai6 ?_)
     exact b57 (subE.cons rfl (subE.cons rfl (subE.cons rfl (subE.cons rfl (subE.nil _))))) .nil rfl (aM0 fu a0 a1 p5b_27 p6b_34 (v0 := av0) ar0 _ h)
   | ret r =>
    obtain rfl := Option.some.inj h
    obtain ⟨rfl, hO⟩ := hO
    exact hO
  | ret r =>
   obtain rfl := Option.some.inj h
   obtain ⟨rfl, hO⟩ := hO
   exact hO
end Go.Proofs.YtbinfgmdamlkbaaGreatDoor
namespace Go.Proofs.YtbinfgmdamlkbaaGreatDoor
open Go.ChangeShapes Go.WideShapes Go.ChangeAt Go.RowKit Go.Deep
namespace runEmpty
theorem runs (y : shT.Ty) (b : Bool) (W : World) (args' : Array Value) (ht : ∀ x ∈ Cfg.tabs, ∃ v, W.cell? ⟨x.1, x.2.1, none⟩ = some v ∧ x.2.2 v) (ha : CRel (Gh.start W) [slV 1 (y.1.map Sh.str.avs) y.2, .lit (.bool b)] args'.toList) :
  Calls Tryz.prog F.aa6 args' W fun e W' => e = .returned (.bool true) ∧ Below W.heap.size W W' := by
 obtain ⟨v, h1, h2⟩ := bL0 (P := Tryz.prog) 1 y.1 b true (cy6 y.1 b) 0 [slV 1 (y.1.map Sh.str.avs) y.2, .lit (.bool b)] ⟨_, _, rfl, RV.C.nrmA (r := .sl 1 (List.map aa8 y.1)) (cQ1 y), _, _, rfl, rfl, rfl⟩ .bare _ rfl
 obtain rfl : v = .lit (.bool true) := h2
 exact cL6 cfgOk givenOk b98 h1 ht ha
set_option maxRecDepth 100000 in
theorem contract (H : Type) (enc : TypeId × Value → H) (W : World) (base : Nat) (args : Array Value) (ds gs : List (DataW H)) (before : List MemPlace)
  (hval : ∀ (j : Nat) t v, Tryz.f4.params[j]? = some t → args[j]? = some v → Value.okWide Tryz.prog W .any base t v)
  (hW : DataW.Whole enc Tryz.prog Tryz.f4.params.toList Rows.runEmptySpec.vars false W args.toList ds gs before) (hlaid : laidMet Tryz.prog Rows.runEmptyRow.laid W) (hsh : W.ShapedOpen Tryz.prog) :
  Calls Tryz.prog 4 args W fun e W' => ∃ v, e = .returned v ∧ Rows.runEmptySpec.post enc Tryz.prog Tryz.f4 false true false false W args v W' := by
 have hW' := hW
 obtain ⟨p, q, hA0, hV, rfl, hfz, hnd⟩ := hW
 have hA : DataW.TrodAll enc Tryz.prog W 0 (fun _ => true) true Tryz.f4.params.toList args.toList ds p := hA0
 rw [Tryz.params4] at hA hval
 obtain ⟨v0, vs0, d0, ds0, p0, q0, hargs, rfl, rfl, h0, r0⟩ := trodAll_cons hA
 obtain ⟨v1, vs1, d1, ds1, p1, q1, rfl, rfl, rfl, h1, r1⟩ := trodAll_cons r0
 obtain ⟨rfl, rfl, rfl⟩ := trodAll_nil r1
 obtain rfl : args = #[v0, v1] := by cases args; simp_all
 obtain ⟨rfl, rfl⟩ := trodVars_none hV
 obtain ⟨a0, l0, c0, rfl⟩ := okWide_slice Tryz.underlying22 (hval 0 22 v0 rfl rfl)
 obtain ⟨n1, rfl⟩ := okWide_bool Tryz.underlying4 (hval 1 4 v1 rfl rfl)
 obtain ⟨fuel, h0⟩ := h0
 obtain ⟨fuel1, h1⟩ := h1
 obtain ⟨y0, e0, w0⟩ := shT.open (by kernel_rfl) h0
 obtain ⟨y1, e1, w1⟩ := Sh.bool.open (by kernel_rfl) h1
 clear hA0
 refine (runs y0 y1 W #[.slice a0 l0 c0, .bool n1] (tabs W hlaid hsh) (CRel.cons (CRel.head e0) (CRel.cons (CRel.head e1) (CRel.nil _)))).mono fun e W' ⟨he, hb⟩ => ?_
 subst he
 exact ⟨_, rfl, cX2 laidOut (by kernel_rfl) rfl Tryz.underlying4 rfl (fun x hx => by match x, hx with | [a, b], _ => rfl) hW' hb⟩
def wA : Array Value := #[.slice none 0 0, .bool false]
theorem laid_met (os : Os) : laidMet Tryz.prog Rows.runEmptyRow.laid ((laidWorld os).forCall (fun _ _ => 0) ⟨#[], wA, []⟩).memory :=
 laidMet_of_run' 8 (by kernel_rfl) (by kernel_rfl)
theorem reads (os : Os) {H : Type} (enc : TypeId × Value → H) : ∃ ds places, DataW.whole enc Tryz.prog ((laidWorld os).forCall (fun _ _ => 0) ⟨#[], wA, []⟩).memory Tryz.f4.params.toList Rows.runEmptySpec.vars false wA.toList 8 = some (ds, [], places) :=
 ⟨[.nil, .lit (.bool false)], [], by kernel_rfl⟩
set_option maxRecDepth 100000 in
theorem lifted (os : Os) (started : os.Started) (H : Type) (enc : TypeId × Value → H) (F : Stop.Interp) :
  ReturnsInHanded {} Tryz.checked os 4 .any ((OpenSpec.ofChange Rows.runEmptySpec).preRow enc Tryz.prog Tryz.f4 Rows.runEmptyRow.domain false Rows.runEmptyRow.laid) (((OpenSpec.ofChange Rows.runEmptySpec).at F).post enc Tryz.prog Tryz.f4 false true false false) := by
 obtain ⟨ds0, places, hx⟩ := reads os enc
 refine returnsInHanded_of_row (C := Tryz.checked) (s := OpenSpec.ofChange Rows.runEmptySpec) own started (by kernel_rfl) Tryz.func4
  (witness_row_at (enc := enc) (C := Tryz.checked) false (laidWorld os) wA rfl (by kernel_rfl) (by kernel_rfl) (by kernel_rfl)
   (OpenSpec.preRow_of_cond 8 hx (by kernel_rfl) (fun k hk => by cases hk) (by kernel_rfl) (laid_met os))) ?_
 intro W base args ds gs before hval hW _ _ _ hlaid hsh _
 exact contract H enc W base args ds gs before hval hW hlaid hsh
end runEmpty
end Go.Proofs.YtbinfgmdamlkbaaGreatDoor
namespace Go.Proofs.YtbinfgmdamlkbaaGreatDoor
namespace runEmpty
def clos : List FuncId := [4, 14, 15, 39, 16, 41, 72, 111, 159, 212, 160, 161, 162, 213, 42, 73, 112, 163, 164, 214, 215, 216, 250, 217, 197, 238, 251, 256, 119, 285, 74, 113, 43, 75, 114, 165, 168, 218, 252, 260, 169, 219, 253, 38, 277, 101, 105, 153, 278, 279, 65, 254, 280, 305, 321, 338, 353, 364, 306, 322, 339, 354, 340, 316, 344, 341, 343, 356, 323, 357, 366, 360, 371, 375, 381, 384, 386, 392, 387, 388, 389, 390, 391, 393, 394, 395, 396, 397, 398, 385, 369, 370, 273, 358, 367, 368, 376, 378, 382, 139, 377, 383, 276, 359, 342, 355, 365, 324, 281, 307, 308, 325, 345, 326, 346, 347, 348, 350, 362, 373, 243, 271, 374, 379, 380, 327, 349, 361, 372, 220, 166, 167, 175, 76, 115, 116, 117, 118, 120, 77, 121, 170, 221, 222, 257, 255, 282, 283, 284, 309, 328, 223, 171, 176, 224, 172, 173, 225, 226, 227, 258, 191, 235, 228, 259, 229, 174, 230, 122, 44, 45, 78, 18, 49, 87, 131, 188, 189, 50, 88, 89, 132, 190, 234, 266, 291, 315, 292, 293, 294, 295, 192, 193, 236, 267, 268, 237, 269, 90, 133, 195, 194, 40, 9, 24, 26, 59, 22, 55, 97, 137, 196, 138, 198, 8, 20, 53, 95, 21, 54, 96, 23, 56, 99, 149, 150, 98, 140, 146, 204, 141, 199, 142, 200, 201, 143, 202, 203, 239, 144, 145, 147, 148, 57, 25, 58, 100, 12, 33, 60, 61, 102, 151, 34, 62, 63, 104, 152, 205, 240, 241, 31, 242, 270, 68, 107, 156, 207, 208, 246, 247, 209, 210, 248, 249, 275, 244, 272, 296, 302, 320, 297, 317, 298, 299, 318, 319, 337, 300, 301, 303, 304, 245, 274, 103, 35, 64, 36, 66, 67, 106, 154, 206, 155, 37, 69, 108, 11, 32, 13, 70, 71, 110, 158, 109, 157, 211]
theorem fuel_eq : 1 + (Tryz.prog.funcs.toList.map fun g => (Tryz.prog.leadsTo g).length + 1).sum = 1418 := by kernel_rfl
theorem via_eq : Tryz.prog.closureVia 1418 [4] [] = clos := by kernel_rfl
theorem b62 : Tryz.prog.closure 4 = clos := by
 unfold Program.closure
 rw [fuel_eq]
 exact via_eq
theorem cK8 : Tryz.prog.inPlace 4 = Rows.runEmptyRow.inPlace := by
 unfold Program.inPlace
 rw [b62]
 as_aux_lemma => kernel_rfl
theorem bJ4 : Tryz.prog.unfollowed 4 = true := by
 unfold Program.unfollowed
 rw [b62]
 as_aux_lemma => kernel_rfl
theorem cx2 : Tryz.prog.recurses 4 = true := by
 unfold Program.recurses
 rw [bJ4, Bool.true_or]
theorem vars_eq : Tryz.prog.varsNamed 4 = Rows.runEmptyRow.named := by
 unfold Program.varsNamed
 rw [b62]
 as_aux_lemma => kernel_rfl
theorem cU1 : (clos.any fun g => (Tryz.prog.funcs[g]?).any Func.goes) = false := by kernel_rfl
theorem goes_all : Tryz.prog.funcs.any Func.goes = false := by kernel_rfl
theorem goes_eq : Tryz.prog.goes 4 = false := by
 unfold Program.goes
 rw [b62, cU1, goes_all, Bool.and_false, Bool.or_false]
theorem cF1 : Tryz.prog.funcNamed Rows.runEmptyRow.func = some 4 := by kernel_rfl
theorem cZ6 : false = Rows.runEmptyRow.goesBy Tryz.prog := by
 unfold OpenClaim.goesBy Program.goesAt Program.goesFrom
 rw [cF1, Option.any_some, goes_eq, Bool.false_or]
 as_aux_lemma => kernel_rfl
theorem facts_eq : joinedFacts Tryz.prog 4 Tryz.f4 (OpenSpec.ofChange Rows.runEmptySpec).bare Rows.runEmptyRow = true := by
 unfold joinedFacts
 rw [cK8, bJ4, cx2, vars_eq]
 as_aux_lemma => kernel_rfl
end runEmpty
end Go.Proofs.YtbinfgmdamlkbaaGreatDoor
