/-
  A part of the proof: packed by a program.
-/
import Derived.Test.YtbinfgmdamlkbaaGreatDoorQP5
import Derived.Test.YtbinfgmdamlkbaaGreatDoorRows
import Derived.KernelRfl
import Derived.JoinedCond
import GoSem.ClaimGoes
set_option maxRecDepth 100000
set_option maxHeartbeats 4000000
set_option linter.unusedVariables false
set_option linter.unusedSimpArgs false
namespace Go.Proofs.YtbinfgmdamlkbaaGreatDoor
open Go.RowKit
def S.ai6 (P : Program) (φ : (List (List UInt8)) → Option Bool) : Prop:=∀ (a0 : (List (List UInt8))) (r : Bool),φ a0 = some r → ∀ (k0 : Nat) (args : List AV),RVN [.sl 1 (a0.map aa6)] args → aV8 P F.ai6 args (ResC [.bool r])
def aM8 (L : Nat) (p0 : (List (List UInt8))) (p5 : (List (List UInt8))) (p6 : Int) (v0 : AV) (v5 : AV)  : Int → BT → AS → Prop:=fun p7 T S=>Ag [(0,v0),(5,v5),(6,.lit (.int .i64 p6)),(7,.lit (.int .i64 p7))] T ∧ StA S L F.ai6 []
def aW3 (L : Nat) (p0 : (List (List UInt8))) (p5 : (List (List UInt8))) (p6 : Int) (v0 : AV) (v5 : AV)  : Unit → BT → AS → Prop:=fun _ T S=>Ag [(0,v0)] T ∧ StA S L F.ai6 []
theorem b51 {P : Program} [hc : ae4 P] {L : Nat} (p0 : (List (List UInt8))) (p5 : (List (List UInt8))) (p6 : Int) {v0 : AV} {v5 : AV} (r0 : RelC (.sl 1 (p0.map aa6)) v0) (r5 : RelC (.sl 1 (p5.map aa6)) v5) : ∀ (s : Int) (c : Ctl Int Unit Bool),ax9 p0 p5 p6 s = some c → ∀ T S,aM8 L p0 p5 p6 v0 v5 s T S → RunB P K.bo8 T S (am1 0 (aM8 L p0 p5 p6 v0 v5) (aW3 L p0 p5 p6 v0 v5) (fun r=>ab1 L K.ai6.res [.bool r]) c):=by
 rintro p7 c h T S ⟨hT,hS⟩
 unfold ax9 at h
 refine (show GC P K.bo8 L F.ai6 [(0,v0),(5,v5),(6,.lit (.int .i64 p6)),(7,.lit (.int .i64 p7))] [] (am1 0 (aM8 L p0 p5 p6 v0 v5) (aW3 L p0 p5 p6 v0 v5) (fun r=>ab1 L K.ai6.res [.bool r]) c) from ?_) T S hT hS
 refine aa1 (aa2 (o6 (s_ib rfl rfl rfl) (aa3 (y7 (aa1 ?_)))))
 by_cases h_1 : p7 < p6
 ·replace h:=iteT h h_1
  refine g_cT rfl (decide_eq_true h_1) (ah1 (y7 (aa1 (ag3 (aa1 (aa2 ?_))))))
  obtain ⟨x_4,e_5,h⟩:=ac8 h
  refine af5 (s_ia (c:=aa6) rfl r5.toS rfl e_5) ?_
  rintro _ ⟨c_2,rfl,r_3⟩
  refine o6 (aC3 (v:=.str x_4) (a:=.lit (.string (bs x_4))) rfl r_3 rfl (fun _=>aq8)) (o6 (s_mv rfl) (aa3 (y7 (aa1 (aa2 (o6 (s_mv rfl) (o6 (s_ls rfl) ?_)))))))
  refine o6 (s_ib rfl rfl rfl) (aa3 (y7 ?_))
  by_cases h_6 : (x_4.length : Int) > 8
  ·replace h:=iteT h h_6
   refine g_cT rfl (decide_eq_true h_6) (aa1 (aa2 (o6 (s_mv rfl) (aa3 (y7 (ap6 (cw1 ?_)))))))
   refine aU1 ?_
   obtain rfl:=Option.some.inj h
   exact fun T S hT hS=>⟨rfl,(ba8 (x:=.ret) (rs:=[.bool false]) (.t rfl rfl .nil)) T S hT hS⟩
  ·replace h:=iteF h h_6
   refine g_cF rfl (decide_eq_false h_6) (ah1 (ak4 (y7 (aa2 (o6 (s_ib rfl rfl rfl) (o6 (s_mv rfl) (aa3 ?_)))))))
   obtain rfl:=Option.some.inj h
   exact fun T S hT hS=>⟨rfl,⟨hT.sub (subE.cons rfl (subE.cons rfl (subE.cons rfl (subE.cons rfl (subE.nil _))))),hS.sub .nil rfl⟩⟩
 ·replace h:=iteF h h_1
  refine g_cF rfl (decide_eq_false h_1) (aA5 (aA3 ?_))
  obtain rfl:=Option.some.inj h
  exact fun T S hT hS=>⟨rfl,⟨hT.sub (subE.cons rfl (subE.nil _)),hS.sub .nil rfl⟩⟩
theorem cr1 {P : Program} [hc : ae4 P] : S.ai6 P (ai6):=by
 intro a0 r h k0 args ha
 refine al5 (b:=K.ai6) rfl hc.ai6 (fun _=>rfl) rfl rfl ?_ ha
 rintro L _ ⟨av0,_,rfl,ar0,rfl⟩
 unfold ai6 at h
 show GC P _ L F.ai6 [(0,av0)] [] (ab1 L K.ai6.res [.bool r])
 refine aa1 (aa2 (o6 (s_mv rfl) (aa3 (y7 (aa1 (aa1 (aa2 ?_)))))))
 refine o6 (s_mv rfl) (o6 (ba7 (c:=aa6) rfl ar0) (o6 (s_mv rfl) (aa3 (y7 (ag3 ?_)))))
 obtain ⟨o_7,e_8,h⟩:=ac8 h
 refine aA8 (IN:=aM8 L a0 a0 (a0.length : Int) av0 av0) (IB:=aW3 L a0 a0 (a0.length : Int) av0 av0) (IR:=fun r=>ab1 L K.ai6.res [.bool r]) e_8 (b51 a0 a0 (a0.length : Int) (v0:=av0) (v5:=av0) ar0 ar0) (fun T S hT hS=>⟨hT.sub (subE.cons rfl (subE.cons rfl (subE.cons rfl (subE.cons rfl (subE.nil _))))),hS.sub .nil rfl⟩) ?_
 rintro x T S hO
 cases o_7 with
 | brk s =>
  obtain ⟨rfl,hT,hS⟩:=hO
  refine (show G (.exit 0) L F.ai6 [(0,av0)] [] (Blk 0 (Thn P K.bT5 (ab1 L K.ai6.res [.bool r]))) from ?_) T S hT hS
  refine ay3 (y7 (aa1 (aa2 (o6 (s_mv rfl) (o6 (ba7 (c:=aa6) rfl ar0) (o6 (s_ib rfl rfl rfl) (o6 (s_mv rfl) ?_)))))))
  refine aa3 (y7 (ap6 ?_))
  obtain rfl:=Option.some.inj h
  exact ba8 (.t rfl rfl .nil)
 | ret r =>
  obtain rfl:=Option.some.inj h
  obtain ⟨rfl,hO⟩:=hO
  exact hO
def S.aa4 (P : Program) (φ : (List (List UInt8)) → Int → Option Bool) : Prop:=∀ (a0 : (List (List UInt8))) (a1 : Int) (r : Bool),φ a0 a1 = some r → ∀ (k0 : Nat) (args : List AV),RVN [.sl 1 (a0.map aa6),.int .u8 a1] args → aV8 P F.aa4 args (ResC [.bool r])
def at1 (L : Nat) (p0 : (List (List UInt8))) (p6 : List UInt8) (p7 : Int) (p27 : Int) (v0 : AV) : (List UInt8 × Int) → BT → AS → Prop:=fun (p5,p28) T S=>Ag [(0,v0),(5,.lit (.string (bs p5))),(6,.lit (.string (bs p6))),(7,.lit (.int .i64 p7)),(27,.lit (.int .i64 p27)),(28,.lit (.int .i64 p28))] T ∧ StA S L F.aa4 []
def az9 (L : Nat) (p0 : (List (List UInt8))) (p6 : List UInt8) (p7 : Int) (p27 : Int) (v0 : AV) : List UInt8 → BT → AS → Prop:=fun p5 T S=>Ag [(0,v0),(5,.lit (.string (bs p5))),(6,.lit (.string (bs p6))),(7,.lit (.int .i64 p7))] T ∧ StA S L F.aa4 []
theorem bo3 {P : Program} [hc : ae4 P] (fu : Nat) {L : Nat} (p0 : (List (List UInt8))) (p6 : List UInt8) (p7 : Int) (p27 : Int) {v0 : AV} (r0 : RelC (.sl 1 (p0.map aa6)) v0) : ∀ (s : (List UInt8 × Int)) (c : Ctl (List UInt8 × Int) (List UInt8) Bool),am7 fu p0 p6 p7 p27 s = some c → ∀ T S,at1 L p0 p6 p7 p27 v0 s T S → RunB P K.aE2 T S (am1 0 (at1 L p0 p6 p7 p27 v0) (az9 L p0 p6 p7 p27 v0) (fun r=>ab1 L K.aa4.res [.bool r]) c):=by
 rintro ⟨p5,p28⟩ c h T S ⟨hT,hS⟩
 unfold am7 at h
 refine (show GC P K.aE2 L F.aa4 [(0,v0),(5,.lit (.string (bs p5))),(6,.lit (.string (bs p6))),(7,.lit (.int .i64 p7)),(27,.lit (.int .i64 p27)),(28,.lit (.int .i64 p28))] [] (am1 0 (at1 L p0 p6 p7 p27 v0) (az9 L p0 p6 p7 p27 v0) (fun r=>ab1 L K.aa4.res [.bool r]) c) from ?_) T S hT hS
 refine aa1 (aa2 (o6 (s_ib rfl rfl rfl) (aa3 (y7 (aa1 ?_)))))
 by_cases h_17 : p28 < p27
 ·replace h:=iteT h h_17
  refine g_cT rfl (decide_eq_true h_17) (ah1 (y7 (aa1 (ag3 (aa1 (aa2 (o6 (s_mv rfl) ?_)))))))
  refine o6 (s_mv rfl) (aa3 (y7 (aa2 (o6 (s_mv rfl) (o6 (s_mv rfl) (o6 (s_mv rfl) (o6 (s_ib rfl rfl rfl) ?_)))))))
  obtain ⟨x_18,e_19,h⟩:=ac8 h
  refine o6 (s_sls rfl rfl rfl e_19) ?_
  obtain ⟨x_20,e_21,h⟩:=ac8 h
  refine o6 (b52 rfl rfl e_21) ?_
  obtain ⟨x_22,e_23,h⟩:=ac8 h
  refine o6 (b52 rfl rfl e_23) ?_
  obtain ⟨x_24,e_25,h⟩:=ac8 h
  refine o6 (b52 rfl rfl e_25) (o6 (s_mv rfl) (aa3 (ak4 (y7 (aa2 (o6 (s_ib rfl rfl rfl) (o6 (s_mv rfl) ?_)))))))
  refine aa3 ?_
  obtain rfl:=Option.some.inj h
  exact fun T S hT hS=>⟨rfl,⟨hT.sub (subE.cons rfl (subE.cons rfl (subE.cons rfl (subE.cons rfl (subE.cons rfl (subE.cons rfl (subE.nil _))))))),hS.sub .nil rfl⟩⟩
 ·replace h:=iteF h h_17
  refine g_cF rfl (decide_eq_false h_17) (aA5 (aA3 ?_))
  obtain rfl:=Option.some.inj h
  exact fun T S hT hS=>⟨rfl,⟨hT.sub (subE.cons rfl (subE.cons rfl (subE.cons rfl (subE.cons rfl (subE.nil _))))),hS.sub .nil rfl⟩⟩
def at6 (L : Nat) (p7 : Int) (p13 : (List (List UInt8))) (p60 : (List (List UInt8))) (p61 : Int) (P_i5 : Loc) (G_i5 : Nat) (v13 : AV) (v60 : AV) : (D.l9 × List UInt8 × Int) → BT → AS → Prop:=fun (q_i5,p6,p62) T S=>∃ (J_i6 : List Loc) (z_i5_0 : AV) (b_i5_4 : AV) (w_i7 : AV) (F_i7 : List Loc) (w_i8 : AV) (F_i8 : List Loc) (w_i9 : AV) (F_i9 : List Loc) (w_i10 : AV) (F_i10 : List Loc) (w_i11 : AV) (F_i11 : List Loc) (w_i12 : AV) (F_i12 : List Loc),RelC (vref ac5 q_i5.f) z_i5_0 ∧ (b_i5_4 = .lit (.pointer none) ∨ b_i5_4 = .ptr P_i5 G_i5 0 4) ∧ Ag [(6,.lit (.string (bs p6))),(7,.lit (.int .i64 p7)),(12,.ptr P_i5 G_i5 0 0),(13,v13),(60,v60),(61,.lit (.int .i64 p61)),(62,.lit (.int .i64 p62))] T ∧ StA S L F.aa4 [.jnk false [] J_i6,.cel false [] P_i5 G_i5 80 [z_i5_0,w_i7,w_i8,w_i9,b_i5_4,w_i10,.lit (.int .i64 q_i5.state.Op),.lit (.string (bs q_i5.state.Pattern)),.lit (.string (bs q_i5.state.Hold)),.lit (.bool q_i5.state.Flag),.lit (.int .i64 q_i5.state.Line),w_i11,w_i12,.lit (.bool q_i5.state.Done)],.own false [] (.gs 1 88 (List.map (ak6 y8) q_i5.regexes)) w_i7 F_i7,.own false [] (.gs 1 9 (List.map aa6 q_i5.input)) w_i8 F_i8,.own false [] (.ptr 96 (o7 q_i5.files)) w_i9 F_i9,.own false [] (.bb 5 q_i5.out) w_i10 F_i10,.own false [] (.rw true 1 3 (List.map (ah4 .i64) q_i5.state.Ranges)) w_i11 F_i11,.own false [] (.gs 2 122 (List.map y5 q_i5.state.Queue)) w_i12 F_i12]
def az8 (L : Nat) (p7 : Int) (p13 : (List (List UInt8))) (p60 : (List (List UInt8))) (p61 : Int) (P_i5 : Loc) (G_i5 : Nat) (v13 : AV) (v60 : AV) : (D.l9 × List UInt8) → BT → AS → Prop:=fun (q_i5,p6) T S=>∃ (J_i6 : List Loc) (z_i5_0 : AV) (b_i5_4 : AV) (w_i7 : AV) (F_i7 : List Loc) (w_i8 : AV) (F_i8 : List Loc) (w_i9 : AV) (F_i9 : List Loc) (w_i10 : AV) (F_i10 : List Loc) (w_i11 : AV) (F_i11 : List Loc) (w_i12 : AV) (F_i12 : List Loc),RelC (vref ac5 q_i5.f) z_i5_0 ∧ (b_i5_4 = .lit (.pointer none) ∨ b_i5_4 = .ptr P_i5 G_i5 0 4) ∧ Ag [(6,.lit (.string (bs p6))),(7,.lit (.int .i64 p7)),(12,.ptr P_i5 G_i5 0 0),(13,v13)] T ∧ StA S L F.aa4 [.jnk false [] J_i6,.cel false [] P_i5 G_i5 80 [z_i5_0,w_i7,w_i8,w_i9,b_i5_4,w_i10,.lit (.int .i64 q_i5.state.Op),.lit (.string (bs q_i5.state.Pattern)),.lit (.string (bs q_i5.state.Hold)),.lit (.bool q_i5.state.Flag),.lit (.int .i64 q_i5.state.Line),w_i11,w_i12,.lit (.bool q_i5.state.Done)],.own false [] (.gs 1 88 (List.map (ak6 y8) q_i5.regexes)) w_i7 F_i7,.own false [] (.gs 1 9 (List.map aa6 q_i5.input)) w_i8 F_i8,.own false [] (.ptr 96 (o7 q_i5.files)) w_i9 F_i9,.own false [] (.bb 5 q_i5.out) w_i10 F_i10,.own false [] (.rw true 1 3 (List.map (ah4 .i64) q_i5.state.Ranges)) w_i11 F_i11,.own false [] (.gs 2 122 (List.map y5 q_i5.state.Queue)) w_i12 F_i12]
theorem bo1 {P : Program} [hc : ae4 P] (fu : Nat) {L : Nat} (p7 : Int) (p13 : (List (List UInt8))) (p60 : (List (List UInt8))) (p61 : Int) {P_i5 : Loc} {G_i5 : Nat} {v13 : AV} {v60 : AV} (r13 : RelC (.sl 1 (p13.map aa6)) v13) (r60 : RelC (.sl 1 (p60.map aa6)) v60) : ∀ (s : (D.l9 × List UInt8 × Int)) (c : Ctl (D.l9 × List UInt8 × Int) (D.l9 × List UInt8) Bool),am5 fu p7 p13 p60 p61 s = some c → ∀ T S,at6 L p7 p13 p60 p61 P_i5 G_i5 v13 v60 s T S → RunB P K.aE6 T S (am1 2 (at6 L p7 p13 p60 p61 P_i5 G_i5 v13 v60) (az8 L p7 p13 p60 p61 P_i5 G_i5 v13 v60) (fun r=>ab1 L K.aa4.res [.bool r]) c):=by
 rintro ⟨q_i5,p6,p62⟩ c h T S ⟨J_i6,z_i5_0,b_i5_4,w_i7,F_i7,w_i8,F_i8,w_i9,F_i9,w_i10,F_i10,w_i11,F_i11,w_i12,F_i12,y_i5_0,h_i5_4,hT,hS⟩
 unfold am5 at h
 refine (show GC P K.aE6 L F.aa4 [(6,.lit (.string (bs p6))),(7,.lit (.int .i64 p7)),(12,.ptr P_i5 G_i5 0 0),(13,v13),(60,v60),(61,.lit (.int .i64 p61)),(62,.lit (.int .i64 p62))] [.jnk false [] J_i6,.cel false [] P_i5 G_i5 80 [z_i5_0,w_i7,w_i8,w_i9,b_i5_4,w_i10,.lit (.int .i64 q_i5.state.Op),.lit (.string (bs q_i5.state.Pattern)),.lit (.string (bs q_i5.state.Hold)),.lit (.bool q_i5.state.Flag),.lit (.int .i64 q_i5.state.Line),w_i11,w_i12,.lit (.bool q_i5.state.Done)],.own false [] (.gs 1 88 (List.map (ak6 y8) q_i5.regexes)) w_i7 F_i7,.own false [] (.gs 1 9 (List.map aa6 q_i5.input)) w_i8 F_i8,.own false [] (.ptr 96 (o7 q_i5.files)) w_i9 F_i9,.own false [] (.bb 5 q_i5.out) w_i10 F_i10,.own false [] (.rw true 1 3 (List.map (ah4 .i64) q_i5.state.Ranges)) w_i11 F_i11,.own false [] (.gs 2 122 (List.map y5 q_i5.state.Queue)) w_i12 F_i12] (am1 2 (at6 L p7 p13 p60 p61 P_i5 G_i5 v13 v60) (az8 L p7 p13 p60 p61 P_i5 G_i5 v13 v60) (fun r=>ab1 L K.aa4.res [.bool r]) c) from ?_) T S hT hS
 refine aa1 (aa2 (o6 (s_ib rfl rfl rfl) (aa3 (y7 (aa1 ?_)))))
 by_cases h_105 : p62 < p61
 ·replace h:=iteT h h_105
  refine g_cT rfl (decide_eq_true h_105) (ah1 (y7 (aa1 (ag3 (aa1 (aa2 ?_))))))
  obtain ⟨x_108,e_109,h⟩:=ac8 h
  refine af5 (s_ia (c:=aa6) rfl r60.toS rfl e_109) ?_
  rintro _ ⟨c_106,rfl,r_107⟩
  refine o6 (aC3 (v:=.str x_108) (a:=.lit (.string (bs x_108))) rfl r_107 rfl (fun _=>aq8)) (o6 (s_mv rfl) (aa3 (y7 (aa2 (o6 (s_mv rfl) (o6 (s_mv rfl) ?_))))))
  obtain ⟨x_110,e_111,h⟩:=ac8 h
  refine o6 (b52 rfl rfl e_111) ?_
  obtain ⟨x_112,e_113,h⟩:=ac8 h
  refine o6 (b52 rfl rfl e_113) (o6 (s_mv rfl) (aa3 (ak4 (y7 (aa2 (o6 (s_ib rfl rfl rfl) (o6 (s_mv rfl) ?_)))))))
  refine aa3 ?_
  obtain rfl:=Option.some.inj h
  exact fun T S hT hS=>⟨rfl,⟨J_i6,z_i5_0,b_i5_4,w_i7,F_i7,w_i8,F_i8,w_i9,F_i9,w_i10,F_i10,w_i11,F_i11,w_i12,F_i12,y_i5_0,h_i5_4,hT.sub (subE.cons rfl (subE.cons rfl (subE.cons rfl (subE.cons rfl (subE.cons rfl (subE.cons rfl (subE.cons rfl (subE.nil _)))))))),hS.sub (.cons (i:=0) rfl (.jnk rfl rfl) (.cons (i:=1) rfl (.cel rfl rfl) (.cons (i:=2) rfl (.own rfl rfl) (.cons (i:=3) rfl (.own rfl rfl) (.cons (i:=4) rfl (.own rfl rfl) (.cons (i:=5) rfl (.own rfl rfl) (.cons (i:=6) rfl (.own rfl rfl) (.cons (i:=7) rfl (.own rfl rfl) .nil)))))))) rfl⟩⟩
 ·replace h:=iteF h h_105
  refine g_cF rfl (decide_eq_false h_105) (aA5 (aA3 ?_))
  obtain rfl:=Option.some.inj h
  exact fun T S hT hS=>⟨rfl,⟨J_i6,z_i5_0,b_i5_4,w_i7,F_i7,w_i8,F_i8,w_i9,F_i9,w_i10,F_i10,w_i11,F_i11,w_i12,F_i12,y_i5_0,h_i5_4,hT.sub (subE.cons rfl (subE.cons rfl (subE.cons rfl (subE.cons rfl (subE.nil _))))),hS.sub (.cons (i:=0) rfl (.jnk rfl rfl) (.cons (i:=1) rfl (.cel rfl rfl) (.cons (i:=2) rfl (.own rfl rfl) (.cons (i:=3) rfl (.own rfl rfl) (.cons (i:=4) rfl (.own rfl rfl) (.cons (i:=5) rfl (.own rfl rfl) (.cons (i:=6) rfl (.own rfl rfl) (.cons (i:=7) rfl (.own rfl rfl) .nil)))))))) rfl⟩⟩
def at7 (L : Nat) (p6 : List UInt8) (p75 : Int) (P_i5 : Loc) (G_i5 : Nat) : (D.l9 × Int) → BT → AS → Prop:=fun (q_i5,p76) T S=>∃ (J_i6 : List Loc) (z_i5_0 : AV) (b_i5_4 : AV) (w_i7 : AV) (F_i7 : List Loc) (w_i8 : AV) (F_i8 : List Loc) (w_i9 : AV) (F_i9 : List Loc) (w_i10 : AV) (F_i10 : List Loc) (w_i11 : AV) (F_i11 : List Loc) (w_i12 : AV) (F_i12 : List Loc),RelC (vref ac5 q_i5.f) z_i5_0 ∧ (b_i5_4 = .lit (.pointer none) ∨ b_i5_4 = .ptr P_i5 G_i5 0 4) ∧ Ag [(6,.lit (.string (bs p6))),(12,.ptr P_i5 G_i5 0 0),(75,.lit (.int .i64 p75)),(76,.lit (.int .i64 p76))] T ∧ StA S L F.aa4 [.jnk false [] J_i6,.cel false [] P_i5 G_i5 80 [z_i5_0,w_i7,w_i8,w_i9,b_i5_4,w_i10,.lit (.int .i64 q_i5.state.Op),.lit (.string (bs q_i5.state.Pattern)),.lit (.string (bs q_i5.state.Hold)),.lit (.bool q_i5.state.Flag),.lit (.int .i64 q_i5.state.Line),w_i11,w_i12,.lit (.bool q_i5.state.Done)],.own false [] (.gs 1 88 (List.map (ak6 y8) q_i5.regexes)) w_i7 F_i7,.own false [] (.gs 1 9 (List.map aa6 q_i5.input)) w_i8 F_i8,.own false [] (.ptr 96 (o7 q_i5.files)) w_i9 F_i9,.own false [] (.bb 5 q_i5.out) w_i10 F_i10,.own false [] (.rw true 1 3 (List.map (ah4 .i64) q_i5.state.Ranges)) w_i11 F_i11,.own false [] (.gs 2 122 (List.map y5 q_i5.state.Queue)) w_i12 F_i12]
def aA0 (L : Nat) (p6 : List UInt8) (p75 : Int) (P_i5 : Loc) (G_i5 : Nat) : D.l9 → BT → AS → Prop:=fun q_i5 T S=>∃ (J_i6 : List Loc) (z_i5_0 : AV) (b_i5_4 : AV) (w_i7 : AV) (F_i7 : List Loc) (w_i8 : AV) (F_i8 : List Loc) (w_i9 : AV) (F_i9 : List Loc) (w_i10 : AV) (F_i10 : List Loc) (w_i11 : AV) (F_i11 : List Loc) (w_i12 : AV) (F_i12 : List Loc),RelC (vref ac5 q_i5.f) z_i5_0 ∧ (b_i5_4 = .lit (.pointer none) ∨ b_i5_4 = .ptr P_i5 G_i5 0 4) ∧ Ag [(6,.lit (.string (bs p6))),(12,.ptr P_i5 G_i5 0 0)] T ∧ StA S L F.aa4 [.jnk false [] J_i6,.cel false [] P_i5 G_i5 80 [z_i5_0,w_i7,w_i8,w_i9,b_i5_4,w_i10,.lit (.int .i64 q_i5.state.Op),.lit (.string (bs q_i5.state.Pattern)),.lit (.string (bs q_i5.state.Hold)),.lit (.bool q_i5.state.Flag),.lit (.int .i64 q_i5.state.Line),w_i11,w_i12,.lit (.bool q_i5.state.Done)],.own false [] (.gs 1 88 (List.map (ak6 y8) q_i5.regexes)) w_i7 F_i7,.own false [] (.gs 1 9 (List.map aa6 q_i5.input)) w_i8 F_i8,.own false [] (.ptr 96 (o7 q_i5.files)) w_i9 F_i9,.own false [] (.bb 5 q_i5.out) w_i10 F_i10,.own false [] (.rw true 1 3 (List.map (ah4 .i64) q_i5.state.Ranges)) w_i11 F_i11,.own false [] (.gs 2 122 (List.map y5 q_i5.state.Queue)) w_i12 F_i12]
theorem bq3 {P : Program} [hc : ae4 P] (fu : Nat) {L : Nat} (p6 : List UInt8) (p75 : Int) {P_i5 : Loc} {G_i5 : Nat} : ∀ (s : (D.l9 × Int)) (c : Ctl (D.l9 × Int) D.l9 Bool),am4 fu p6 p75 s = some c → ∀ T S,at7 L p6 p75 P_i5 G_i5 s T S → RunB P K.aB2 T S (am1 4 (at7 L p6 p75 P_i5 G_i5) (aA0 L p6 p75 P_i5 G_i5) (fun r=>ab1 L K.aa4.res [.bool r]) c):=by
 rintro ⟨q_i5,p76⟩ c h T S ⟨J_i6,z_i5_0,b_i5_4,w_i7,F_i7,w_i8,F_i8,w_i9,F_i9,w_i10,F_i10,w_i11,F_i11,w_i12,F_i12,y_i5_0,h_i5_4,hT,hS⟩
 unfold am4 at h
 refine (show GC P K.aB2 L F.aa4 [(6,.lit (.string (bs p6))),(12,.ptr P_i5 G_i5 0 0),(75,.lit (.int .i64 p75)),(76,.lit (.int .i64 p76))] [.jnk false [] J_i6,.cel false [] P_i5 G_i5 80 [z_i5_0,w_i7,w_i8,w_i9,b_i5_4,w_i10,.lit (.int .i64 q_i5.state.Op),.lit (.string (bs q_i5.state.Pattern)),.lit (.string (bs q_i5.state.Hold)),.lit (.bool q_i5.state.Flag),.lit (.int .i64 q_i5.state.Line),w_i11,w_i12,.lit (.bool q_i5.state.Done)],.own false [] (.gs 1 88 (List.map (ak6 y8) q_i5.regexes)) w_i7 F_i7,.own false [] (.gs 1 9 (List.map aa6 q_i5.input)) w_i8 F_i8,.own false [] (.ptr 96 (o7 q_i5.files)) w_i9 F_i9,.own false [] (.bb 5 q_i5.out) w_i10 F_i10,.own false [] (.rw true 1 3 (List.map (ah4 .i64) q_i5.state.Ranges)) w_i11 F_i11,.own false [] (.gs 2 122 (List.map y5 q_i5.state.Queue)) w_i12 F_i12] (am1 4 (at7 L p6 p75 P_i5 G_i5) (aA0 L p6 p75 P_i5 G_i5) (fun r=>ab1 L K.aa4.res [.bool r]) c) from ?_) T S hT hS
 refine aa1 (aa2 (o6 (s_ib rfl rfl rfl) (aa3 (y7 (aa1 ?_)))))
 by_cases h_117 : p76 < p75
 ·replace h:=iteT h h_117
  refine g_cT rfl (decide_eq_true h_117) (ah1 (y7 (aa1 (ag3 (aa1 (aa2 (o6 (s_mv rfl) ?_)))))))
  refine aq7 (Mv.sub (.cons (i:=1) rfl .rfl (.cons (i:=2) rfl .rfl (.cons (i:=3) rfl .rfl (.cons (i:=4) rfl .rfl (.cons (i:=5) rfl .rfl (.cons (i:=6) rfl .rfl (.cons (i:=7) rfl .rfl (.cons (i:=0) rfl .rfl .nil)))))))) rfl) ?_
  rintro _ rfl
  refine aq7 (Mv.sht (os:=(o5 q_i5)) (N:=[.own false [] (.gs 1 88 (List.map (ak6 y8) q_i5.regexes)) w_i7 F_i7,.own false [] (.gs 1 9 (List.map aa6 q_i5.input)) w_i8 F_i8,.own false [] (.ptr 96 (o7 q_i5.files)) w_i9 F_i9,.own false [] (.bb 5 q_i5.out) w_i10 F_i10,.own false [] (.rw true 1 3 (List.map (ah4 .i64) q_i5.state.Ranges)) w_i11 F_i11,.own false [] (.gs 2 122 (List.map y5 q_i5.state.Queue)) w_i12 F_i12]) rfl ⟨(CV.rel.2 y_i5_0),rfl,rfl,rfl,rfl,rfl,rfl,h_i5_4,rfl,rfl,rfl,rfl,rfl,rfl,rfl,rfl,rfl,rfl,rfl,rfl,rfl,rfl⟩) ?_
  rintro _ ⟨F_118,rfl⟩
  obtain ⟨x_119,e_120,h⟩:=ac8 h
  refine af5 (s_clQ (A1:=[.own false [] (.ptr 80 (o5 q_i5)) (.ptr P_i5 G_i5 0 0) F_118]) (fun _=>rfl) rfl rfl rfl (show InC [.o (.ptr 80 (o5 q_i5))] _ _ from ⟨rfl,rfl,rfl,rfl⟩) rfl ((aN4) _ _ e_120)) ?_
  rintro _ ⟨c_121,rfl,r_122⟩
  obtain ⟨v_123,v_125,hE_127,r_124,r_126⟩:=bM9 r_122
  refine o6 (c02 rfl (by rw [hE_127]; rfl)) (o6 (s_mv rfl) ?_)
  refine aN5 (gb:=(!x_119.Done)) (af:=af0) (Q:=fun u=>u = .ptr P_i5 G_i5 0 0) rfl (af9 _) (fun hg=>?_) ?_
  ·exact s_mv rfl
  intro v_130 hv_128 hu_129
  by_cases h_131 : x_119.Done = true
  ·replace h:=iteT h h_131
   refine aX3 rfl ((af9 _).trans (by rw [h_131]; rfl)) (aX3 rfl ((af9 _).trans (by rw [h_131]; rfl)) (o6 (s_or (b:=false) rfl rfl (fun hq=>by have hz:=hq; first | (rw [h_131] at hz; cases hz) | simp [h_131] at hz <;> rfl)) (aa3 (y7 ?_))))
   by_cases h_132 : (x_119.Done || false) = true
   ·replace h:=iteT h h_132
    refine g_cT rfl h_132 (aa1 (aa2 (o6 (s_mv rfl) (aa3 (y7 (ap6 (cw1 ?_)))))))
    refine aU1 ?_
    obtain rfl:=Option.some.inj h
    refine g_in ?_
    exact aX0 (.tr rfl rfl .nil)
   ·replace h:=iteF h h_132
    refine g_cF rfl (Bool.eq_false_iff.2 h_132) (ah1 (ak4 (y7 (aa2 (o6 (s_ib rfl rfl rfl) (o6 (s_mv rfl) (aa3 ?_)))))))
    obtain rfl:=Option.some.inj h
    refine g_mv (Mv.opn2 rfl) ?_
    rintro _ ⟨_,_,hO_149,rfl⟩
    obtain ⟨v_133,w_135,F_136,w_137,F_138,w_139,F_140,b_141,w_143,F_144,w_145,F_146,w_147,F_148,rfl,rfl,r_134,h_142⟩:=ac7 hO_149
    exact fun T S hT hS=>⟨rfl,⟨J_i6,v_133,b_141,w_135,F_136,w_137,F_138,w_139,F_140,w_143,F_144,w_145,F_146,w_147,F_148,(CV.rel.1 r_134),h_142,hT.sub (subE.cons rfl (subE.cons rfl (subE.cons rfl (subE.cons rfl (subE.nil _))))),hS.sub (.cons (i:=7) rfl (.jnk rfl rfl) (.cons (i:=0) rfl (.cel rfl rfl) (.cons (i:=1) rfl (.own rfl rfl) (.cons (i:=2) rfl (.own rfl rfl) (.cons (i:=3) rfl (.own rfl rfl) (.cons (i:=4) rfl (.own rfl rfl) (.cons (i:=5) rfl (.own rfl rfl) (.cons (i:=6) rfl (.own rfl rfl) .nil)))))))) rfl⟩⟩
  ·replace h:=iteF h h_131
   replace h_131:=Bool.eq_false_iff.2 h_131
   refine aX1 rfl ((af9 _).trans (by rw [h_131]; rfl)) ?_
   obtain rfl:=(hv_128 (by rw [h_131]; rfl)).symm
   obtain ⟨x_150,e_151,h⟩:=ac8 h
   refine aP5 (A1:=[.own false [] (.ptr 80 (o5 q_i5)) (.ptr P_i5 G_i5 0 0) F_118]) rfl rfl (show InC [.o (.ptr 80 (o5 q_i5))] _ _ from ⟨rfl,rfl,rfl,rfl⟩) rfl rfl rfl rfl rfl ((az4) _ _ e_151) ?_
   rintro _ _ _ J_153 ⟨F_154,_,rfl,rfl⟩ ⟨rfl,rfl⟩
   refine aX1 rfl ((af9 _).trans (by rw [h_131]; rfl)) (o6 (s_nt rfl) (o6 (s_or rfl rfl (fun _=>rfl)) (aa3 (y7 ?_))))
   by_cases h_155 : (x_119.Done || (!x_150.2)) = true
   ·replace h:=iteT h h_155
    refine g_cT rfl h_155 (aa1 (aa2 (o6 (s_mv rfl) (aa3 (y7 (ap6 (cw1 ?_)))))))
    refine aU1 ?_
    obtain rfl:=Option.some.inj h
    refine g_in ?_
    exact aX0 (.tr rfl rfl .nil)
   ·replace h:=iteF h h_155
    refine g_cF rfl (Bool.eq_false_iff.2 h_155) (ah1 (ak4 (y7 (aa2 (o6 (s_ib rfl rfl rfl) (o6 (s_mv rfl) (aa3 ?_)))))))
    obtain rfl:=Option.some.inj h
    refine g_mv (Mv.opn2 rfl) ?_
    rintro _ ⟨_,_,hO_172,rfl⟩
    obtain ⟨v_156,w_158,F_159,w_160,F_161,w_162,F_163,b_164,w_166,F_167,w_168,F_169,w_170,F_171,rfl,rfl,r_157,h_165⟩:=ac7 hO_172
    refine g_mv (Mv.sub (.cons (i:=7) rfl .rfl (.cons (i:=8) rfl .rfl (.cons (i:=0) rfl .rfl (.cons (i:=1) rfl .rfl (.cons (i:=2) rfl .rfl (.cons (i:=3) rfl .rfl (.cons (i:=4) rfl .rfl (.cons (i:=5) rfl .rfl (.cons (i:=6) rfl .rfl .nil))))))))) rfl) ?_
    rintro _ rfl
    refine g_mv (Mv.jj rfl) ?_
    rintro _ ⟨J_173,rfl⟩
    exact fun T S hT hS=>⟨rfl,⟨J_173,v_156,b_164,w_158,F_159,w_160,F_161,w_162,F_163,w_166,F_167,w_168,F_169,w_170,F_171,(CV.rel.1 r_157),h_165,hT.sub (subE.cons rfl (subE.cons rfl (subE.cons rfl (subE.cons rfl (subE.nil _))))),hS.sub (.cons (i:=0) rfl (.jnk rfl rfl) (.cons (i:=1) rfl (.cel rfl rfl) (.cons (i:=2) rfl (.own rfl rfl) (.cons (i:=3) rfl (.own rfl rfl) (.cons (i:=4) rfl (.own rfl rfl) (.cons (i:=5) rfl (.own rfl rfl) (.cons (i:=6) rfl (.own rfl rfl) (.cons (i:=7) rfl (.own rfl rfl) .nil)))))))) rfl⟩⟩
 ·replace h:=iteF h h_117
  refine g_cF rfl (decide_eq_false h_117) (aA5 (aA3 ?_))
  obtain rfl:=Option.some.inj h
  exact fun T S hT hS=>⟨rfl,⟨J_i6,z_i5_0,b_i5_4,w_i7,F_i7,w_i8,F_i8,w_i9,F_i9,w_i10,F_i10,w_i11,F_i11,w_i12,F_i12,y_i5_0,h_i5_4,hT.sub (subE.cons rfl (subE.cons rfl (subE.nil _))),hS.sub (.cons (i:=0) rfl (.jnk rfl rfl) (.cons (i:=1) rfl (.cel rfl rfl) (.cons (i:=2) rfl (.own rfl rfl) (.cons (i:=3) rfl (.own rfl rfl) (.cons (i:=4) rfl (.own rfl rfl) (.cons (i:=5) rfl (.own rfl rfl) (.cons (i:=6) rfl (.own rfl rfl) (.cons (i:=7) rfl (.own rfl rfl) .nil)))))))) rfl⟩⟩
theorem bK5 {P : Program} [hc : ae4 P] (fu : Nat) : S.aa4 P (aa4 fu):=by
 intro a0 a1 r h k0 args ha
 refine al5 (b:=K.aa4) rfl hc.aa4 (fun _=>rfl) rfl rfl ?_ ha
 rintro L _ ⟨av0,_,rfl,ar0,_,_,rfl,rfl,rfl⟩
 unfold aa4 at h
 show GC P _ L F.aa4 [(0,av0),(1,.lit (.int .u8 a1))] [] (ab1 L K.aa4.res [.bool r])
 refine aa1 (aa2 (o6 (s_mv rfl) (aa3 (y7 (aa1 (aa1 (aa2 ?_)))))))
 obtain ⟨x_1,e_2,h⟩:=ac8 h
 refine af5 (s_clX (fun _=>rfl) rfl rfl (hc.ext_law19_awake _ e_2)) ?_
 rintro _ rfl
 refine o6 (s_nt rfl) (o6 (s_mv rfl) ?_)
 refine aN5 (gb:=(!(!x_1))) (af:=af0) (Q:=fun u=>u = av0) rfl (af9 _) (fun hg=>?_) ?_
 ·exact s_mv rfl
 intro v_5 hv_3 hu_4
 obtain ⟨x_6,e_7,h⟩:=ac8 h
 refine aN5 (gb:=(!(!x_1))) (af:=af0) (Q:=ResC [.bool x_6]) rfl (af9 _) (fun hg=>?_) ?_
 ·obtain rfl:=(hv_3 hg).symm; exact bI8 (rs:=[.sl 1 (a0.map aa6)]) (fun _=>rfl) rfl (RVL.toN (L:=L + 1) ⟨_,_,rfl,ar0.toS,rfl⟩) ((cr1) _ _ (whenT e_7 hg) (L + 1) _)
 intro v_10 hv_8 hu_9
 refine aN5 (gb:=(!(!x_1))) (af:=af0) (Q:=fun u=>u = .lit (.bool (!x_6))) rfl (af9 _) (fun hg=>?_) ?_
 ·obtain rfl:=hv_8 hg; exact s_nt rfl
 intro v_13 hv_11 hu_12
 refine o6 (s_or (b:=(!x_6)) rfl rfl (fun hq=>by obtain rfl:=(hv_11 hq).symm <;> rfl)) (aa3 (y7 ?_))
 by_cases h_14 : ((!x_1) || (!x_6)) = true
 ·replace h:=iteT h h_14
  refine g_cT rfl h_14 (aa1 (aa2 ?_))
  obtain ⟨x_15,e_16,h⟩:=ac8 h
  refine af5 (s_clX (fun _=>rfl) rfl rfl (hc.ext_law19_awake _ e_16)) ?_
  rintro _ rfl
  refine o6 (s_mv rfl) (aa3 (y7 (ap6 (aU1 ?_))))
  obtain rfl:=Option.some.inj h
  exact aX0 (.tr rfl rfl .nil)
 ·replace h:=iteF h h_14
  refine g_cF rfl (Bool.eq_false_iff.2 h_14) (ah1 (y7 (aa1 (aa2 (o6 (s_mv rfl) (o6 (s_mv rfl) (aa3 ?_)))))))
  refine y7 (aa1 (aa2 (o6 (s_mv rfl) (o6 (cS8 rfl) (o6 (s_ib rfl rfl (ibV_rem (by decide))) (o6 (s_mv rfl) (aa3 ?_)))))))
  refine y7 (aa1 (aa1 (aa2 (o6 (s_mv rfl) (o6 (s_mv rfl) (aa3 (y7 ?_)))))))
  refine ag3 ?_
  obtain ⟨o_26,e_27,h⟩:=ac8 h
  refine aA8 (IN:=at1 L a0 [] (Int.tmod (IntKind.i64.wrap a1) 5) (Int.tmod (IntKind.i64.wrap a1) 5) av0) (IB:=az9 L a0 [] (Int.tmod (IntKind.i64.wrap a1) 5) (Int.tmod (IntKind.i64.wrap a1) 5) av0) (IR:=fun r=>ab1 L K.aa4.res [.bool r]) e_27 (bo3 fu  a0 [] (Int.tmod (IntKind.i64.wrap a1) 5) (Int.tmod (IntKind.i64.wrap a1) 5) (v0:=av0) ar0) (fun T S hT hS=>⟨hT.sub (subE.cons rfl (subE.cons rfl (subE.cons rfl (subE.cons rfl (subE.cons rfl (subE.cons rfl (subE.nil _))))))),hS.sub .nil rfl⟩) ?_
  rintro x T S hO
  cases o_26 with
  | brk p5b_28 =>
   obtain ⟨rfl,hT,hS⟩:=hO
   refine (show G (.exit 0) L F.aa4 [(0,av0),(5,.lit (.string (bs p5b_28))),(6,.lit (.string (bs []))),(7,.lit (.int .i64 (Int.tmod (IntKind.i64.wrap a1) 5)))] [] (Blk 0 (Thn P K.aS2 (ab1 L K.aa4.res [.bool r]))) from ?_) T S hT hS
   refine ay3 (y7 (aa1 (aa2 (o6 (s_mv rfl) ?_))))
   obtain ⟨x_29,e_30,h⟩:=ac8 h
   refine af5 (s_clB (rs:=[.str p5b_28,.bool false]) (fun _=>rfl) rfl (RVL.toN (L:=L + 1) ⟨_,_,rfl,rfl,_,_,rfl,rfl,rfl⟩) ((cd5) _ _ _ e_30 (L + 1) _)) ?_
   rintro _ ⟨_,rfl,v_31,_,rfl,r_32,_,_,rfl,⟨c_33,rfl,r_34⟩,_,_,rfl,rfl,rfl⟩
   refine o6 (s_mv rfl) (o6 (s_ex rfl rfl) (o6 (s_ex rfl rfl) (o6 (s_ex rfl rfl) ?_)))
   refine co1 rfl rfl fun g_35=>?_
   refine o6 (s_mv rfl) ?_
   obtain ⟨v_36,v_38,v_40,hE_42,r_37,r_39,r_41⟩:=cN6 r_34
   refine ci9 (i:=0) (b:=.agg c_33) (cs':=[.lit (.bool x_29.2.1.Quiet),v_36,v_38,v_40,.lit (.int .i64 x_29.2.1.Ranges)]) rfl rfl rfl (by rw [hE_42]; rfl) (ab7.ones r_34) (fun a ha=>.c (am8 (ab7.closed r_34) a ha)) rfl (by rw [hE_42]; rfl) rfl (o6 (s_mv rfl) (aa3 (y7 (aa1 (aa1 (aa2 (o6 (s_mv rfl) ?_)))))))
   refine o6 (s_nt rfl) (aa3 (y7 ?_))
   by_cases h_43 : (!x_29.2.2) = true
   ·replace h:=iteT h h_43
    refine g_cT rfl h_43 (aa1 (aa2 (o6 (s_mv rfl) (aa3 (y7 (ap6 (aU1 ?_)))))))
    obtain rfl:=Option.some.inj h
    exact aX0 (.tr rfl rfl .nil)
   ·replace h:=iteF h h_43
    refine g_cF rfl (Bool.eq_false_iff.2 h_43) (ah1 (y7 (aa1 (aa2 (o6 (s_mv rfl) (af5 (cl0 (es':=List.map aa6 []) rfl .nil rfl) ?_))))))
    rintro v_44 ⟨r_45,k_46⟩
    refine o6 (s_mv rfl) (aq7 (Mv.addF (ks:=[51]) (n:=1) (e:=9) (a:=v_44) r_45 k_46) ?_)
    rintro _ rfl
    obtain ⟨x_47,e_48,h⟩:=ac8 h
    refine c44 (i:=0) (c:=aa6) rfl rfl rfl rfl (RelC.toA ar0) rfl rfl rfl e_48 fun w_49 F_50=>?_
    obtain ⟨x_51,e_52,h⟩:=ac8 h
    refine aP5 (A1:=[]) rfl rfl (show InC [.r (.sl 2 ([].map as4))] _ _ from ⟨(RV.C.nrmA (r:=.sl 2 ([].map as4)) (RelC.nil 2 _)),rfl,rfl⟩) rfl rfl rfl rfl rfl ((cl6) _ _ e_52) ?_
    rintro w_55 _ _ J_54 rfl ⟨F_56,rfl⟩
    refine bH9 (i:=2) (es:=List.map aa6 x_47) rfl fun ra_57=>?_
    obtain ⟨x_58,e_59,h⟩:=ac8 h
    refine aP5 (A1:=[.own false [] (.ptr 96 (o7 x_51)) w_55 F_56]) rfl rfl (show InC [.r (.v (vref ac5 x_29.1)),.r (.sl 1 (x_47.map aa6)),.o (.ptr 96 (o7 x_51))] _ _ from ⟨(RV.C.nrmA (r:=.v (vref ac5 x_29.1)) r_32),(RelA.nrmA ra_57),rfl,rfl,rfl,rfl⟩) rfl rfl rfl rfl rfl ((cH1 fu) _ _ _ _ e_59) ?_
    rintro w_63 _ _ J_61 ⟨F_62,_,rfl,rfl⟩ ⟨F_64,rfl⟩
    refine o6 (s_mv rfl) (aa3 (y7 (aa1 (aa1 (aa2 (o6 (s_mv rfl) (aq7 (Mv.sub (.cons (i:=1) rfl .rfl (.cons (i:=0) rfl .rfl (.cons (i:=2) rfl .rfl (.cons (i:=3) rfl .rfl (.cons (i:=4) rfl .rfl (.cons (i:=5) rfl .rfl .nil)))))) rfl) ?_)))))))
    rintro _ rfl
    refine aq7 (Mv.opn rfl) ?_
    rintro _ ⟨p_65,g_66,_,_,rfl,hO_83,rfl⟩
    obtain ⟨v_67,w_69,F_70,w_71,F_72,w_73,F_74,b_75,w_77,F_78,w_79,F_80,w_81,F_82,rfl,rfl,r_68,h_76⟩:=ac7 hO_83
    refine o6 (s_nilP rfl hc.un_33 rfl) (aa3 (y7 ?_))
    by_cases h_84 : false = true
    ·replace h:=iteT h h_84
     refine g_cT rfl h_84 (aa1 (aa2 (o6 (s_mv rfl) (aa3 (y7 (ap6 (aU1 ?_)))))))
     obtain rfl:=Option.some.inj h
     exact aX0 (.tr rfl rfl .nil)
    ·replace h:=iteF h h_84
     refine g_cF rfl (Bool.eq_false_iff.2 h_84) (ah1 (y7 (aa1 (aa2 (o6 (bh0 (i:=11) rfl rfl rfl rfl) (o6 (s_mv rfl) ?_))))))
     obtain ⟨x_85,e_86,h⟩:=ac8 h
     refine af5 (bI8 (rs:=[.agg (ax5 x_29.2.1),.sl 1 (a0.map aa6),.sl 2 ([].map ah3)]) (fun _=>rfl) rfl (RVL.toN (L:=L + 1) ⟨_,_,rfl,⟨_,rfl,((o8 ai3 (o8 r_37 (o8 r_39 (o8 r_41 (o8 aa8 au9))))) : ab7 (ax5 x_29.2.1) _).toS⟩,_,_,rfl,ar0.toS,_,_,rfl,(RelC.nil 2 _).toS,rfl⟩) ((cq0) _ _ _ _ e_86 (L + 1) _)) ?_
     rintro _ ⟨c_87,rfl,r_88⟩
     obtain ⟨v_89,v_91,v_93,v_95,v_97,v_99,v_101,hE_103,r_90,r_92,r_94,r_96,r_98,r_100,r_102⟩:=cS1 r_88
     refine o6 (c02 rfl (by rw [hE_103]; rfl)) (o6 (s_mv rfl) (aa3 (y7 (aa1 (aa1 (aa2 (o6 (s_mv rfl) ?_)))))))
     refine o6 (ba7 (c:=aa6) rfl r_96) (o6 (s_mv rfl) (aa3 (y7 (ag3 (aJ0 (Mv.sub (.cons (i:=0) rfl .rfl (.cons (i:=1) rfl .rfl (.cons (i:=2) rfl .rfl (.cons (i:=3) rfl .rfl (.cons (i:=4) rfl .rfl (.cons (i:=5) rfl .rfl (.cons (i:=6) rfl .rfl (.cons (i:=8) rfl .rfl (.cons (i:=9) rfl .rfl (.cons (i:=10) rfl .rfl (.cons (i:=11) rfl .rfl .nil))))))))))) rfl) ?_)))))
     rintro _ rfl
     refine aJ0 (Mv.sub (.cons (i:=0) rfl .rfl (.cons (i:=1) rfl .rfl (.cons (i:=2) rfl .rfl (.cons (i:=3) rfl .rfl (.cons (i:=4) rfl .rfl (.cons (i:=5) rfl .rfl (.cons (i:=6) rfl .rfl (.cons (i:=7) rfl .rfl (.cons (i:=8) rfl .rfl (.cons (i:=10) rfl .rfl .nil)))))))))) rfl) ?_
     rintro _ rfl
     refine aJ0 (Mv.sub (.cons (i:=0) rfl .rfl (.cons (i:=1) rfl .rfl (.cons (i:=2) rfl .rfl (.cons (i:=3) rfl .rfl (.cons (i:=4) rfl .rfl (.cons (i:=5) rfl .rfl (.cons (i:=6) rfl .rfl (.cons (i:=7) rfl .rfl (.cons (i:=8) rfl .rfl .nil))))))))) rfl) ?_
     rintro _ rfl
     refine aJ0 (Mv.sub (.cons (i:=7) rfl .rfl (.cons (i:=8) rfl .rfl (.cons (i:=0) rfl .rfl (.cons (i:=1) rfl .rfl (.cons (i:=2) rfl .rfl (.cons (i:=3) rfl .rfl (.cons (i:=4) rfl .rfl (.cons (i:=5) rfl .rfl (.cons (i:=6) rfl .rfl .nil))))))))) rfl) ?_
     rintro _ rfl
     refine aJ0 (Mv.jj rfl) ?_
     rintro _ ⟨J_104,rfl⟩
     obtain ⟨o_114,e_115,h⟩:=ac8 h
     refine aA8 (IN:=at6 L (Int.tmod (IntKind.i64.wrap a1) 5) x_85.Input x_85.Input (x_85.Input.length : Int) p_65 g_66 v_95 v_95) (IB:=az8 L (Int.tmod (IntKind.i64.wrap a1) 5) x_85.Input x_85.Input (x_85.Input.length : Int) p_65 g_66 v_95 v_95) (IR:=fun r=>ab1 L K.aa4.res [.bool r]) e_115 (bo1 fu  (Int.tmod (IntKind.i64.wrap a1) 5) x_85.Input x_85.Input (x_85.Input.length : Int) (P_i5:=p_65) (G_i5:=g_66) (v13:=v_95) (v60:=v_95) r_96 r_96) (fun T S hT hS=>⟨J_104,v_67,b_75,w_69,F_70,w_71,F_72,w_73,F_74,w_77,F_78,w_79,F_80,w_81,F_82,(CV.rel.1 r_68),h_76,hT.sub (subE.cons rfl (subE.cons rfl (subE.cons rfl (subE.cons rfl (subE.cons rfl (subE.cons rfl (subE.cons rfl (subE.nil _)))))))),hS.sub (.cons (i:=0) rfl (.jnk rfl rfl) (.cons (i:=1) rfl (.cel rfl rfl) (.cons (i:=2) rfl (.own rfl rfl) (.cons (i:=3) rfl (.own rfl rfl) (.cons (i:=4) rfl (.own rfl rfl) (.cons (i:=5) rfl (.own rfl rfl) (.cons (i:=6) rfl (.own rfl rfl) (.cons (i:=7) rfl (.own rfl rfl) .nil)))))))) rfl⟩) ?_
     rintro x T S hO
     cases o_114 with
     | brk s =>
      obtain ⟨q_i5b_116,p6b_116⟩:=s
      obtain ⟨rfl,J_i6b_116,z_i5_0b_116,b_i5_4b_116,w_i7b_116,F_i7b_116,w_i8b_116,F_i8b_116,w_i9b_116,F_i9b_116,w_i10b_116,F_i10b_116,w_i11b_116,F_i11b_116,w_i12b_116,F_i12b_116,y_i5_0b_116,h_i5_4b_116,hT,hS⟩:=hO
      refine (show G (.exit 2) L F.aa4 [(6,.lit (.string (bs p6b_116))),(7,.lit (.int .i64 (Int.tmod (IntKind.i64.wrap a1) 5))),(12,.ptr p_65 g_66 0 0),(13,v_95)] [.jnk false [] J_i6b_116,.cel false [] p_65 g_66 80 [z_i5_0b_116,w_i7b_116,w_i8b_116,w_i9b_116,b_i5_4b_116,w_i10b_116,.lit (.int .i64 q_i5b_116.state.Op),.lit (.string (bs q_i5b_116.state.Pattern)),.lit (.string (bs q_i5b_116.state.Hold)),.lit (.bool q_i5b_116.state.Flag),.lit (.int .i64 q_i5b_116.state.Line),w_i11b_116,w_i12b_116,.lit (.bool q_i5b_116.state.Done)],.own false [] (.gs 1 88 (List.map (ak6 y8) q_i5b_116.regexes)) w_i7b_116 F_i7b_116,.own false [] (.gs 1 9 (List.map aa6 q_i5b_116.input)) w_i8b_116 F_i8b_116,.own false [] (.ptr 96 (o7 q_i5b_116.files)) w_i9b_116 F_i9b_116,.own false [] (.bb 5 q_i5b_116.out) w_i10b_116 F_i10b_116,.own false [] (.rw true 1 3 (List.map (ah4 .i64) q_i5b_116.state.Ranges)) w_i11b_116 F_i11b_116,.own false [] (.gs 2 122 (List.map y5 q_i5b_116.state.Queue)) w_i12b_116 F_i12b_116] (Blk 2 (Thn P K.aR2 (ab1 L K.aa4.res [.bool r]))) from ?_) T S hT hS
      refine ay3 (y7 (aa1 (aa1 (aa2 (o6 (s_mv rfl) (o6 (ba7 (c:=aa6) rfl r_96) (o6 (s_mv rfl) ?_)))))))
      refine o6 (s_ib rfl rfl rfl) (o6 (s_ib rfl rfl rfl) (o6 (s_mv rfl) (aa3 (y7 (ag3 ?_)))))
      obtain ⟨o_174,e_175,h⟩:=ac8 h
      refine aA8 (IN:=at7 L p6b_116 (G.mulI (x_85.Input.length : Int) (G.addI (Int.tmod (IntKind.i64.wrap a1) 5) 1)) p_65 g_66) (IB:=aA0 L p6b_116 (G.mulI (x_85.Input.length : Int) (G.addI (Int.tmod (IntKind.i64.wrap a1) 5) 1)) p_65 g_66) (IR:=fun r=>ab1 L K.aa4.res [.bool r]) e_175 (bq3 fu  p6b_116 (G.mulI (x_85.Input.length : Int) (G.addI (Int.tmod (IntKind.i64.wrap a1) 5) 1)) (P_i5:=p_65) (G_i5:=g_66)) (fun T S hT hS=>⟨J_i6b_116,z_i5_0b_116,b_i5_4b_116,w_i7b_116,F_i7b_116,w_i8b_116,F_i8b_116,w_i9b_116,F_i9b_116,w_i10b_116,F_i10b_116,w_i11b_116,F_i11b_116,w_i12b_116,F_i12b_116,y_i5_0b_116,h_i5_4b_116,hT.sub (subE.cons rfl (subE.cons rfl (subE.cons rfl (subE.cons rfl (subE.nil _))))),hS.sub (.cons (i:=0) rfl (.jnk rfl rfl) (.cons (i:=1) rfl (.cel rfl rfl) (.cons (i:=2) rfl (.own rfl rfl) (.cons (i:=3) rfl (.own rfl rfl) (.cons (i:=4) rfl (.own rfl rfl) (.cons (i:=5) rfl (.own rfl rfl) (.cons (i:=6) rfl (.own rfl rfl) (.cons (i:=7) rfl (.own rfl rfl) .nil)))))))) rfl⟩) ?_
      rintro x T S hO
      cases o_174 with
      | brk q_i5b_176 =>
       obtain ⟨rfl,J_i6b_176,z_i5_0b_176,b_i5_4b_176,w_i7b_176,F_i7b_176,w_i8b_176,F_i8b_176,w_i9b_176,F_i9b_176,w_i10b_176,F_i10b_176,w_i11b_176,F_i11b_176,w_i12b_176,F_i12b_176,y_i5_0b_176,h_i5_4b_176,hT,hS⟩:=hO
       refine (show G (.exit 4) L F.aa4 [(6,.lit (.string (bs p6b_116))),(12,.ptr p_65 g_66 0 0)] [.jnk false [] J_i6b_176,.cel false [] p_65 g_66 80 [z_i5_0b_176,w_i7b_176,w_i8b_176,w_i9b_176,b_i5_4b_176,w_i10b_176,.lit (.int .i64 q_i5b_176.state.Op),.lit (.string (bs q_i5b_176.state.Pattern)),.lit (.string (bs q_i5b_176.state.Hold)),.lit (.bool q_i5b_176.state.Flag),.lit (.int .i64 q_i5b_176.state.Line),w_i11b_176,w_i12b_176,.lit (.bool q_i5b_176.state.Done)],.own false [] (.gs 1 88 (List.map (ak6 y8) q_i5b_176.regexes)) w_i7b_176 F_i7b_176,.own false [] (.gs 1 9 (List.map aa6 q_i5b_176.input)) w_i8b_176 F_i8b_176,.own false [] (.ptr 96 (o7 q_i5b_176.files)) w_i9b_176 F_i9b_176,.own false [] (.bb 5 q_i5b_176.out) w_i10b_176 F_i10b_176,.own false [] (.rw true 1 3 (List.map (ah4 .i64) q_i5b_176.state.Ranges)) w_i11b_176 F_i11b_176,.own false [] (.gs 2 122 (List.map y5 q_i5b_176.state.Queue)) w_i12b_176 F_i12b_176] (Blk 4 (Thn P K.aR4 (ab1 L K.aa4.res [.bool r]))) from ?_) T S hT hS
       refine ay3 (y7 (aa1 (aa2 (o6 (s_mv rfl) (aq7 (Mv.sub (.cons (i:=1) rfl .rfl (.cons (i:=2) rfl .rfl (.cons (i:=3) rfl .rfl (.cons (i:=4) rfl .rfl (.cons (i:=5) rfl .rfl (.cons (i:=6) rfl .rfl (.cons (i:=7) rfl .rfl (.cons (i:=0) rfl .rfl .nil)))))))) rfl) ?_)))))
       rintro _ rfl
       refine aq7 (Mv.sht (os:=(o5 q_i5b_176)) (N:=[.own false [] (.gs 1 88 (List.map (ak6 y8) q_i5b_176.regexes)) w_i7b_176 F_i7b_176,.own false [] (.gs 1 9 (List.map aa6 q_i5b_176.input)) w_i8b_176 F_i8b_176,.own false [] (.ptr 96 (o7 q_i5b_176.files)) w_i9b_176 F_i9b_176,.own false [] (.bb 5 q_i5b_176.out) w_i10b_176 F_i10b_176,.own false [] (.rw true 1 3 (List.map (ah4 .i64) q_i5b_176.state.Ranges)) w_i11b_176 F_i11b_176,.own false [] (.gs 2 122 (List.map y5 q_i5b_176.state.Queue)) w_i12b_176 F_i12b_176]) rfl ⟨(CV.rel.2 y_i5_0b_176),rfl,rfl,rfl,rfl,rfl,rfl,h_i5_4b_176,rfl,rfl,rfl,rfl,rfl,rfl,rfl,rfl,rfl,rfl,rfl,rfl,rfl,rfl⟩) ?_
       rintro _ ⟨F_177,rfl⟩
       obtain ⟨x_178,e_179,h⟩:=ac8 h
       refine af5 (s_clQ (A1:=[.own false [] (.ptr 80 (o5 q_i5b_176)) (.ptr p_65 g_66 0 0) F_177]) (fun _=>rfl) rfl rfl rfl (show InC [.o (.ptr 80 (o5 q_i5b_176))] _ _ from ⟨rfl,rfl,rfl,rfl⟩) rfl ((aN4) _ _ e_179)) ?_
       rintro _ ⟨c_180,rfl,r_181⟩
       obtain ⟨v_182,v_184,hE_186,r_183,r_185⟩:=bM9 r_181
       refine o6 (c02 rfl (by rw [hE_186]; rfl)) (o6 (s_mv rfl) ?_)
       refine aN5 (gb:=x_178.Done) (af:=af0) (Q:=fun u=>u = .ptr p_65 g_66 0 0) rfl (af7 _) (fun hg=>?_) ?_
       ·exact s_mv rfl
       intro v_189 hv_187 hu_188
       by_cases h_190 : x_178.Done = true
       ·replace h:=iteT h h_190
        refine aX1 rfl ((af7 _).trans h_190) ?_
        obtain rfl:=(hv_187 h_190).symm
        obtain ⟨x_191,e_192,h⟩:=ac8 h
        refine af5 (s_clQ (A1:=[.own false [] (.ptr 80 (o5 q_i5b_176)) (.ptr p_65 g_66 0 0) F_177]) (fun _=>rfl) rfl rfl rfl (show InC [.o (.ptr 80 (o5 q_i5b_176))] _ _ from ⟨rfl,rfl,rfl,rfl⟩) rfl ((bG6) _ _ e_192)) ?_
        rintro _ rfl
        refine aX1 rfl ((af7 _).trans h_190) (o6 (s_mv rfl) (aX1 rfl ((af7 _).trans h_190) (o6 (s_seq1 rfl rfl) (o6 (cG1 rfl rfl (fun _=>rfl)) (o6 (s_mv rfl) ?_)))))
        refine aN5 (gb:=(x_178.Done && (decide (x_191 = p6b_116)))) (af:=af0) (Q:=fun u=>u = .ptr p_65 g_66 0 0) rfl (af7 _) (fun hg=>?_) ?_
        ·exact s_mv rfl
        intro v_195 hv_193 hu_194
        by_cases h_196 : (x_178.Done && (decide (x_191 = p6b_116))) = true
        ·replace h:=iteT h h_196
         refine aX1 rfl ((af7 _).trans h_196) ?_
         obtain rfl:=(hv_193 h_196).symm
         obtain ⟨x_197,e_198,h⟩:=ac8 h
         refine aP5 (A1:=[.own false [] (.ptr 80 (o5 q_i5b_176)) (.ptr p_65 g_66 0 0) F_177]) rfl rfl (show InC [.o (.ptr 80 (o5 q_i5b_176))] _ _ from ⟨rfl,rfl,rfl,rfl⟩) rfl rfl rfl rfl rfl ((az4) _ _ e_198) ?_
         rintro _ _ _ J_200 ⟨F_201,_,rfl,rfl⟩ ⟨rfl,rfl⟩
         refine aX1 rfl ((af7 _).trans h_196) (o6 (s_nt rfl) (o6 (cG1 rfl rfl (fun _=>rfl)) (o6 (s_mv rfl) (aa3 (y7 (ap6 ?_))))))
         obtain rfl:=Option.some.inj h
         exact aX0 (.tr rfl rfl .nil)
        ·replace h:=iteF h h_196
         replace h_196:=Bool.eq_false_iff.2 h_196
         refine aX3 rfl ((af7 _).trans h_196) (aX3 rfl ((af7 _).trans h_196) (o6 (cG1 (b:=false) rfl rfl (fun hq=>by have hz:=hq; first | (rw [h_196] at hz; cases hz) | simp [h_196] at hz <;> rfl)) (o6 (s_mv rfl) (aa3 (y7 (ap6 ?_))))))
         obtain rfl:=Option.some.inj h
         exact aX0 (.tr rfl rfl .nil)
       ·replace h:=iteF h h_190
        replace h_190:=Bool.eq_false_iff.2 h_190
        refine aX3 rfl ((af7 _).trans h_190) (aX3 rfl ((af7 _).trans h_190) (aX3 rfl ((af7 _).trans h_190) (o6 (cG1 (b:=false) rfl rfl (fun hq=>by have hz:=hq; first | (rw [h_190] at hz; cases hz) | simp [h_190] at hz <;> rfl)) (o6 (s_mv rfl) ?_))))
        refine aN5 (gb:=(x_178.Done && false)) (af:=af0) (Q:=fun u=>u = .ptr p_65 g_66 0 0) rfl (af7 _) (fun hg=>?_) ?_
        ·exact s_mv rfl
        intro v_204 hv_202 hu_203
        by_cases h_205 : (x_178.Done && false) = true
        ·replace h:=iteT h h_205
         refine aX1 rfl ((af7 _).trans h_205) ?_
         obtain rfl:=(hv_202 h_205).symm
         obtain ⟨x_206,e_207,h⟩:=ac8 h
         refine aP5 (A1:=[.own false [] (.ptr 80 (o5 q_i5b_176)) (.ptr p_65 g_66 0 0) F_177]) rfl rfl (show InC [.o (.ptr 80 (o5 q_i5b_176))] _ _ from ⟨rfl,rfl,rfl,rfl⟩) rfl rfl rfl rfl rfl ((az4) _ _ e_207) ?_
         rintro _ _ _ J_209 ⟨F_210,_,rfl,rfl⟩ ⟨rfl,rfl⟩
         refine aX1 rfl ((af7 _).trans h_205) (o6 (s_nt rfl) (o6 (cG1 rfl rfl (fun _=>rfl)) (o6 (s_mv rfl) (aa3 (y7 (ap6 ?_))))))
         obtain rfl:=Option.some.inj h
         exact aX0 (.tr rfl rfl .nil)
        ·replace h:=iteF h h_205
         replace h_205:=Bool.eq_false_iff.2 h_205
         refine aX3 rfl ((af7 _).trans h_205) (aX3 rfl ((af7 _).trans h_205) (o6 (cG1 (b:=false) rfl rfl (fun hq=>by have hz:=hq; first | (rw [h_205] at hz; cases hz) | simp [h_205] at hz <;> rfl)) (o6 (s_mv rfl) (aa3 (y7 (ap6 ?_))))))
         obtain rfl:=Option.some.inj h
         exact aX0 (.tr rfl rfl .nil)
      | ret r =>
       obtain rfl:=Option.some.inj h
       obtain ⟨rfl,hO⟩:=hO
       exact hO
     | ret r =>
      obtain rfl:=Option.some.inj h
      obtain ⟨rfl,hO⟩:=hO
      exact hO
  | ret r =>
   obtain rfl:=Option.some.inj h
   obtain ⟨rfl,hO⟩:=hO
   exact hO
open Go.ChangeShapes Go.WideShapes Go.ChangeAt Go.RowKit Go.Deep
namespace machPlain
theorem runs (y : shT.Ty) (hy : y.1.length ≤ maxLen) (k : Nat) (hk : k < 256) (W : World) (args' : Array Value) (ht : ∀ x ∈ Cfg.tabs,∃ v,W.cell? ⟨x.1,x.2.1,none⟩ = some v ∧ x.2.2 v) (ha : CRel (Gh.start W) [slV 1 (y.1.map Sh.str.avs) y.2,.lit (.int .u8 k)] args'.toList) :
  Calls Tryz.prog F.aa4 args' W fun e W'=>e = .returned (.bool true) ∧ Below W.heap.size W W':=by
 obtain ⟨v,h1,h2⟩:=bK5 (P:=Tryz.prog) 1 y.1 (k : Int) true (cr9 y.1 (Nat.le_trans hy (by decide)) k hk) 0 [slV 1 (y.1.map Sh.str.avs) y.2,.lit (.int .u8 k)] ⟨_,_,rfl,RV.C.nrmA (r:=.sl 1 (List.map aa6 y.1)) (c94 y),_,_,rfl,rfl,rfl⟩ .bare _ rfl
 obtain rfl : v = .lit (.bool true):=h2
 exact cN9 cfgOk givenOk ck4 h1 ht ha
set_option maxRecDepth 100000 in
theorem contract (H : Type) (enc : TypeId × Value → H) (W : World) (base : Nat) (args : Array Value) (ds gs : List (DataW H)) (before : List MemPlace)
  (hval : ∀ (j : Nat) t v,Tryz.f3.params[j]? = some t → args[j]? = some v → Value.okWide Tryz.prog W .any base t v)
  (hW : DataW.Whole enc Tryz.prog Tryz.f3.params.toList Rows.machPlainSpec.vars false W args.toList ds gs before) (hlaid : laidMet Tryz.prog Rows.machPlainRow.laid W) (hsh : W.ShapedOpen Tryz.prog) :
  Calls Tryz.prog 3 args W fun e W'=>∃ v,e = .returned v ∧ Rows.machPlainSpec.post enc Tryz.prog Tryz.f3 false true false false W args v W':=by
 have hW':=hW
 obtain ⟨p,q,hA0,hV,rfl,hfz,hnd⟩:=hW
 have hA : DataW.TrodAll enc Tryz.prog W 0 (fun _=>true) true Tryz.f3.params.toList args.toList ds p:=hA0
 rw [Tryz.params3] at hA hval
 obtain ⟨v0,vs0,d0,ds0,p0,q0,hargs,rfl,rfl,h0,r0⟩:=trodAll_cons hA
 obtain ⟨v1,vs1,d1,ds1,p1,q1,rfl,rfl,rfl,h1,r1⟩:=trodAll_cons r0
 obtain ⟨rfl,rfl,rfl⟩:=trodAll_nil r1
 obtain rfl : args = #[v0,v1]:=by cases args; simp_all
 obtain ⟨rfl,rfl⟩:=trodVars_none hV
 obtain ⟨a0,l0,c0,rfl⟩:=okWide_slice Tryz.underlying22 (hval 0 22 v0 rfl rfl)
 obtain ⟨n1,rfl⟩:=okWide_int Tryz.underlying5 (hval 1 5 v1 rfl rfl)
 obtain ⟨fuel,h0⟩:=h0
 obtain ⟨fuel1,h1⟩:=h1
 obtain ⟨y0,e0,w0⟩:=shT.open (by kernel_rfl) h0
 obtain ⟨y1,e1,w1⟩ : ∃ y1 : Int,CRel (Gh.start W) [.lit (.int .u8 y1)] (Value.int .u8 n1).cells.toList ∧ (Lit.int .u8 y1).wf = true:=(Sh.int .u8).open (by kernel_rfl) h1
 clear hA0
 simp only [Lit.wf,Bool.and_eq_true,decide_eq_true_eq] at w1
 have m1 : IntKind.u8.min = 0:=rfl
 have m2 : IntKind.u8.max = 255:=rfl
 obtain ⟨k,rfl⟩ : ∃ k : Nat,y1 = (k : Int):=⟨y1.toNat,by omega⟩
 refine (runs y0 w0.1 k (by omega) W #[.slice a0 l0 c0,.int .u8 n1] (tabs W hlaid hsh) (CRel.cons (CRel.head e0) (CRel.cons (CRel.head e1) (CRel.nil _)))).mono fun e W' ⟨he,hb⟩=>?_
 subst he
 exact ⟨_,rfl,db6 laidOut (by kernel_rfl) rfl Tryz.underlying4 rfl (fun x hx=>by match x,hx with | [a,b],_=>rfl) hW' hb⟩
def wA : Array Value:=#[.slice none 0 0,.int .u8 0]
theorem laid_met (os : Os) : laidMet Tryz.prog Rows.machPlainRow.laid ((laidWorld os).forCall (fun _ _=>0) ⟨#[],wA,[]⟩).memory :=
 laidMet_of_run' 8 (by kernel_rfl) (by kernel_rfl)
theorem reads (os : Os) {H : Type} (enc : TypeId × Value → H) : ∃ ds places,DataW.whole enc Tryz.prog ((laidWorld os).forCall (fun _ _=>0) ⟨#[],wA,[]⟩).memory Tryz.f3.params.toList Rows.machPlainSpec.vars false wA.toList 8 = some (ds,[],places) :=
 ⟨[.nil,.lit (.int .u8 0)],[],by kernel_rfl⟩
set_option maxRecDepth 100000 in
theorem lifted (os : Os) (started : os.Started) (H : Type) (enc : TypeId × Value → H) (F : Stop.Interp) :
  ReturnsInHanded {} Tryz.checked os 3 .any ((OpenSpec.ofChange Rows.machPlainSpec).preRow enc Tryz.prog Tryz.f3 Rows.machPlainRow.domain false Rows.machPlainRow.laid) (((OpenSpec.ofChange Rows.machPlainSpec).at F).post enc Tryz.prog Tryz.f3 false true false false):=by
 obtain ⟨ds0,places,hx⟩:=reads os enc
 refine returnsInHanded_of_row (C:=Tryz.checked) (s:=OpenSpec.ofChange Rows.machPlainSpec) own started (by kernel_rfl) Tryz.func3
  (witness_row_at (enc:=enc) (C:=Tryz.checked) false (laidWorld os) wA rfl (by kernel_rfl) (by kernel_rfl) (by kernel_rfl)
   (OpenSpec.preRow_of_cond 8 hx (by kernel_rfl) (fun k hk=>by cases hk) (by kernel_rfl) (laid_met os))) ?_
 intro W base args ds gs before hval hW _ _ _ hlaid hsh _
 exact contract H enc W base args ds gs before hval hW hlaid hsh
end machPlain
namespace machPlain
def clos : List FuncId:=[3,5,7,16,41,72,111,159,212,160,161,162,213,42,73,112,163,164,214,215,216,250,217,197,238,251,256,119,285,74,113,43,75,114,165,168,218,252,260,169,219,253,38,277,101,105,153,278,279,65,254,280,305,321,338,353,364,306,322,339,354,340,316,344,341,343,356,323,357,366,360,371,375,381,384,386,392,387,388,389,390,391,393,394,395,396,397,398,385,369,370,273,358,367,368,376,378,382,139,377,383,276,359,342,355,365,324,281,307,308,325,345,326,346,347,348,350,362,373,243,271,374,379,380,327,349,361,372,220,166,167,175,76,115,116,117,118,120,77,121,170,221,222,257,255,282,283,284,309,328,223,171,176,224,172,173,225,226,227,258,191,235,228,259,229,174,230,122,44,45,78,17,46,79,123,177,47,80,124,125,178,179,182,231,183,232,261,262,263,286,287,288,310,329,312,333,351,331,332,363,330,352,335,311,313,334,264,289,314,336,290,265,186,86,81,82,83,84,85,126,127,180,128,129,181,93,136,135,184,233,185,130,187,48,18,49,87,131,188,189,50,88,89,132,190,234,266,291,315,292,293,294,295,192,193,236,267,268,237,269,90,133,195,194,19,51,52,91,134,92,94,9,24,26,59,22,55,97,137,196,138,198,8,20,53,95,21,54,96,23,56,99,149,150,98,140,146,204,141,199,142,200,201,143,202,203,239,144,145,147,148,57,25,58,100,12,33,60,61,102,151,34,62,63,104,152,205,240,241,31,242,270,68,107,156,207,208,246,247,209,210,248,249,275,244,272,296,302,320,297,317,298,299,318,319,337,300,301,303,304,245,274,103,35,64,36,66,67,106,154,206,155,37,69,108,13,11,32,6,10,27,28,29,30]
theorem fuel_eq : 1 + (Tryz.prog.funcs.toList.map fun g=>(Tryz.prog.leadsTo g).length + 1).sum = 1418:=by kernel_rfl
theorem via_eq : Tryz.prog.closureVia 1418 [3] [] = clos:=by kernel_rfl
theorem ck6 : Tryz.prog.closure 3 = clos:=by
 unfold Program.closure
 rw [fuel_eq]
 exact via_eq
theorem cR0 : Tryz.prog.inPlace 3 = Rows.machPlainRow.inPlace:=by
 unfold Program.inPlace
 rw [ck6]
 as_aux_lemma=>kernel_rfl
theorem bO6 : Tryz.prog.unfollowed 3 = true:=by
 unfold Program.unfollowed
 rw [ck6]
 as_aux_lemma=>kernel_rfl
theorem cD3 : Tryz.prog.recurses 3 = true:=by
 unfold Program.recurses
 rw [bO6,Bool.true_or]
theorem vars_eq : Tryz.prog.varsNamed 3 = Rows.machPlainRow.named:=by
 unfold Program.varsNamed
 rw [ck6]
 as_aux_lemma=>kernel_rfl
theorem c84 : (clos.any fun g=>(Tryz.prog.funcs[g]?).any Func.goes) = false:=by kernel_rfl
theorem goes_all : Tryz.prog.funcs.any Func.goes = false:=by kernel_rfl
theorem goes_eq : Tryz.prog.goes 3 = false:=by
 unfold Program.goes
 rw [ck6,c84,goes_all,Bool.and_false,Bool.or_false]
theorem cJ1 : Tryz.prog.funcNamed Rows.machPlainRow.func = some 3:=by kernel_rfl
theorem cU2 : false = Rows.machPlainRow.goesBy Tryz.prog:=by
 unfold OpenClaim.goesBy Program.goesAt Program.goesFrom
 rw [cJ1,Option.any_some,goes_eq,Bool.false_or]
 as_aux_lemma=>kernel_rfl
theorem facts_eq : joinedFacts Tryz.prog 3 Tryz.f3 (OpenSpec.ofChange Rows.machPlainSpec).bare Rows.machPlainRow = true:=by
 unfold joinedFacts
 rw [cR0,bO6,cD3,vars_eq]
 as_aux_lemma=>kernel_rfl
end machPlain
end Go.Proofs.YtbinfgmdamlkbaaGreatDoor
