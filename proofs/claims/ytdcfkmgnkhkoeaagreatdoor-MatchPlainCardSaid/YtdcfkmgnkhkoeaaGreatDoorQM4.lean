/-
  A part of the proof: packed by a program.
-/
import Derived.Test.YtdcfkmgnkhkoeaaGreatDoorQM3
import Derived.Shelf.Strings.Builder1
import Derived.Shelf.Small.Bits
import Derived.Shelf.Small.Wraps
import Derived.Shelf.Strconv.Itoa0
import Derived.Shelf.Strconv.Itoa1
import Derived.Shelf.LaysM
import Derived.Shelf.Strconv.Itoa2
import Derived.Shelf.Strconv.Itoa3
import Derived.Shelf.Strings.Prefix
import Derived.Shelf.Bits.Mul64
import Derived.Ground.Names2Prog
import Derived.Shelf.Slices.Clone
import Derived.Shelf.Slices.SearchI
import Derived.Ground.SlgnProg
import Derived.Shelf.SlicesE.Clone
import Derived.Ground.SlgmProg
import Derived.Shelf.SortM.Plain
import Derived.Shelf.SortM.SortNone
import Derived.Test.YtdcfkmgnkhkoeaaGreatDoorProg
import Derived.Lib.Builder
import Derived.Lib.Strings
import Derived.Lib.IndexMore
import Derived.Lib.SlTrimSet
import Derived.Lib.Index
import Derived.Lib.IndexAny
import Derived.Lib.Bytealg
import Derived.Lib.ItoaNum
import Derived.Lib.Small
set_option maxRecDepth 100000
set_option maxHeartbeats 4000000
set_option linter.unusedVariables false
set_option linter.unusedSimpArgs false
namespace Go.Proofs.YtdcfkmgnkhkoeaaGreatDoor
open Go.RowKit
def AS.wd (S : AS) (ds : List (FuncId × List AV)) : AS:={ S with dfr:=ds }
def BI.plain (i : BI) : Bool:=match i.o with
 | .gen _ _=>false
 | _=>true
def BC.aK3 : BC → Bool
 | .ops l=>l.all BI.plain
 | .draw l _=>l.all BI.plain
 | .seq a b=>a.aK3 && b.aK3
 | .cond _ a b=>a.aK3 && b.aK3
 | .block _ b=>b.aK3
 | .loop b=>b.aK3
 | .bad=>false
 | _=>true
theorem cs9 {a b : BC} (h : (bseq a b).aK3 = true) : a.aK3 = true ∧ b.aK3 = true:=by
 unfold bseq at h
 split at h
 ·exact ⟨rfl,h⟩
 ·simpa [BC.aK3] using h
section
variable [Cfg] {P : Program} {Δ : af4}
omit [Cfg] in
theorem foot_wd {S : AS} {ds : List (FuncId × List AV)} {T : BT} {d : Option Nat} (b : BF) : b.foot (S.wd ds) T d = b.foot S T d:=by cases b <;> rfl
theorem bop_wd {S : AS} {ds : List (FuncId × List AV)} {T : BT} {d : Option Nat} {o : BO} (h : (match o with | .gen _ _=>false | _=>true) = true) : bop P (S.wd ds) T d o = bop P S T d o:=by
 cases o <;> first | rfl | cases h
def wd4 (ds : List (FuncId × List AV)) : BO4 → BO4:=Option.map fun r=>(r.1,r.2.1,r.2.2.1.wd ds,r.2.2.2)
def wd3 (ds : List (FuncId × List AV)) : XB → XB:=Option.map fun r=>(r.1,r.2.1,r.2.2.wd ds)
theorem bE1 (hΔ : ∀ f args S ds,Δ f args (AS.wd S ds) = Δ f args S) {ds : List (FuncId × List AV)} : ∀ (l : List BI) (acc : Acc) (T : BT) (S : AS),l.all BI.plain = true → aa8 P Δ acc l T (S.wd ds) = wd4 ds (aa8 P Δ acc l T S)
 | [],acc,T,S,_=>rfl
 | i :: r,acc,T,S,h=>by
  simp only [List.all_cons,Bool.and_eq_true] at h
  have ih:=bE1 hΔ (ds:=ds) r
  unfold aa8
  cases hw : aF8 T i.g with
  | false=>exact ih _ _ _ h.2
  | true =>
   simp only [if_true]
   rw [bop_wd h.1,foot_wd]
   cases ho : bop P S T i.d i.o with
   | none=>rfl
   | some x =>
    cases x with
    | val v=>exact ih _ _ _ h.2
    | pan v=>rfl
    | dfr f args =>
     exfalso
     revert ho h
     unfold BI.plain
     cases i.o with
     | gen _ _=>intro h; cases h.1
     | cd x xs =>
      intro _ ho
      simp only [bop] at ho
      split at ho
      ·split at ho <;> cases ho
      ·cases ho
     | nc x =>
      intro _ ho
      simp only [bop] at ho
      split at ho
      ·cases ho
      ·unfold aD3 at ho
       repeat' split at ho
       all_goals cases ho
     | bsl e n xs =>
      intro _ ho
      simp only [bop] at ho
      split at ho
      ·split at ho
       ·split at ho <;> cases ho
       ·cases ho
      ·cases ho
     | ap e n b s x =>
      intro _ ho
      simp only [bop] at ho
      split at ho
      ·split at ho
       ·unfold appB ay3 at ho
        repeat' split at ho
        all_goals cases ho
       ·cases ho
      ·cases ho
     | _ =>
      intro _ ho
      simp only [bop] at ho
      first
       | cases ho
       | (split at ho <;> cases ho)
       | (simp only [Option.map_eq_some_iff] at ho; obtain ⟨_,_,ho⟩:=ho; cases ho)
    | chg v p s =>
     cases hw2 : i.o.w with
     | false=>rfl
     | true=>exact ih _ _ (S.set p s) h.2
    | call f args =>
     cases hw2 : i.o.w with
     | false=>rfl
     | true =>
      simp only [if_true]
      have e1 : (S.wd ds).fn = S.fn:=rfl
      rw [e1]
      split
      ·split
       ·exact ih _ _ S h.2
       ·rfl
       ·rfl
      ·rw [hΔ]
       split
       ·rename_i u _
        have e2 : (S.wd ds).after u = (S.after u).wd ds:=by cases u <;> rfl
        rw [e2]
        exact ih _ _ _ h.2
       ·rename_i u _
        have e2 : (S.wd ds).after u = (S.after u).wd ds:=by cases u <;> rfl
        rw [e2]
        rfl
       ·rfl
theorem aK8 (hΔ : ∀ f args S ds,Δ f args (AS.wd S ds) = Δ f args S) {ds : List (FuncId × List AV)} (n : Nat) : ∀ (c : BC) (T : BT) (S : AS),c.aK3 = true → af6 P Δ n c T (S.wd ds) = wd3 ds (af6 P Δ n c T S)
 | .skip,T,S,_=>rfl
 | .ops l,T,S,h=>by
  simp only [af6,bE1 hΔ l none T S h]
  cases aa8 P Δ none l T S with
  | none=>rfl
  | some r=>obtain ⟨a,T',S',x⟩:=r; cases x <;> rfl
 | .draw l L,T,S,h=>by
  simp only [af6,bE1 hΔ l (acc0 L) T S h]
  cases aa8 P Δ (acc0 L) l T S with
  | none=>rfl
  | some r =>
   obtain ⟨a,T',S',x⟩:=r
   cases x with
   | some v=>rfl
   | none =>
    simp only [wd4,Option.map_some,bx9]
    cases L with
    | nil=>rfl
    | cons y L=>cases a with
     | none=>rfl
     | some fs =>
      simp only
      split <;> rfl
 | .seq a b,T,S,h=>by
  simp only [BC.aK3,Bool.and_eq_true] at h
  simp only [af6,aK8 hΔ n a T S h.1]
  cases af6 P Δ n a T S with
  | none=>rfl
  | some r =>
   obtain ⟨x,T',S'⟩:=r
   cases x with
   | normal=>exact aK8 hΔ n b T' S' h.2
   | _=>rfl
 | .cond c a b,T,S,h=>by
  simp only [BC.aK3,Bool.and_eq_true] at h
  simp only [af6]
  split
  ·split
   ·exact aK8 hΔ n a T S h.1
   ·exact aK8 hΔ n b T S h.2
  ·rfl
 | .block id b,T,S,h=>by
  simp only [af6,aK8 hΔ n b T S h]
  cases af6 P Δ n b T S with
  | none=>rfl
  | some r =>
   obtain ⟨x,T',S'⟩:=r
   cases x with
   | exit j =>
    simp only [wd3,Option.map_some]
    split <;> rfl
   | _=>rfl
 | .loop b,T,S,h=>by
  simp only [af6]
  have : ∀ k T S,bl4 (af6 P Δ n b) k T (AS.wd S ds) = wd3 ds (bl4 (af6 P Δ n b) k T S):=by
   intro k
   induction k with
   | zero=>intro T S; rfl
   | succ k ih =>
    intro T S
    unfold bl4
    rw [aK8 hΔ n b T S h]
    cases af6 P Δ n b T S with
    | none=>rfl
    | some r =>
     obtain ⟨x,T',S'⟩:=r
     cases x with
     | normal=>exact ih T' S'
     | _=>rfl
  exact this n T S
 | .exit id,T,S,_=>rfl
 | .ret,T,S,_=>rfl
 | .bad,_,_,_=>rfl
def bv2 : Prop:=∀ f h,Cfg.given f = some h → ∀ args S ds,h args (AS.wd S ds) = h args S
theorem cl7 (hG : bv2) : ∀ (n : Nat) f args S ds,aj2 P n f args (AS.wd S ds) = aj2 P n f args S
 | 0,_,_,_,_=>rfl
 | n + 1,f,args,S,ds=>by
  unfold aj2
  cases hg : Cfg.given f with
  | some h=>exact hG f h hg args S ds
  | none=>rfl
theorem callT_wd (hG : bv2) (f args S ds) : ah6 P f args (AS.wd S ds) = ah6 P f args S:=by
 apply Option.ext
 intro r
 rw [ax3,ax3]
 simp only [cl7 hG]
theorem cm7 (hG : bv2) {ds : List (FuncId × List AV)} {c : BC} (hc : c.aK3 = true) {T T' : BT} {S S' : AS} {x : AX} (h : an3 P c T S = some (x,T',S')) : an3 P c T (S.wd ds) = some (x,T',S'.wd ds):=by
 obtain ⟨n,h⟩:=ac2.1 h
 exact ac2.2 ⟨n,by rw [aK8 (callT_wd hG) n c T S hc,h]; rfl⟩
theorem bq0 {ops : Array Oper} : ∀ (l : List Oper) (T : TM) (S : AS) (m : AM) {fs : List Foot} {T' : TM} {S' : AS} {x : Option AV},(∀ o ∈ l,∀ a b,o.op ≠ .call ⟨.builtin .recover,a,b⟩) → aj8 P Δ ops l T S = some (fs,T',S',x) → am6 P Δ ops l T S m = some (T',S',m,x)
 | [],T,S,m,fs,T',S',x,_,h=>by
  unfold aj8 at h
  cases h
  rfl
 | o :: r,T,S,m,fs,T',S',x,hl,h=>by
  unfold aj8 at h
  unfold am6
  have ho:=hl o (List.mem_cons_self ..)
  have hr:=fun o h=>hl o (List.mem_cons_of_mem _ h)
  split
  ·rename_i a b e
   exact absurd e (ho a b)
  ·cases hs : ai8 P Δ ops o T S with
   | none=>rw [hs] at h; cases h
   | some y =>
    obtain ⟨f,T1,S1,v⟩:=y
    rw [hs] at h
    cases v with
    | some v=>cases h; rfl
    | none =>
     simp only at h ⊢
     split at h
     ·rename_i fs1 T2 S2 x2 h2
      cases h
      exact bq0 r T1 S1 m hr h2
     ·cases h
omit [Cfg] in
theorem bz9 {nt : Nat} {ops : Array Oper} : ∀ {l : List Oper} {bl : List BI},ce8 P nt ops l = some bl → bl.all BI.plain = true → ∀ o ∈ l,∀ a b,o.op ≠ .call ⟨.builtin .recover,a,b⟩
 | [],_,_,_=>fun _ h=>(nomatch h)
 | o :: r,bl,h,hp=>by
  unfold ce8 at h
  split at h
  case h_2=>cases h
  rename_i i l' hi hl
  cases h
  simp only [List.all_cons,Bool.and_eq_true] at hp
  intro o' ho'
  rcases List.mem_cons.1 ho' with rfl | ho'
  ·intro a b e
   unfold compI at hi
   split at hi
   ·simp only [Option.map_eq_some_iff] at hi
    obtain ⟨g,_,rfl⟩:=hi
    have:=hp.1
    unfold BI.plain at this
    simp only at this
    have e2 : aF2 P o' = .gen o'.op o'.type:=by
     unfold aF2
     rw [e]
    rw [e2] at this
    cases this
   ·cases hi
  ·exact bz9 hl hp.2 o' ho'
theorem aZ7 {n : Nat} {nt : Nat} : ∀ (c : Code) {bc : BC} (T : TM) (S : AS) (m : AM) {x : AX} {T' : TM} {S' : AS},aI1 P nt c = some bc → bc.aK3 = true → ae6 P Δ n c T S = some (x,T',S') → an4 P Δ n c T S m = some (x,T',S',m)
 | .region id ops d,bc,T,S,m,x,T',S',hc,hn,h=>by
  cases d with
  | true =>
   unfold an4
   rw [h]
   rfl
  | false =>
   unfold aI1 at hc
   split at hc
   case h_2=>cases hc; cases hn
   rename_i l hl
   cases hc
   unfold ae6 ay8 at h
   unfold an4
   split at h
   ·rename_i fs T1 S1 x1 hs
    rw [bq0 ops.toList T S m (bz9 hl hn) hs]
    cases x1 <;> (cases h; rfl)
   ·cases h
 | .seq a b,bc,T,S,m,x,T',S',hc,hn,h=>by
  unfold aI1 at hc
  split at hc
  case h_2=>cases hc
  rename_i ca cb ha hb
  cases hc
  obtain ⟨n1,n2⟩:=cs9 hn
  simp only [ae6] at h
  unfold an4
  cases h1 : ae6 P Δ n a T S with
  | none=>rw [h1] at h; cases h
  | some y =>
   obtain ⟨x1,T1,S1⟩:=y
   rw [h1] at h
   rw [aZ7 a T S m ha n1 h1]
   cases x1 with
   | normal=>exact aZ7 b T1 S1 m hb n2 h
   | _=>cases h; rfl
 | .skip,_,T,S,m,_,_,_,_,_,h=>by unfold an4; rw [h]; rfl
 | .label _,_,T,S,m,_,_,_,_,_,h=>by unfold an4; rw [h]; rfl
 | .cond _ _ _,_,T,S,m,_,_,_,_,_,h=>by unfold an4; rw [h]; rfl
 | .block _ _,_,T,S,m,_,_,_,_,_,h=>by unfold an4; rw [h]; rfl
 | .loop _,_,T,S,m,_,_,_,_,_,h=>by unfold an4; rw [h]; rfl
 | .exit _,_,T,S,m,_,_,_,_,_,h=>by unfold an4; rw [h]; rfl
 | .ret,_,T,S,m,_,_,_,_,_,h=>by unfold an4; rw [h]; rfl
 | .rangeFunc _ _ _ _,_,T,S,m,_,_,_,_,_,h=>by unfold ae6 at h; cases h
 | .goto _,_,T,S,m,_,_,_,_,_,h=>by unfold ae6 at h; cases h
omit [Cfg] in
theorem bG3 {f : FuncId} {b : BFn} (hf : ak2 P f = some b) : ∃ fn c, P.funcs[f]? = some fn ∧ fn.body = some c ∧ (fn.name == "runtime.NumGoroutine") = false ∧ aI1 P fn.ntmps c = some b.code ∧ bQ2 P fn.results.toList = some b.res ∧ fn.ntmps = b.nt := by
 unfold ak2 at hf
 split at hf
 case h_2=>cases hf
 rename_i fn hfn
 split at hf
 case h_2=>cases hf
 rename_i c hc
 obtain ⟨hn,hf⟩:=ab4 hf
 split at hf
 case h_2=>cases hf
 rename_i bc l hbc hl
 cases hf
 exact ⟨fn,c,hfn,hc,hn,hbc,hl,rfl⟩
theorem cy7 {f g : FuncId} {b bg : BFn} (hg : Cfg.given f = none) (hf : ak2 P f = some b) (hgf : ak2 P g = some bg) (hbg : bg.code.aK3 = true) (hres : bg.res = []) {args cs : List AV} (ha : args.length ≤ b.nt) {S S0 Sg : AS} {T' Tg : BT} {x y : AX} {v : AV} {u : Upd} {vs : List AV} {r : AV × Upd}
  (hx : an3 P b.code (aC5 (aE8 f S.fn args)) (S.enter f) = some (x,T',S0)) (hxx : x = .ret ∨ x = .normal) (hd : S0.dfr = [(g,cs)]) (hlen : cs.length ≤ bg.nt)
  (hy : an3 P bg.code (aC5 cs) ((S0.wd []).enter g) = some (y,Tg,Sg)) (hyy : y = .ret ∨ y = .normal) (hdg : Sg.dfr = []) (hh : ak3 g (S0.wd []) Sg (.tup []) = some (v,u))
  (hv : az2 ((S0.wd []).after u) T' b.res = some vs) (hr : ak3 f S ((S0.wd []).after u) (ao0 vs) = some r) : ah6 P f args S = some (.ret r.1,r.2):=by
 obtain ⟨fn,c,hfn,hc,hn,hbc,hl,hnt⟩:=bG3 hf
 obtain ⟨gn,d,hgn,hdc,hm,hbd,hgl,hgt⟩:=bG3 hgf
 obtain ⟨n1,k1⟩:=ac2.1 hx
 obtain ⟨n2,k2⟩:=ac2.1 hy
 have hlen' : (aE8 f S.fn args).length = args.length:=by unfold aE8; simp
 have k1:=al6 (Nat.le_max_left n1 n2) _ _ _ _ k1
 have k2:=al6 (Nat.le_max_right n1 n2) _ _ _ _ k2
 obtain ⟨Tl,q1,q2,q3⟩:=aE7 c b.code (aq9 fn (aE8 f S.fn args)) _ T' _ S0 x hbc (by simp [aq9,hlen']; omega) (bS8 _) k1
 obtain ⟨Tm,p1,p2,p3⟩:=aE7 d bg.code (aq9 gn cs) _ Tg _ Sg y hbd (by simp [aq9]; omega) (bS8 _) k2
 refine bD7 (n:=max n1 n2) hg hfn hc hn (by omega) ?_
 rw [q1]
 unfold finish
 have hmode : x.mode = some none:=by rcases hxx with rfl | rfl <;> rfl
 simp only [hmode,hd]
 have hrs : az0 P gn Sg Tm = some (ao0 []):=by
  unfold az0
  rw [bn1 p2 hgl (by rw [hres]; rfl)]
  rfl
 have hle : ai1 P (ah6 P) (max n1 n2) [(g,cs)] none { S0 with dfr:=[] } = some (none,(S0.wd []).after u):=by
  unfold ai1
  simp only [hgn,hdc]
  rw [if_pos ⟨hm,by omega⟩]
  have p1' : ae6 P (ah6 P) (max n1 n2) d (aq9 gn cs) (AS.enter { S0 with dfr:=[] } g) = some (y,Tm,Sg):=p1
  rw [aZ7 d _ _ none hbd hbg p1']
  simp only [hdg,hrs]
  have hh' : ak3 g { S0 with dfr:=[] } Sg (.tup []) = some (v,u):=hh
  rcases hyy with rfl | rfl
  ·simp only [List.isEmpty_nil,Option.isSome_some,Bool.and_self,if_true,hh']
   rfl
  ·simp only [List.isEmpty_nil,Option.isSome_some,Bool.and_self,if_true,hh']
   rfl
 rw [hle]
 unfold aJ9
 have hrs2 : az0 P fn ((S0.wd []).after u) Tl = some (ao0 vs):=by
  unfold az0
  rw [bn1 q2 hl hv]
  rfl
 simp only [hrs2,hr,Option.map_some]
end
end Go.Proofs.YtdcfkmgnkhkoeaaGreatDoor
namespace Go.Proofs
open Go.Shelf
def Tryz.lays169_ren : Go.Shelf.Ren:=⟨fun | 169=>62 | n=>n,fun | 70=>133 | 9=>9 | 0=>0 | 72=>136 | 37=>134 | 127=>160 | 3=>3 | 5=>5 | n=>n,fun | n=>n⟩
theorem Tryz.lays169 : Go.Proofs.Lays.n169 Tryz.prog Tryz.lays169_ren:={
 mixed:=by kernel_rfl
 f169:=Tryz.func62.trans (congrArg some (by kernel_rfl))
 t0:=Tryz.underlying0
 a0:=Tryz.isAgg0
 z0:=Tryz.sizeOf0
 v0:=Tryz.zeroValue0
 t3:=Tryz.underlying3
 a3:=Tryz.isAgg3
 z3:=Tryz.sizeOf3
 v3:=Tryz.zeroValue3
 t9:=Tryz.underlying9
 a9:=Tryz.isAgg9
 z9:=Tryz.sizeOf9
 v9:=Tryz.zeroValue9
 t37:=Tryz.underlying134
 a37:=Tryz.isAgg134
 z37:=Tryz.sizeOf134
 v37:=Tryz.zeroValue134
 t70:=Tryz.underlying133
 a70:=Tryz.isAgg133
 z70:=Tryz.sizeOf133
 v70:=Tryz.zeroValue133
 t72:=Tryz.underlying136
 a72:=Tryz.isAgg136
 z72:=Tryz.sizeOf136
 v72:=Tryz.zeroValue136
 t127:=Tryz.underlying160
 a127:=Tryz.isAgg160
 z127:=Tryz.sizeOf160
 v127:=Tryz.zeroValue160 }
theorem Tryz.Builder_Extra_169 : Builder.Extra Tryz.prog Tryz.lays169_ren:={
 sizeBuilder:=by kernel_rfl
 liesBuilder:=by kernel_rfl
 t5:=Tryz.underlying5
 a5:=Tryz.isAgg5
 z5:=Tryz.sizeOf5
 v5:=Tryz.zeroValue5
 infoByte:=by kernel_rfl
 cellsByte:=by kernel_rfl
 sizeByte:=by kernel_rfl
 neB5:=by decide }
end Go.Proofs
namespace Go.Proofs.YtdcfkmgnkhkoeaaGreatDoor
open Go.RowKit
theorem bn2 : Tryz.prog.follows .mixedOrders = true:=by kernel_rfl
theorem cfgOkA : @bp6 cfgA Tryz.prog:=@bp6.mk cfgA _ fun f hf v w=>by
 have hm : f ∈ sameL:=List.contains_iff_mem.1 hf
 simp only [sameL,List.mem_singleton] at hm
 subst hm
 have h1 : (Tryz.f99.name == "runtime.NumGoroutine") = false := by kernel_rfl
 have h2 : Tryz.f99.body.isNone = true:=by kernel_rfl
 have h3 : Extern.findNext Tryz.f99 = none:=by kernel_rfl
 have h4 : Extern.find Tryz.f99 = some Extern.AbiNoEscape.same:=by kernel_rfl
 have h5:=Go.Lib.run_noEscape (P:=Tryz.prog) w v
 have h6 : ¬ Tryz.f99.name = "runtime.NumGoroutine" := by simpa using h1
 simp [callFunc,Tryz.func99,h6,Option.isNone_iff_eq_none.1 h2,h3,h4,h5]
theorem cfgOk : bp6 Tryz.prog:=⟨fun f hf=>by cases hf⟩
def entered (P : Program) (f : FuncId) : Bool:=match P.funcs[f]? with
 | some fn => fn.body.isSome && !(fn.name == "runtime.NumGoroutine")
 | none=>false
theorem cx6 {P : Program} {f : FuncId} (h : entered P f = true) (args : List Value) (w : World) : (callFunc f args.toArray).run P w = .ok (.enter f args.toArray) w:=by
 unfold entered at h
 cases hf : P.funcs[f]? with
 | none=>rw [hf] at h; cases h
 | some fn =>
  rw [hf] at h
  simp only [Bool.and_eq_true,Bool.not_eq_true'] at h
  obtain ⟨c,hc⟩:=Option.isSome_iff_exists.1 h.1
  exact run_callFunc_enter hf hc h.2 _ w
theorem cg9 {P : Program} {f : FuncId} (h : entered P f = true) (args : Array Value) (w : World) : (callFunc f args).run P w = .ok (.enter f args) w:=by
 have:=cx6 h args.toList w
 simpa using this
theorem bu5 {f : FuncId} {h : List AV → AS → Option (AE × Upd)} (hf : @Cfg.given cfgA f = some h) : f = 62 ∧ h = aF9 u8T:=by
 by_cases h1 : bF1.contains f = true
 ·have hm : f ∈ bF1:=List.contains_iff_mem.1 h1
  simp only [bF1,List.mem_singleton] at hm
  subst hm
  cases hf
  exact ⟨rfl,rfl⟩
 ·have : @Cfg.given cfgA f = none:=by
   show (if bF1.contains f then _ else _) = _
   rw [if_neg h1]
  rw [this] at hf
  cases hf
theorem givenOkA : @bl0 cfgA Tryz.prog:=@bl0.mk cfgA _
 (fun f h hf=>by
  obtain ⟨rfl,rfl⟩:=bu5 hf
  exact fun args S x r hx=>⟨fun args' w=>cg9 (by kernel_rfl) args' w,fun G w B args' hW ha=>@bI8 _ _ cfgA Tryz.lays169 Tryz.Builder_Extra_169 _ _ _ _ hx _ _ _ _ hW ha⟩)
 (fun f h hf args S x t l hx p hp=>by
  obtain ⟨rfl,rfl⟩:=bu5 hf
  exfalso
  unfold aF9 at hx
  split at hx
  ·split at hx
   ·split at hx
    ·split at hx
     ·obtain ⟨_,_,h3⟩:=Option.map_eq_some_iff.1 hx
      cases h3
     ·cases hx
    ·cases hx
   ·cases hx
   ·cases hx
  ·cases hx)
theorem bB4 {f : FuncId} {h : List AV → AS → Option (AE × Upd)} (hf : Cfg.given f = some h) : f = F.ai3 ∧ h = ba7:=by
 by_cases h1 : f = F.ai3
 ·subst h1
  cases hf
  exact ⟨rfl,rfl⟩
 ·have : Cfg.given f = none:=by
   show (if f = F.ai3 then _ else _) = _
   rw [if_neg h1]
  rw [this] at hf
  cases hf
theorem bi1 {args : List AV} {S : AS} {y : AE × Upd} (h : ba7 args S = some y) : args = [] ∧ S = AS.bare.wd S.dfr ∧ y = (.ret (.lit (.bool true)),none):=by
 unfold ba7 at h
 split at h
 ·rename_i h1 h2 h3 h4
  cases h
  refine ⟨rfl,?_,rfl⟩
  cases S
  simp only at h1 h2 h3 h4
  subst h1 h2 h3 h4
  rfl
 ·cases h
theorem givenW : bv2:=fun f h hf args S ds=>by
 obtain ⟨_,rfl⟩:=bB4 hf
 rfl
theorem givenWA : @bv2 cfgA:=fun f h hf args S ds=>by
 obtain ⟨_,rfl⟩:=bu5 hf
 match args with
 | []=>rfl
 | [a]=>cases a <;> rfl
 | a :: b :: r=>cases a <;> rfl
theorem relA {G : Gh} {S : AS} {w : World} {B : Nat → Nat} : WRel G S w B ↔ @WRel cfgA G S w B :=
 ⟨fun h=>@WRel.mk cfgA _ _ _ _ h.imm h.slot h.lvs h.apart h.dom h.base h.mono h.fits h.far,fun h=>⟨@WRel.imm cfgA _ _ _ _ h,@WRel.slot cfgA _ _ _ _ h,@WRel.lvs cfgA _ _ _ _ h,@WRel.apart cfgA _ _ _ _ h,@WRel.dom cfgA _ _ _ _ h,@WRel.base cfgA _ _ _ _ h,@WRel.mono cfgA _ _ _ _ h,@WRel.fits cfgA _ _ _ _ h,@WRel.far cfgA _ _ _ _ h⟩⟩
theorem givenOk : bl0 Tryz.prog where
 sound f h hf:=by
  obtain ⟨rfl,rfl⟩:=bB4 hf
  intro args S x r hx
  obtain ⟨rfl,hS,hy⟩:=bi1 hx
  cases hy
  have hr : @aj2 cfgA Tryz.prog 301 F.ai3 [] S = some (.ret (.lit (.bool true)),none):=by
   rw [hS,@cl7 cfgA _ givenWA]
   exact cr7
  obtain ⟨k1,k2⟩:=@bj0 _ cfgA cfgOkA givenOkA bn2 301 _ _ S _ none hr
  refine ⟨k1,fun G w B args' hW ha=>(k2 G w B args' (relA.1 hW) ha).mono fun e w' ⟨G',q1,q2,q3⟩=>⟨G',q1,relA.2 q2,q3⟩⟩
 here f h hf args S x t l hx p hp:=by
  obtain ⟨rfl,rfl⟩:=bB4 hf
  obtain ⟨_,_,hy⟩:=bi1 hx
  cases hy
open Go.RowKit
inductive D.aa5 where
 | mk (Kind : Int) (Set : A4) (Parts : (List D.aa5)) (Min : Int) (Max : Int) (Number : Int)
def D.aa5.Kind : D.aa5 → Int
 | .mk x _ _ _ _ _=>x
def D.aa5.Set : D.aa5 → A4
 | .mk _ x _ _ _ _=>x
def D.aa5.Parts : D.aa5 → (List D.aa5)
 | .mk _ _ x _ _ _=>x
def D.aa5.Min : D.aa5 → Int
 | .mk _ _ _ x _ _=>x
def D.aa5.Max : D.aa5 → Int
 | .mk _ _ _ _ x _=>x
def D.aa5.Number : D.aa5 → Int
 | .mk _ _ _ _ _ x=>x
mutual
def ad4 : D.aa5 → List V
 | .mk Kind Set Parts Min Max Number=>[.int .i64 Kind,.int .u64 Set.x0,.int .u64 Set.x1,.int .u64 Set.x2,.int .u64 Set.x3,.sl 9 (a94 Parts),.int .i64 Min,.int .i64 Max,.int .i64 Number]
def a94 : List D.aa5 → List (List V)
 | []=>[]
 | x :: r=>ad4 x :: a94 r
end
theorem bh8 : ∀ l : List D.aa5,a94 l = l.map ad4
 | []=>rfl
 | x :: r=>by rw [a94,bh8 r]; rfl
theorem al1 (x : D.aa5) : ad4 x = [.int .i64 x.Kind,.int .u64 x.Set.x0,.int .u64 x.Set.x1,.int .u64 x.Set.x2,.int .u64 x.Set.x3,.sl 9 (x.Parts.map ad4),.int .i64 x.Min,.int .i64 x.Max,.int .i64 x.Number]:=by
 cases x
 simp only [ad4,bh8,D.aa5.Kind,D.aa5.Set,D.aa5.Parts,D.aa5.Min,D.aa5.Max,D.aa5.Number]
inductive D.l9 where
 | nil
 | Alt (Parts : (List D.l9))
 | Back (Number : Int)
 | Cat (Parts : (List D.l9))
 | Empty
 | End
 | Group (Number : Int) (Of : D.l9)
 | One (Set : A4)
 | Rep (Of : D.l9) (Min : Int) (Max : Int)
 | Start
mutual
def y8 : D.l9 → V
 | .nil=>.nili
 | .Alt Parts=>.ifc 82 true [.sl 1 (aB9 Parts)]
 | .Back Number=>.ifc 88 true [.int .i64 Number]
 | .Cat Parts=>.ifc 81 true [.sl 1 (aB9 Parts)]
 | .Empty=>.ifc 92 true []
 | .End=>.ifc 91 true []
 | .Group Number Of=>.ifc 86 true [.int .i64 Number,y8 Of]
 | .One Set=>.ifc 79 true [.int .u64 Set.x0,.int .u64 Set.x1,.int .u64 Set.x2,.int .u64 Set.x3]
 | .Rep Of Min Max=>.ifc 84 true [y8 Of,.int .i64 Min,.int .i64 Max]
 | .Start=>.ifc 90 true []
def aB9 : List D.l9 → List (List V)
 | []=>[]
 | x :: r=>[y8 x] :: aB9 r
end
def ad8 (x : D.l9) : List V:=[y8 x]
theorem ae4 : ∀ l : List D.l9,aB9 l = l.map ad8
 | []=>rfl
 | x :: r=>by rw [aB9,ae4 r]; rfl
structure D.ao8 where
 Parts : (List D.l9)
def az6 (x : D.ao8) : List V:=[.sl 1 (x.Parts.map ad8)]
theorem cw1 : ab1 (az6 (D.ao8.mk [])) [.lit (.slice none 0 0)]:=(aD1 (RelC.nil _ _) bq2)
def D.l9.ax6 : D.l9 → Option D.ao8
 | .Cat Parts=>some (D.ao8.mk Parts)
 | _=>none
theorem bs3 (x : D.l9) : TaV 81 (az6 (D.ao8.mk [])) (y8 x) (az6 ((D.l9.ax6 x).getD (D.ao8.mk []))) (D.l9.ax6 x).isSome:=by
 cases x <;> first
  | exact .inl ⟨rfl,rfl,rfl⟩
  | exact .inr ⟨_,_,rfl,.inl ⟨rfl,rfl,rfl⟩⟩
  | exact .inr ⟨_,_,rfl,.inl ⟨rfl,(by simp only [D.l9.ax6,Option.getD_some,az6,ae4] <;> rfl),rfl⟩⟩
  | exact .inr ⟨_,_,rfl,.inr ⟨by decide,rfl,rfl⟩⟩
structure D.at6 where
 Parts : (List D.l9)
def az4 (x : D.at6) : List V:=[.sl 1 (x.Parts.map ad8)]
theorem cx4 : ab1 (az4 (D.at6.mk [])) [.lit (.slice none 0 0)]:=(aD1 (RelC.nil _ _) bq2)
def D.l9.aH3 : D.l9 → Option D.at6
 | .Alt Parts=>some (D.at6.mk Parts)
 | _=>none
theorem bt7 (x : D.l9) : TaV 82 (az4 (D.at6.mk [])) (y8 x) (az4 ((D.l9.aH3 x).getD (D.at6.mk []))) (D.l9.aH3 x).isSome:=by
 cases x <;> first
  | exact .inl ⟨rfl,rfl,rfl⟩
  | exact .inr ⟨_,_,rfl,.inl ⟨rfl,rfl,rfl⟩⟩
  | exact .inr ⟨_,_,rfl,.inl ⟨rfl,(by simp only [D.l9.aH3,Option.getD_some,az4,ae4] <;> rfl),rfl⟩⟩
  | exact .inr ⟨_,_,rfl,.inr ⟨by decide,rfl,rfl⟩⟩
structure D.aB0 where
 Of : D.l9
 Min : Int
 Max : Int
def aA0 (x : D.aB0) : List V:=[y8 x.Of,.int .i64 x.Min,.int .i64 x.Max]
theorem ct2 : ab1 (aA0 (D.aB0.mk D.l9.nil 0 0)) [.lit .nilIface,.lit (.int .i64 0),.lit (.int .i64 0)]:=(aD1 cB9 (aD1 bw4 (aD1 bw4 bq2)))
def D.l9.bn9 : D.l9 → Option D.aB0
 | .Rep Of Min Max=>some (D.aB0.mk Of Min Max)
 | _=>none
theorem bu4 (x : D.l9) : TaV 84 (aA0 (D.aB0.mk D.l9.nil 0 0)) (y8 x) (aA0 ((D.l9.bn9 x).getD (D.aB0.mk D.l9.nil 0 0))) (D.l9.bn9 x).isSome:=by
 cases x <;> first
  | exact .inl ⟨rfl,rfl,rfl⟩
  | exact .inr ⟨_,_,rfl,.inl ⟨rfl,rfl,rfl⟩⟩
  | exact .inr ⟨_,_,rfl,.inl ⟨rfl,(by simp only [D.l9.bn9,Option.getD_some,aA0,ae4] <;> rfl),rfl⟩⟩
  | exact .inr ⟨_,_,rfl,.inr ⟨by decide,rfl,rfl⟩⟩
structure D.ak6 where
 Number : Int
 Of : D.l9
def as9 (x : D.ak6) : List V:=[.int .i64 x.Number,y8 x.Of]
theorem b49 : ab1 (as9 (D.ak6.mk 0 D.l9.nil)) [.lit (.int .i64 0),.lit .nilIface]:=(aD1 bw4 (aD1 cB9 bq2))
def D.l9.am5 : D.l9 → Option D.ak6
 | .Group Number Of=>some (D.ak6.mk Number Of)
 | _=>none
theorem bm9 (x : D.l9) : TaV 86 (as9 (D.ak6.mk 0 D.l9.nil)) (y8 x) (as9 ((D.l9.am5 x).getD (D.ak6.mk 0 D.l9.nil))) (D.l9.am5 x).isSome:=by
 cases x <;> first
  | exact .inl ⟨rfl,rfl,rfl⟩
  | exact .inr ⟨_,_,rfl,.inl ⟨rfl,rfl,rfl⟩⟩
  | exact .inr ⟨_,_,rfl,.inl ⟨rfl,(by simp only [D.l9.am5,Option.getD_some,as9,ae4] <;> rfl),rfl⟩⟩
  | exact .inr ⟨_,_,rfl,.inr ⟨by decide,rfl,rfl⟩⟩
structure D.aa4 where
 opened : Int
 closed : (List Int)
def ah2 (x : D.aa4) : List OV:=[.c (.int .i64 x.opened),.gs 1 3 (List.map (aD9 .i64) x.closed)]
structure D.au2 where
def as5 (x : D.au2) : List V:=[]
theorem b93 : ab1 (as5 (D.au2.mk )) []:=bq2
def D.l9.a96 : D.l9 → Option D.au2
 | .Empty=>some (D.au2.mk)
 | _=>none
theorem bl6 (x : D.l9) : TaV 92 (as5 (D.au2.mk )) (y8 x) (as5 ((D.l9.a96 x).getD (D.au2.mk ))) (D.l9.a96 x).isSome:=by
 cases x <;> first
  | exact .inl ⟨rfl,rfl,rfl⟩
  | exact .inr ⟨_,_,rfl,.inl ⟨rfl,rfl,rfl⟩⟩
  | exact .inr ⟨_,_,rfl,.inl ⟨rfl,(by simp only [D.l9.a96,Option.getD_some,as5,ae4] <;> rfl),rfl⟩⟩
  | exact .inr ⟨_,_,rfl,.inr ⟨by decide,rfl,rfl⟩⟩
structure D.av9 where
 Number : Int
def aw3 (x : D.av9) : List V:=[.int .i64 x.Number]
theorem cj1 : ab1 (aw3 (D.av9.mk 0)) [.lit (.int .i64 0)]:=(aD1 bw4 bq2)
def D.l9.aL3 : D.l9 → Option D.av9
 | .Back Number=>some (D.av9.mk Number)
 | _=>none
theorem bo7 (x : D.l9) : TaV 88 (aw3 (D.av9.mk 0)) (y8 x) (aw3 ((D.l9.aL3 x).getD (D.av9.mk 0))) (D.l9.aL3 x).isSome:=by
 cases x <;> first
  | exact .inl ⟨rfl,rfl,rfl⟩
  | exact .inr ⟨_,_,rfl,.inl ⟨rfl,rfl,rfl⟩⟩
  | exact .inr ⟨_,_,rfl,.inl ⟨rfl,(by simp only [D.l9.aL3,Option.getD_some,aw3,ae4] <;> rfl),rfl⟩⟩
  | exact .inr ⟨_,_,rfl,.inr ⟨by decide,rfl,rfl⟩⟩
structure D.ac0 where
 Op : Int
 Set : A4
 X : Int
 Y : Int
def ap7 (x : D.ac0) : List V:=[.int .i64 x.Op,.int .u64 x.Set.x0,.int .u64 x.Set.x1,.int .u64 x.Set.x2,.int .u64 x.Set.x3,.int .i64 x.X,.int .i64 x.Y]
structure D.ac3 where
 Insts : (List D.ac0)
 Groups : Int
 Loops : Int
 Backs : Bool
def aA9 (x : D.ac3) : List V:=[.sl 7 (x.Insts.map ap7),.int .i64 x.Groups,.int .i64 x.Loops,.bool x.Backs]
structure D.aa2 where
 Program : D.ac3
 full : Bool
def ag0 (x : D.aa2) : List OV:=[.gs 7 74 (List.map ap7 x.Program.Insts),.c (.int .i64 x.Program.Groups),.c (.int .i64 x.Program.Loops),.c (.bool x.Program.Backs),.c (.bool x.full)]
structure D.ao6 where
 Set : A4
def aA2 (x : D.ao6) : List V:=[.int .u64 x.Set.x0,.int .u64 x.Set.x1,.int .u64 x.Set.x2,.int .u64 x.Set.x3]
theorem cv3 : ab1 (aA2 (D.ao6.mk (A4.mk 0 0 0 0))) [.lit (.int .u64 0),.lit (.int .u64 0),.lit (.int .u64 0),.lit (.int .u64 0)]:=(aD1 bw4 (aD1 bw4 (aD1 bw4 (aD1 bw4 bq2))))
def D.l9.aD7 : D.l9 → Option D.ao6
 | .One Set=>some (D.ao6.mk Set)
 | _=>none
theorem bs2 (x : D.l9) : TaV 79 (aA2 (D.ao6.mk (A4.mk 0 0 0 0))) (y8 x) (aA2 ((D.l9.aD7 x).getD (D.ao6.mk (A4.mk 0 0 0 0)))) (D.l9.aD7 x).isSome:=by
 cases x <;> first
  | exact .inl ⟨rfl,rfl,rfl⟩
  | exact .inr ⟨_,_,rfl,.inl ⟨rfl,rfl,rfl⟩⟩
  | exact .inr ⟨_,_,rfl,.inl ⟨rfl,(by simp only [D.l9.aD7,Option.getD_some,aA2,ae4] <;> rfl),rfl⟩⟩
  | exact .inr ⟨_,_,rfl,.inr ⟨by decide,rfl,rfl⟩⟩
structure D.au4 where
def ar7 (x : D.au4) : List V:=[]
theorem b63 : ab1 (ar7 (D.au4.mk )) []:=bq2
def D.l9.aL5 : D.l9 → Option D.au4
 | .Start=>some (D.au4.mk)
 | _=>none
theorem bl2 (x : D.l9) : TaV 90 (ar7 (D.au4.mk )) (y8 x) (ar7 ((D.l9.aL5 x).getD (D.au4.mk ))) (D.l9.aL5 x).isSome:=by
 cases x <;> first
  | exact .inl ⟨rfl,rfl,rfl⟩
  | exact .inr ⟨_,_,rfl,.inl ⟨rfl,rfl,rfl⟩⟩
  | exact .inr ⟨_,_,rfl,.inl ⟨rfl,(by simp only [D.l9.aL5,Option.getD_some,ar7,ae4] <;> rfl),rfl⟩⟩
  | exact .inr ⟨_,_,rfl,.inr ⟨by decide,rfl,rfl⟩⟩
structure D.aE4 where
def aA4 (x : D.aE4) : List V:=[]
theorem cx8 : ab1 (aA4 (D.aE4.mk )) []:=bq2
def D.l9.bB7 : D.l9 → Option D.aE4
 | .End=>some (D.aE4.mk)
 | _=>none
theorem bu1 (x : D.l9) : TaV 91 (aA4 (D.aE4.mk )) (y8 x) (aA4 ((D.l9.bB7 x).getD (D.aE4.mk ))) (D.l9.bB7 x).isSome:=by
 cases x <;> first
  | exact .inl ⟨rfl,rfl,rfl⟩
  | exact .inr ⟨_,_,rfl,.inl ⟨rfl,rfl,rfl⟩⟩
  | exact .inr ⟨_,_,rfl,.inl ⟨rfl,(by simp only [D.l9.bB7,Option.getD_some,aA4,ae4] <;> rfl),rfl⟩⟩
  | exact .inr ⟨_,_,rfl,.inr ⟨by decide,rfl,rfl⟩⟩
structure D.ah5 where
 p : D.ac3
def aE3 (x : D.ah5) : List V:=[.sl 7 (x.p.Insts.map ap7),.int .i64 x.p.Groups,.int .i64 x.p.Loops,.bool x.p.Backs]
structure D.aN0 where
 pc : Int
 at_ : Int
 rest : List UInt8
structure D.y7 where
 Program : D.ac3
 s : List UInt8
 slots : (List Int)
 entered : (List Int)
 been : List (D.aN0 × Int)
 best : (List Int)
def al3 (x : D.y7) : List OV:=[.c (.sl 7 (x.Program.Insts.map ap7)),.c (.int .i64 x.Program.Groups),.c (.int .i64 x.Program.Loops),.c (.bool x.Program.Backs),.c (.str x.s),.c (.sl 1 (x.slots.map (aD9 .i64))),.c (.sl 1 (x.entered.map (aD9 .i64))),(Mp.o (fun (k : D.aN0)=>Value.agg #[Value.int .i64 k.pc,Value.int .i64 k.at_,Value.string (bs k.rest)]) (fun v=>.int .i64 v) x.been),.c (.sl 1 (x.best.map (aD9 .i64)))]
def ar5 (x : D.y7) : List OV:=[.c (.sl 7 (List.map ap7 x.Program.Insts)),.c (.int .i64 x.Program.Groups),.c (.int .i64 x.Program.Loops),.c (.bool x.Program.Backs),.c (.str x.s),.rw true 1 3 (List.map (aD9 .i64) x.slots),.c (.sl 1 (List.map (aD9 .i64) x.entered)),(Mp.o (fun (k : D.aN0)=>Value.agg #[Value.int .i64 k.pc,Value.int .i64 k.at_,Value.string (bs k.rest)]) (fun v=>.int .i64 v) x.been),.c (.sl 1 (List.map (aD9 .i64) x.best))]
def D.l9.isnil : D.l9 → Bool
 | .nil=>true
 | _=>false
open Go.RowKit
open Go.RowKit
section
variable [Cfg] {P : Program}
variable {L : Nat} {f : Fr} {E : Env} {A : List It} {Φ : ag1}
end
open Go.RowKit
inductive PC where
 | v (x : V)
 | s (n : Nat) (es : List (List V))
 | k (id : Nat)
 | nils
 | self
 | any
inductive PT where
 | c (x : PC)
 | agg (xs : List PC)
 | tup (xs : List PT)
 | loc (id off : Nat)
 | el (id n j o : Nat)
 | ref (M : List V)
 | gd (ts : List Nat) (b : Bool) (x : PT)
 | any
inductive PI where
 | cel (up : Bool) (ks : List Nat) (d : Option Nat) (t : TypeId) (cs : List PC)
 | own (up : Bool) (ks : List Nat) (o : OV)
 | jnk (up : Bool) (ks : List Nat)
 | pin (ms : List Bool) (args : List AV)
abbrev PE:=List (Nat × PT)
abbrev PH:=List (Nat × PI)
abbrev Wit:=Nat → AV
def PC.r (w : Wit) : PC → AV → Prop
 | .v x,a=>RelC x a
 | .s n es,a=>RelA n es a
 | .k id,a=>a = w id
 | .nils,a=>a = .lit (.slice none 0 0)
 | _,_=>True
def PCs (w : Wit) : List PC → List AV → Prop
 | [],l=>l = []
 | x :: r,l=>∃ a t,l = a :: t ∧ x.r w a ∧ PCs w r t
mutual
def PT.r (w : Wit) : PT → AV → Prop
 | .c x,a=>x.r w a
 | .agg xs,a=>∃ ys,a = .agg ys ∧ PCs w xs ys
 | .tup xs,a=>∃ ys,a = .tup ys ∧ PTs w xs ys
 | .loc id off,a=>∃ p g,w id = .ptr p g 0 0 ∧ a = .ptr p g 0 off
 | .el id n j o,a=>∃ q g N M,w id = .row .room q g N 0 M n ∧ a = .ptr q g N (j * n + o)
 | .ref M,a=>∃ zs,a = .cref zs ∧ RelP M zs
 | .gd _ b x,a=>(b = true → x.r w a) ∧ (b = false → a = .lit undef)
 | .any,_=>True
def PTs (w : Wit) : List PT → List AV → Prop
 | [],l=>l = []
 | x :: r,l=>∃ a t,l = a :: t ∧ x.r w a ∧ PTs w r t
end
theorem PT.af8 {w : Wit} {x : PC} {a : AV} : (PT.c x).r w a ↔ x.r w a:=by unfold PT.r; exact Iff.rfl
def CelR (w : Wit) (p : Loc) (g i : Nat) : PC → AV → Prop
 | .self,a=>a = .lit (.pointer none) ∨ a = .ptr p g 0 i
 | x,a=>x.r w a
def Cels (w : Wit) (p : Loc) (g : Nat) : Nat → List PC → List AV → Prop
 | _,[],l=>l = []
 | i,x :: r,l=>∃ a t,l = a :: t ∧ CelR w p g i x a ∧ Cels w p g (i + 1) r t
def pinR (w : Wit) : Nat → List Bool → List AV → Prop
 | _,[],l=>l = []
 | j,b :: r,l=>∃ a t,l = a :: t ∧ (b = true → w j = a) ∧ pinR w (j + 1) r t
def PI.r (w : Wit) (L : Nat) (id : Nat) : PI → It → Prop
 | .cel up ks d t cs,it=>∃ p g ys,it = .cel up ks p g t ys ∧ w id = .ptr p g 0 0 ∧ (∀ k,d = some k → p = ⟨L + 1,k,0⟩) ∧ Cels w p g 0 cs ys
 | .own up ks o,it=>∃ F,it = .own up ks o (w id) F
 | .jnk up ks,it=>∃ J,it = .jnk up ks J
 | .pin ms args,it=>it = .jnk false [] [] ∧ pinR w 0 ms args
def EnvR (w : Wit) : PE → Env → Prop
 | [],l=>l = []
 | (t,x) :: r,l=>∃ a e,l = (t,a) :: e ∧ x.r w a ∧ EnvR w r e
def HR (w : Wit) (L : Nat) : PH → List It → Prop
 | [],l=>l = []
 | (id,x) :: r,l=>∃ it t,l = it :: t ∧ x.r w L id it ∧ HR w L r t
def lk : PE → Nat → Option PT
 | [],_=>none
 | (k,v) :: r,t=>bif Nat.beq k t then some v else lk r t
theorem EnvR.look {w : Wit} : ∀ {E : PE} {E' : Env} {t : Nat} {x : PT},EnvR w E E' → lk E t = some x → ∃ a,look E' t = some a ∧ x.r w a
 | [],_,_,_,_,h=>by cases h
 | (k,v) :: r,_,t,x,⟨a,e,rfl,h1,h2⟩,h=>by
  unfold lk at h
  rw [aR6]
  by_cases hk : k = t
  ·subst hk
   rw [Nat.beq_refl] at h
   cases h
   exact ⟨a,if_pos rfl,h1⟩
  ·rw [show Nat.beq k t = false from (by cases e : Nat.beq k t with | true=>exact absurd (Nat.eq_of_beq_eq_true e) hk | false=>rfl)] at h
   rw [if_neg hk]
   exact EnvR.look h2 h
def pcon : AV → PT
 | .lit v=>match v with
  | .int k n=>.c (.v (.int k n))
  | .bool b=>.c (.v (.bool b))
  | .string s=>.c (.v (.str s.data.toList))
  | .pointer p=>match p with
   | none=>.c (.v .nilp)
   | some _=>.any
  | .nilIface=>.c (.v .nili)
  | .nilFunc=>.c (.v .nilf)
  | .slice p l c=>match p,l,c with
   | none,0,0=>.c .nils
   | _,_,_=>.any
  | .func h x y=>match h with
   | .func f=>match x.toList,y.toList with
    | [],[]=>.c (.v (.fnv f []))
    | _,_=>.any
   | _=>.any
  | _=>.any
 | _=>.any
theorem pcon_r (w : Wit) (a : AV) : (pcon a).r w a:=by
 cases a with
 | lit v =>
  cases v with
  | int k n=>unfold pcon PT.r PC.r RelC; rfl
  | bool b=>unfold pcon PT.r PC.r RelC; rfl
  | string s=>unfold pcon PT.r PC.r RelC; rfl
  | pointer p=>cases p with
   | none=>unfold pcon PT.r PC.r RelC; rfl
   | some _=>exact (by first | trivial | (unfold pcon PT.r; trivial))
  | nilIface=>unfold pcon PT.r PC.r RelC; rfl
  | nilFunc=>unfold pcon PT.r PC.r RelC; rfl
  | slice p l c=>cases p with
   | none=>cases l with
    | zero=>cases c with
     | zero=>unfold pcon PT.r PC.r; rfl
     | succ _=>exact (by first | trivial | (unfold pcon PT.r; trivial))
    | succ _=>cases c <;> (unfold pcon PT.r; trivial)
   | some _=>exact (by first | trivial | (unfold pcon PT.r; trivial))
  | func h x y=>cases h with
   | func f =>
    obtain ⟨x⟩:=x
    obtain ⟨y⟩:=y
    cases x with
    | nil=>cases y with
     | nil=>unfold pcon PT.r PC.r RelC; exact ⟨[],by unfold ab1; rfl,.inr ⟨rfl,rfl⟩⟩
     | cons _ _=>exact (by first | trivial | (unfold pcon PT.r; trivial))
    | cons _ _=>exact (by first | trivial | (unfold pcon PT.r; trivial))
   | _=>exact (by first | trivial | (unfold pcon PT.r; trivial))
  | _=>exact (by first | trivial | (unfold pcon PT.r; trivial))
 | _=>exact (by first | trivial | (unfold pcon PT.r; trivial))
def od (E : PE) : X → Option PT
 | .t n=>lk E n
 | .c a=>some (pcon a)
theorem EnvR.opd {w : Wit} {E : PE} {E' : Env} (h : EnvR w E E') {x : X} {v : PT} (hx : od E x = some v) : ∃ a,opd E' x = some a ∧ v.r w a:=by
 cases x with
 | t n=>exact h.look hx
 | c a =>
  simp only [od,Option.some.injEq] at hx
  subst hx
  exact ⟨a,rfl,pcon_r w a⟩
theorem HR.get {w : Wit} {L : Nat} : ∀ {H : PH} {A : List It} {i : Nat} {id : Nat} {x : PI},HR w L H A → H[i]? = some (id,x) → ∃ it,A[i]? = some it ∧ x.r w L id it
 | [],_,_,_,_,_,h=>by cases h
 | _ :: _,_,0,_,_,⟨it,t,rfl,h1,_⟩,h=>by
  cases h
  exact ⟨it,rfl,h1⟩
 | _ :: _,_,i + 1,_,_,⟨it,t,rfl,_,h2⟩,h=>by
  obtain ⟨jt,k1,k2⟩:=HR.get (i:=i) h2 h
  exact ⟨jt,k1,k2⟩
section
variable [Cfg] {P : Program}
structure VO (P : Program) (m : Option (List (Nat × Nat))) (acc : AAcc) (l : List BI) (L : Nat) (f : Fr) (E : PE) (H : PH) (Φ : ag1) : Prop where
 ok : ∀ w E' A',EnvR w E E' → HR w L H A' → GO1 P m acc l L f E' A' Φ
structure VC (P : Program) (c : BC) (L : Nat) (f : Fr) (E : PE) (H : PH) (Φ : ag1) : Prop where
 ok : ∀ w E' A',EnvR w E E' → HR w L H A' → GC P c L f E' A' Φ
structure VG (x : AX) (L : Nat) (f : Fr) (E : PE) (H : PH) (Φ : ag1) : Prop where
 ok : ∀ w E' A',EnvR w E E' → HR w L H A' → G x L f E' A' Φ
def Inv (L : Nat) (f : Fr) (E : PE) (H : PH) : BT → AS → Prop:=fun T S=>∃ w E' A',EnvR w E E' ∧ HR w L H A' ∧ Ag E' T ∧ StA S L f A'
variable {L : Nat} {f : Fr} {E : PE} {H : PH} {Φ : ag1} {m : Option (List (Nat × Nat))} {acc : AAcc} {r : List BI} {d : Nat}
theorem av1 {a b : BC} (h : VC P a L f E H (Thn P b Φ)) : VC P (.seq a b) L f E H Φ:=.mk fun w E' A' h1 h2=>cx1 (h.ok w E' A' h1 h2)
theorem as8 {id : Nat} {b : BC} (h : VC P b L f E H (Blk id Φ)) : VC P (.block id b) L f E H Φ:=.mk fun w E' A' h1 h2=>g_block (h.ok w E' A' h1 h2)
theorem au5 (h : VG .normal L f E H Φ) : VC P .skip L f E H Φ:=.mk fun w E' A' h1 h2=>g_skip (h.ok w E' A' h1 h2)
theorem aT4 {id : Nat} (h : VG (.exit id) L f E H Φ) : VC P (.exit id) L f E H Φ:=.mk fun w E' A' h1 h2=>g_exit (h.ok w E' A' h1 h2)
theorem av3 (h : VG .ret L f E H Φ) : VC P .ret L f E H Φ:=.mk fun w E' A' h1 h2=>g_ret (h.ok w E' A' h1 h2)
theorem au7 {b : BC} (h : VC P b L f E H Φ) : VG .normal L f E H (Thn P b Φ):=⟨h.ok⟩
theorem ax0 {b : BC} (h : VG .ret L f E H Φ) : VG .ret L f E H (Thn P b Φ):=⟨h.ok⟩
theorem aS2 {b : BC} {j : Nat} (h : VG (.exit j) L f E H Φ) : VG (.exit j) L f E H (Thn P b Φ):=⟨h.ok⟩
omit [Cfg] in
theorem aD4 {id : Nat} (h : VG .normal L f E H Φ) : VG .normal L f E H (Blk id Φ):=⟨h.ok⟩
omit [Cfg] in
theorem aI8 {id : Nat} (h : VG .ret L f E H Φ) : VG .ret L f E H (Blk id Φ):=⟨h.ok⟩
omit [Cfg] in
theorem v_blkH {id : Nat} (h : VG .normal L f E H Φ) : VG (.exit id) L f E H (Blk id Φ):=.mk fun w E' A' h1 h2=>g_blkH (h.ok w E' A' h1 h2)
theorem au8 {l : List BI} (h : VO P none none l L f E H Φ) : VC P (.ops l) L f E H Φ:=.mk fun w E' A' h1 h2=>cD8 (h.ok w E' A' h1 h2)
theorem bu9 {l : List BI} {D : List (Nat × Nat)} (h : VO P (some D) (acc1 D) l L f E H Φ) : VC P (.draw l D) L f E H Φ:=.mk fun w E' A' h1 h2=>g_draw (h.ok w E' A' h1 h2)
theorem au6 {acc : AAcc} (h : VG .normal L f E H Φ) : VO P none acc [] L f E H Φ:=.mk fun w E' A' h1 h2=>cG5 (h.ok w E' A' h1 h2)
theorem bv8 {acc : AAcc} {D : List (Nat × Nat)} (hc : chkL D acc = true) (h : VG .normal L f E H Φ) : VO P (some D) acc [] L f E H Φ:=.mk fun w E' A' h1 h2=>g_endD hc (h.ok w E' A' h1 h2)
omit [Cfg] in
theorem ax1 {b : Bool} {a : AV} (h : RelC (.bool b) a) : a = .lit (.bool b):=by unfold RelC at h; exact h
omit [Cfg] in
theorem cb7 {k : IntKind} {n : Int} {a : AV} (h : RelC (.int k n) a) : a = .lit (.int k n):=by unfold RelC at h; exact h
omit [Cfg] in
theorem b94 {s : List UInt8} {a : AV} (h : RelC (.str s) a) : a = .lit (.string (bs s)):=by unfold RelC at h; exact h
theorem aD5 {α : Type} {c : X} {a b : BC} {p : Prop} [Decidable p] {x y : Option α} {z : α} (h : (if p then x else y) = some z) (hc : od E c = some (.c (.v (.bool (decide p))))) (h1 : p → x = some z → VC P a L f E H Φ) (h2 : ¬ p → y = some z → VC P b L f E H Φ) : VC P (.cond c a b) L f E H Φ:=.mk fun w E' A' k1 k2=>by
 obtain ⟨u,hu,hr⟩:=k1.opd hc
 obtain rfl:=ax1 (PT.af8.1 hr)
 by_cases hp : p
 ·rw [if_pos hp] at h
  exact g_cT hu (decide_eq_true hp) ((h1 hp h).ok w E' A' k1 k2)
 ·rw [if_neg hp] at h
  exact g_cF hu (decide_eq_false hp) ((h2 hp h).ok w E' A' k1 k2)
theorem aw5 {α : Type} {c : X} {a b : BC} {p : Bool} {x y : Option α} {z : α} (h : (if p = true then x else y) = some z) (hc : od E c = some (.c (.v (.bool p)))) (h1 : p = true → x = some z → VC P a L f E H Φ) (h2 : p = false → y = some z → VC P b L f E H Φ) : VC P (.cond c a b) L f E H Φ:=.mk fun w E' A' k1 k2=>by
 obtain ⟨u,hu,hr⟩:=k1.opd hc
 obtain rfl:=ax1 (PT.af8.1 hr)
 cases p with
 | true=>exact g_cT hu rfl ((h1 rfl h).ok w E' A' k1 k2)
 | false=>exact g_cF hu rfl ((h2 rfl h).ok w E' A' k1 k2)
structure VS (P : Program) (L : Nat) (f : Fr) (E : PE) (H : PH) (d : Nat) (bf : BF) (o : BO) (af : AF) (v : PT) : Prop where
 ok : ∀ w E' A',EnvR w E E' → HR w L H A' → Stp P L f E' A' d bf o af (fun u=>v.r w u)
theorem aq7 {o : BO} {bf : BF} {af : AF} {v : PT} (hs : VS P L f E H d bf o af v) (h : VO P m (accP acc af) r L f ((d,v) :: E) H Φ) : VO P m acc (⟨some d,none,bf,o⟩ :: r) L f E H Φ:=.mk fun w E' A' h1 h2 =>
 cG9 (hs.ok w E' A' h1 h2) fun u hu=>h.ok w _ A' ⟨u,E',rfl,hu,h1⟩ h2
end
open Go.RowKit
theorem PCs.len {w : Wit} : ∀ {xs : List PC} {ys : List AV},PCs w xs ys → ys.length = xs.length
 | [],_,h=>by cases h; rfl
 | _ :: _,_,h=>by
  obtain ⟨a,t,rfl,_,h⟩:=h
  simp [h.len]
theorem PCs.get {w : Wit} : ∀ {xs : List PC} {ys : List AV} {i : Nat} {x : PC},PCs w xs ys → xs[i]? = some x → ∃ a,ys[i]? = some a ∧ x.r w a
 | [],_,_,_,_,h=>by cases h
 | _ :: _,_,0,_,h,hi=>by
  obtain ⟨a,t,rfl,h1,_⟩:=h
  cases hi
  exact ⟨a,rfl,h1⟩
 | _ :: _,_,i + 1,_,h,hi=>by
  obtain ⟨a,t,rfl,_,h2⟩:=h
  obtain ⟨b,k1,k2⟩:=PCs.get (i:=i) h2 hi
  exact ⟨b,k1,k2⟩
theorem PTs.get {w : Wit} : ∀ {xs : List PT} {ys : List AV} {i : Nat} {x : PT},PTs w xs ys → xs[i]? = some x → ∃ a,ys[i]? = some a ∧ x.r w a
 | [],_,_,_,_,h=>by cases h
 | _ :: _,_,0,_,h,hi=>by
  unfold PTs at h
  obtain ⟨a,t,rfl,h1,_⟩:=h
  cases hi
  exact ⟨a,rfl,h1⟩
 | _ :: _,_,i + 1,_,h,hi=>by
  unfold PTs at h
  obtain ⟨a,t,rfl,_,h2⟩:=h
  obtain ⟨b,k1,k2⟩:=PTs.get (i:=i) h2 hi
  exact ⟨b,k1,k2⟩
def pv (M : List V) : List PC:=M.map .v
theorem PCs.of {w : Wit} : ∀ {M : List V} {ys : List AV},ab1 M ys → PCs w (pv M) ys
 | [],_,h=>by unfold ab1 at h; subst h; rfl
 | v :: r,_,h=>by
  unfold ab1 at h
  obtain ⟨a,t,rfl,h1,h2⟩:=h
  exact ⟨a,t,rfl,h1,PCs.of h2⟩
theorem PCs.l7 {w : Wit} : ∀ {M : List V} {ys : List AV},PCs w (pv M) ys → ab1 M ys
 | [],_,h=>by cases h; unfold ab1; rfl
 | v :: r,_,h=>by
  obtain ⟨a,t,rfl,h1,h2⟩:=h
  unfold ab1
  exact ⟨a,t,rfl,h1,PCs.l7 h2⟩
section
variable [Cfg] {P : Program} {L : Nat} {f : Fr} {E : PE} {H : PH} {Φ : ag1} {m : Option (List (Nat × Nat))} {acc : AAcc} {r : List BI} {d : Nat} {β : Type}
abbrev VV (P : Program) (L : Nat) (f : Fr) (E : PE) (H : PH) (d : Nat) (bf : BF) (o : BO) (v : V) : Prop:=VS P L f E H d bf o af0 (.c (.v v))
omit [Cfg] in
theorem az3 {w : Wit} {E' : Env} (h : EnvR w E E') {x : X} {k : IntKind} {n : Int} (hx : od E x = some (.c (.v (.int k n)))) : opd E' x = some (.lit (.int k n)):=by
 obtain ⟨a,h1,h2⟩:=h.opd hx
 rw [h1,cb7 (PT.af8.1 h2)]
omit [Cfg] in
theorem aK9 {w : Wit} {E' : Env} (h : EnvR w E E') {x : X} {b : Bool} (hx : od E x = some (.c (.v (.bool b)))) : opd E' x = some (.lit (.bool b)):=by
 obtain ⟨a,h1,h2⟩:=h.opd hx
 rw [h1,ax1 (PT.af8.1 h2)]
omit [Cfg] in
theorem aW2 {w : Wit} {E' : Env} (h : EnvR w E E') {x : X} {s : List UInt8} (hx : od E x = some (.c (.v (.str s)))) : opd E' x = some (.lit (.string (bs s))):=by
 obtain ⟨a,h1,h2⟩:=h.opd hx
 rw [h1,b94 (PT.af8.1 h2)]
omit [Cfg] in
theorem vInt {w : Wit} {k : IntKind} {n : Int} : (PT.c (.v (.int k n))).r w (.lit (.int k n)):=by unfold PT.r PC.r RelC; rfl
omit [Cfg] in
theorem aR0 {w : Wit} {b : Bool} : (PT.c (.v (.bool b))).r w (.lit (.bool b)):=by unfold PT.r PC.r RelC; rfl
omit [Cfg] in
theorem vStr' {w : Wit} {s : List UInt8} : (PT.c (.v (.str s))).r w (.lit (.string (bs s))):=by unfold PT.r PC.r RelC; rfl
theorem Stp.mono {o : BO} {bf : BF} {af : AF} {E' : Env} {A' : List It} {Q R : AV → Prop} (h : Stp P L f E' A' d bf o af Q) (hq : ∀ u,Q u → R u) : Stp P L f E' A' d bf o af R:=fun T S h1 h2=>by
 obtain ⟨v,ft,k1,k2,k3⟩:=h T S h1 h2
 exact ⟨v,ft,hq v k1,k2,k3⟩
theorem s_mv' {x : X} {v : PT} (hx : od E x = some v) : VS P L f E H d .none (.mv x) af0 v:=.mk fun w E' A' h1 _=>by
 obtain ⟨a,k1,k2⟩:=h1.opd hx
 exact (s_mv k1).mono fun u hu=>hu ▸ k2
theorem t_ii {op : BinOp} {x y : X} {k k' k2 : IntKind} {a b c : Int} (hx : od E x = some (.c (.v (.int k a)))) (hy : od E y = some (.c (.v (.int k' b)))) (hv : ibV op (.lit (.int k a)) (.lit (.int k' b)) = some (.lit (.int k2 c))) : VV P L f E H d .none (.ib op x y) (.int k2 c) :=
 .mk fun w E' A' h1 _=>(s_ib (az3 h1 hx) (az3 h1 hy) hv).mono fun u hu=>hu ▸ vInt
theorem t_ib {op : BinOp} {x y : X} {k k' : IntKind} {a b : Int} {c : Bool} (hx : od E x = some (.c (.v (.int k a)))) (hy : od E y = some (.c (.v (.int k' b)))) (hv : ibV op (.lit (.int k a)) (.lit (.int k' b)) = some (.lit (.bool c))) : VV P L f E H d .none (.ib op x y) (.bool c) :=
 .mk fun w E' A' h1 _=>(s_ib (az3 h1 hx) (az3 h1 hy) hv).mono fun u hu=>hu ▸ aR0
theorem t_nt {x : X} {b : Bool} (hx : od E x = some (.c (.v (.bool b)))) : VV P L f E H d .none (.nt x) (.bool !b):=.mk fun w E' A' h1 _=>(s_nt (aK9 h1 hx)).mono fun u hu=>hu ▸ aR0
theorem t_bb {ne : Bool} {x y : X} {a b : Bool} (hx : od E x = some (.c (.v (.bool a)))) (hy : od E y = some (.c (.v (.bool b)))) : VV P L f E H d .none (.bb ne x y) (.bool (decide (a = b) != ne)):=.mk fun w E' A' h1 _=>(s_bb (aK9 h1 hx) (aK9 h1 hy)).mono fun u hu=>hu ▸ aR0
theorem t_cv {k k' : IntKind} {x : X} {n : Int} (hx : od E x = some (.c (.v (.int k' n)))) : VV P L f E H d (.at x) (.cvi k x) (.int k (k.wrap n)):=.mk fun w E' A' h1 _=>(s_cvi (az3 h1 hx)).mono fun u hu=>hu ▸ vInt
theorem t_se {x y : X} {a b : List UInt8} (hx : od E x = some (.c (.v (.str a)))) (hy : od E y = some (.c (.v (.str b)))) : VV P L f E H d .none (.sb .eql x y) (.bool (decide (a = b))):=.mk fun w E' A' h1 _=>(s_seq1 (aW2 h1 hx) (aW2 h1 hy)).mono fun u hu=>hu ▸ aR0
theorem t_sn {x y : X} {a b : List UInt8} (hx : od E x = some (.c (.v (.str a)))) (hy : od E y = some (.c (.v (.str b)))) : VV P L f E H d .none (.sb .neq x y) (.bool (decide (a ≠ b))):=.mk fun w E' A' h1 _=>(s_sne (aW2 h1 hx) (aW2 h1 hy)).mono fun u hu=>hu ▸ aR0
theorem t_sl {x y : X} {a b : List UInt8} (hx : od E x = some (.c (.v (.str a)))) (hy : od E y = some (.c (.v (.str b)))) : VV P L f E H d .none (.sb .lss x y) (.bool (Op.bytesLess a b)):=.mk fun w E' A' h1 _=>(s_slt (aW2 h1 hx) (aW2 h1 hy)).mono fun u hu=>hu ▸ aR0
theorem t_sg {x y : X} {a b : List UInt8} (hx : od E x = some (.c (.v (.str a)))) (hy : od E y = some (.c (.v (.str b)))) : VV P L f E H d .none (.sb .geq x y) (.bool (!(Op.bytesLess a b))):=.mk fun w E' A' h1 _=>(s_sge (aW2 h1 hx) (aW2 h1 hy)).mono fun u hu=>hu ▸ aR0
theorem t_ls {x : X} {a : List UInt8} (hx : od E x = some (.c (.v (.str a)))) : VV P L f E H d (.at x) (.ls x) (.int .i64 a.length):=.mk fun w E' A' h1 _=>(s_ls (aW2 h1 hx)).mono fun u hu=>hu ▸ vInt
theorem t_ll {α : Type} {x : X} {xs : List α} {c : α → List V} {n : Nat} (hx : od E x = some (.c (.v (.sl n (xs.map c))))) : VV P L f E H d (.at x) (.ll x) (.int .i64 xs.length):=.mk fun w E' A' h1 _=>by
 obtain ⟨a,k1,k2⟩:=h1.opd hx
 exact (s_llC (c:=c) k1 (PT.af8.1 k2)).mono fun u hu=>hu ▸ vInt
theorem t_xs {x i : X} {a : List UInt8} {k : IntKind} {j c : Int} (hc : G.idxS a j = some c) (hx : od E x = some (.c (.v (.str a)))) (hi : od E i = some (.c (.v (.int k j)))) : VV P L f E H d .none (.xs x i) (.int .u8 c):=.mk fun w E' A' h1 _=>(s_xs (aW2 h1 hx) (az3 h1 hi) hc).mono fun u hu=>hu ▸ vInt
theorem t_ss {x lo hi : X} {a c : List UInt8} {k k' : IntKind} {i j : Int} (hc : G.subS a i j = some c) (hx : od E x = some (.c (.v (.str a)))) (hl : od E lo = some (.c (.v (.int k i)))) (hh : od E hi = some (.c (.v (.int k' j)))) : VV P L f E H d .none (.sls x (some lo) (some hi)) (.str c):=.mk fun w E' A' h1 _=>(s_sls (aW2 h1 hx) (az3 h1 hl) (az3 h1 hh) hc).mono fun u hu=>hu ▸ vStr'
theorem t_shl {x y : X} {k k' : IntKind} {a b c : Int} (hc : G.shlK k a b = some c) (hx : od E x = some (.c (.v (.int k a)))) (hy : od E y = some (.c (.v (.int k' b)))) : VV P L f E H d .none (.ib .shl x y) (.int k c):=.mk fun w E' A' h1 _=>(s_ib (az3 h1 hx) (az3 h1 hy) (ib_shlK hc)).mono fun u hu=>hu ▸ vInt
theorem t_shr {x y : X} {k k' : IntKind} {a b c : Int} (hc : G.shrK k a b = some c) (hx : od E x = some (.c (.v (.int k a)))) (hy : od E y = some (.c (.v (.int k' b)))) : VV P L f E H d .none (.ib .shr x y) (.int k c):=.mk fun w E' A' h1 _=>(s_ib (az3 h1 hx) (az3 h1 hy) (ib_shrK hc)).mono fun u hu=>hu ▸ vInt
theorem t_ia {α : Type} {x i : X} {xs : List α} {c : α → List V} {n : Nat} {k : IntKind} {j : Int} {e : α} (he : G.idx xs j = some e) (hx : od E x = some (.c (.v (.sl n (xs.map c))))) (hi : od E i = some (.c (.v (.int k j)))) : VS P L f E H d .none (.ia n x i) af0 (.ref (c e)):=.mk fun w E' A' h1 _=>by
 obtain ⟨a,k1,k2⟩:=h1.opd hx
 refine (s_ia (c:=c) k1 (RelC.toS (PT.af8.1 k2)) (az3 h1 hi) he).mono fun u hu=>?_
 unfold PT.r
 exact hu
theorem t_fa {x : X} {off id o : Nat} (hx : od E x = some (.loc id o)) : VS P L f E H d .none (.fa off x) af0 (.loc id (o + off)):=.mk fun w E' A' h1 _=>by
 obtain ⟨a,k1,k2⟩:=h1.opd hx
 unfold PT.r at k2
 obtain ⟨p,g,k3,rfl⟩:=k2
 refine (s_fa k1 rfl).mono fun u hu=>?_
 subst hu
 unfold PT.r
 exact ⟨p,g,k3,rfl⟩
theorem t_far {x : X} {off : Nat} {M : List V} (hx : od E x = some (.ref M)) : VS P L f E H d .none (.fa off x) af0 (.ref (M.drop off)):=.mk fun w E' A' h1 _=>by
 obtain ⟨a,k1,k2⟩:=h1.opd hx
 unfold PT.r at k2
 obtain ⟨zs,rfl,k3⟩:=k2
 refine (s_fac k1 k3).mono fun u hu=>?_
 unfold PT.r
 exact hu
theorem t_ldr {x : X} {M : List V} {v : V} (hx : od E x = some (.ref M)) (hv : M[0]? = some v) : VV P L f E H d (.at x) (.ld1 x) v:=.mk fun w E' A' h1 _=>by
 obtain ⟨a,k1,k2⟩:=h1.opd hx
 unfold PT.r at k2
 obtain ⟨zs,rfl,k3⟩:=k2
 exact (s_ldc k1 k3 hv).mono fun u hu=>PT.af8.2 hu
theorem t_ldnr {x : X} {M N : List V} {n : Nat} (hx : od E x = some (.ref M)) (hn : Nat.ble n M.length = true) (hN : M.take n = N) : VS P L f E H d (.at x) (.ldn n x) af0 (.agg (pv N)):=.mk fun w E' A' h1 _=>by
 obtain ⟨a,k1,k2⟩:=h1.opd hx
 unfold PT.r at k2
 obtain ⟨zs,rfl,k3⟩:=k2
 refine (s_ldnc k1 k3 hn hN).mono fun u hu=>?_
 obtain ⟨ys,rfl,h⟩:=hu
 unfold PT.r
 exact ⟨ys,rfl,PCs.of h⟩
theorem t_ex {x : X} {i : Nat} {l : List PT} {v : PT} (hx : od E x = some (.tup l)) (hi : l[i]? = some v) : VS P L f E H d .none (.ex x i) af0 v:=.mk fun w E' A' h1 _=>by
 obtain ⟨a,k1,k2⟩:=h1.opd hx
 unfold PT.r at k2
 obtain ⟨ys,rfl,k3⟩:=k2
 obtain ⟨b,k4,k5⟩:=k3.get hi
 exact (s_ex k1 k4).mono fun u hu=>hu ▸ k5
theorem t_f1 {x : X} {off : Nat} {xs : List PC} {v : PC} (hx : od E x = some (.agg xs)) (hv : xs[off]? = some v) : VS P L f E H d .none (.fd1 off x) af0 (.c v):=.mk fun w E' A' h1 _=>by
 obtain ⟨a,k1,k2⟩:=h1.opd hx
 unfold PT.r at k2
 obtain ⟨ys,rfl,k3⟩:=k2
 obtain ⟨b,k4,k5⟩:=k3.get hv
 exact (s_fd1c k1 k4).mono fun u hu=>hu ▸ PT.af8.2 k5
theorem t_and {c a : X} {t b : Bool} (hc : od E c = some (.c (.v (.bool t)))) (ha : od E a = some (.c (.v (.bool b)))) : VV P L f E H d .none (.pk c a (.c (.lit (.bool false)))) (.bool (t && b)):=.mk fun w E' A' h1 _=>(s_and (aK9 h1 hc) (aK9 h1 ha) fun _=>rfl).mono fun u hu=>hu ▸ aR0
theorem t_or {c a : X} {t b : Bool} (hc : od E c = some (.c (.v (.bool t)))) (ha : od E a = some (.c (.v (.bool b)))) : VV P L f E H d .none (.pk c (.c (.lit (.bool true))) a) (.bool (t || b)):=.mk fun w E' A' h1 _=>(s_or (aK9 h1 hc) (aK9 h1 ha) fun _=>rfl).mono fun u hu=>hu ▸ aR0
theorem cl5 {c a : X} {ts : List Nat} {t b : Bool} (hc : od E c = some (.c (.v (.bool t)))) (ha : od E a = some (.gd ts t (.c (.v (.bool b))))) : VV P L f E H d .none (.pk c a (.c (.lit (.bool false)))) (.bool (t && b)):=.mk fun w E' A' h1 _=>by
 obtain ⟨u,k1,k2⟩:=h1.opd ha
 unfold PT.r at k2
 exact (s_and (aK9 h1 hc) k1 fun ht=>ax1 (PT.af8.1 (k2.1 ht))).mono fun u hu=>hu ▸ aR0
theorem t_orG {c a : X} {ts : List Nat} {t b : Bool} (hc : od E c = some (.c (.v (.bool t)))) (ha : od E a = some (.gd ts (!t) (.c (.v (.bool b))))) : VV P L f E H d .none (.pk c (.c (.lit (.bool true))) a) (.bool (t || b)):=.mk fun w E' A' h1 _=>by
 obtain ⟨u,k1,k2⟩:=h1.opd ha
 unfold PT.r at k2
 exact (s_or (aK9 h1 hc) k1 fun ht=>ax1 (PT.af8.1 (k2.1 ht))).mono fun u hu=>hu ▸ aR0
def gate (E : PE) (t : Nat) (w : Bool) : Option (List Nat × Bool):=match lk E t with
 | some (.c (.v (.bool q)))=>some ([2 * t + bif w then 1 else 0],bif w then q else !q)
 | some (.gd ts b (.c (.v (.bool q))))=>some ((2 * t + bif w then 1 else 0) :: ts,b && (q == w))
 | _=>none
def sufx (a : List Nat) : List Nat → Bool
 | []=>Nat.beq a.length 0
 | x :: r=>(a == x :: r) || sufx a r
def opn (ts : List Nat) : PE → PE
 | []=>[]
 | (k,x) :: r=>(k,match x with
  | .gd ts' b y=>bif sufx ts' ts then y else .gd ts' b y
  | y=>y) :: opn ts r
def opnB (ts : List Nat) : PE → Prop
 | []=>True
 | (_,x) :: r=>(match x with
  | .gd ts' b _=>bif sufx ts' ts then b = true else True
  | _=>True) ∧ opnB ts r
omit [Cfg] in
theorem EnvR.opn {w : Wit} {ts : List Nat} : ∀ {E : PE} {E' : Env},EnvR w E E' → opnB ts E → EnvR w (opn ts E) E'
 | [],_,h,_=>h
 | (k,x) :: r,_,⟨a,e,rfl,h1,h2⟩,⟨b1,b2⟩=>by
  refine ⟨a,e,rfl,?_,EnvR.opn h2 b2⟩
  cases x with
  | gd ts' b y =>
   simp only at b1 ⊢
   cases hs : sufx ts' ts with
   | true =>
    rw [hs] at b1
    unfold PT.r at h1
    exact h1.1 b1
   | false=>exact h1
  | _=>exact h1
omit [Cfg] in
theorem cj3 {w0 : Wit} {E' : Env} (h : EnvR w0 E E') {t : Nat} {w gb : Bool} {ts : List Nat} (hg : gate E t w = some (ts,gb)) : ∃ u,look E' t = some u ∧ cc9 w u = gb:=by
 unfold gate at hg
 split at hg
 ·rename_i q hq
  cases hg
  obtain ⟨a,k1,k2⟩:=h.look hq
  obtain rfl:=ax1 (PT.af8.1 k2)
  refine ⟨_,k1,?_⟩
  cases w with
  | true=>exact bP8 _
  | false=>exact bE5 _
 ·rename_i ts b q hq
  cases hg
  obtain ⟨a,k1,k2⟩:=h.look hq
  unfold PT.r at k2
  exact ⟨a,k1,wantN (fun hb=>ax1 (PT.af8.1 (k2.1 hb))) k2.2⟩
 ·cases hg
theorem v_gua {o : BO} {bf : BF} {af : AF} {v : PT} {t : Nat} {w gb : Bool} {ts : List Nat} (hg : gate E t w = some (ts,gb)) (hb : gb = true → opnB ts E) (hs : gb = true → VS P L f (opn ts E) H d bf o af v) (h : VO P m (accP acc af) r L f ((d,.gd ts gb v) :: E) H Φ) : VO P m acc (⟨some d,some (t,w),bf,o⟩ :: r) L f E H Φ:=.mk fun w0 E' A' h1 h2=>by
 obtain ⟨u,k1,k2⟩:=cj3 h1 hg
 refine g_gua (Q:=fun u=>v.r w0 u) (af:=af) k1 k2 (fun hgb=>(hs hgb).ok w0 E' A' (h1.opn (hb hgb)) h2) fun a q1 q2=>h.ok w0 _ A' ⟨a,E',rfl,?_,h1⟩ h2
 unfold PT.r
 exact ⟨q1,q2⟩
omit [Cfg] in
theorem b45 {α β : Type} {o : Option α} {k : α → Option β} {z : β} (h : o.bind k = some z) : ∃ x,o = some x ∧ k x = some z:=by
 cases o with
 | none=>cases h
 | some x=>exact ⟨x,rfl,h⟩
theorem aq4 {α : Type} {o : BO} {bf : BF} {af : AF} {e : Option α} {k : α → Option β} {z : β} (g : α → PT) (h : e.bind k = some z) (hs : ∀ x,e = some x → VS P L f E H d bf o af (g x)) (hk : ∀ x,e = some x → k x = some z → VO P m (accP acc af) r L f ((d,g x) :: E) H Φ) : VO P m acc (⟨some d,none,bf,o⟩ :: r) L f E H Φ:=by
 obtain ⟨x,hx,h⟩:=b45 h
 exact aq7 (hs x hx) (hk x hx h)
theorem cr0 {α : Type} {o : BO} {bf : BF} {af : AF} {e : Option α} {k : α → Option β} {z : β} {dv : α} {t : Nat} {w gb : Bool} {ts : List Nat} (g : α → PT) (h : (G.when gb e dv).bind k = some z) (hg : gate E t w = some (ts,gb)) (hb : gb = true → opnB ts E) (hs : ∀ x,e = some x → gb = true → VS P L f (opn ts E) H d bf o af (g x)) (hk : ∀ x,k x = some z → VO P m (accP acc af) r L f ((d,.gd ts gb (g x)) :: E) H Φ) : VO P m acc (⟨some d,some (t,w),bf,o⟩ :: r) L f E H Φ:=by
 obtain ⟨x,hx,h⟩:=b45 h
 exact v_gua hg hb (fun hgb=>hs x (whenT hx hgb) hgb) (hk x h)
end
open Go.RowKit
def rvP : RV → PT
 | .int k n=>.c (.v (.int k n))
 | .bool b=>.c (.v (.bool b))
 | .str s=>.c (.v (.str s))
 | .sl n es=>.c (.v (.sl n es))
 | .agg M=>.agg (pv M)
 | .v x=>.c (.v x)
theorem bO4 {w : Wit} {r : RV} {a : AV} (h : r.C a) : (rvP r).r w a:=by
 cases r with
 | agg M=>obtain ⟨cs,rfl,h⟩:=h; unfold rvP PT.r; exact ⟨cs,rfl,PCs.of h⟩
 | int k n=>cases h; exact vInt
 | bool b=>cases h; exact aR0
 | str s=>cases h; exact vStr'
 | sl n es=>exact PT.af8.2 h
 | v x=>exact PT.af8.2 h
theorem rvP_to {w : Wit} {r : RV} {a : AV} (h : (rvP r).r w a) : r.C a:=by
 cases r with
 | agg M=>unfold rvP PT.r at h; obtain ⟨cs,rfl,h⟩:=h; exact ⟨cs,rfl,PCs.l7 h⟩
 | int k n=>exact cb7 (PT.af8.1 h)
 | bool b=>exact ax1 (PT.af8.1 h)
 | str s=>exact b94 (PT.af8.1 h)
 | sl n es=>exact PT.af8.1 h
 | v x=>exact PT.af8.1 h
def rvE : Nat → List RV → PE
 | _,[]=>[]
 | n,r :: rs=>(n,rvP r) :: rvE (n + 1) rs
theorem cI5 {w : Wit} : ∀ {rs : List RV} {as1 : List AV} (n : Nat),RVLC rs as1 → EnvR w (rvE n rs) (numE n as1)
 | [],_,n,h=>by cases h; rfl
 | r :: rs,_,n,h=>by
  obtain ⟨a,t,rfl,h1,h2⟩:=h
  exact ⟨a,numE (n + 1) t,rfl,bO4 h1,cI5 (n + 1) h2⟩
def resP : List RV → PT
 | [r]=>rvP r
 | rs=>.tup (rs.map rvP)
theorem cJ5 {w : Wit} {rs : List RV} {v : AV} (h : ResC rs v) : (resP rs).r w v:=by
 have tup : ∀ {rs : List RV} {l : List AV},RVLC rs l → PTs w (rs.map rvP) l:=by
  intro rs
  induction rs with
  | nil=>intro l h; cases h; unfold List.map PTs; rfl
  | cons r rs ih =>
   intro l h
   obtain ⟨a,t,rfl,h1,h2⟩:=h
   rw [List.map_cons]
   unfold PTs
   exact ⟨a,t,rfl,bO4 h1,ih h2⟩
 cases rs with
 | nil=>obtain ⟨l,rfl,h⟩:=h; unfold resP PT.r; exact ⟨l,rfl,tup h⟩
 | cons r rs=>cases rs with
  | nil=>exact bO4 h
  | cons q rs=>obtain ⟨l,rfl,h⟩:=h; unfold resP PT.r; exact ⟨l,rfl,tup h⟩
section
variable [Cfg] {P : Program} {L : Nat} {f : Fr} {E : PE} {H : PH} {Φ : ag1} {m : Option (List (Nat × Nat))} {acc : AAcc} {r : List BI} {d : Nat} {γ : Type}
theorem aC6 {f : FuncId} {b : BFn} {args : List AV} {rsA rs : List RV} (hg : Cfg.given f = none) (hf : ak2 P f = some b) (hup : ∀ h,Cfg.up f h = false) (hn : Nat.ble rsA.length b.nt = true) (hsz : Nat.ble (rs.length + (rs.map RV.size).sum + 5) 100000 = true)
  (h : ∀ L,VC P b.code L f (rvE 0 rsA) [] (aQ1 L b.res rs)) (ha : RVN rsA args) : cg5 P f args (ResC rs) :=
 (bC7 hg hf hup hn hsz (fun L as1 has=>(h L).ok (fun _=>.lit undef) _ _ (cI5 0 has) rfl) ha).b
class CallsC (P : Program) (g : FuncId) (rvs : outParam (List RV)) {α : Type} (e : Option α) (rs : outParam (α → List RV)) : Prop where
 ok : ∀ x,e = some x → ∀ args,RVN rvs args → cg5 P g args (ResC (rs x))
 up : ∀ h,Cfg.up g h = false
omit [Cfg] in
theorem RV.C.nN {r : RV} {a : AV} (h : r.C a) : r.C a.ac1:=RV.C.nrmA h
def PI.upb : PI → Bool
 | .cel b _ _ _ _=>b
 | .own b _ _=>b
 | .jnk b _=>b
 | .pin _ _=>false
omit [Cfg] in
theorem PI.r_up {w : Wit} {id : Nat} {x : PI} {it : It} (h : x.r w L id it) : it.up = x.upb:=by
 cases x with
 | cel=>obtain ⟨p,g,ys,rfl,_⟩:=h; rfl
 | own=>obtain ⟨F,rfl⟩:=h; rfl
 | jnk=>obtain ⟨J,rfl⟩:=h; rfl
 | pin=>obtain ⟨rfl,_⟩:=h; rfl
omit [Cfg] in
theorem v_in {σ β ρ : Type} {id : Nat} {IN : σ → BT → AS → Prop} {IB : β → BT → AS → Prop} {IR : ρ → ag1} {r : ρ} (h : VG .ret L f E H (IR r)) : VG .ret L f E H (bb5 id IN IB IR (.ret r)):=.mk fun w E' A' h1 h2=>g_in (h.ok w E' A' h1 h2)
class bf8 {σ β ρ : Type} (body : σ → Option (Ctl σ β ρ)) (I : outParam (σ → PE)) (HI : outParam (σ → PH)) (B : outParam (β → PE)) (HB : outParam (β → PH)) : Prop where
omit [Cfg] in
theorem aD0 {A B : Type} {Q : A × B → Prop} (h : ∀ a b,Q (a,b)) : ∀ s,Q s:=fun s=>h s.1 s.2
end
open Go.RowKit
theorem CelR.r {w : Wit} {p : Loc} {g i : Nat} {x : PC} {a : AV} (h : CelR w p g i x a) : x.r w a:=by
 cases x <;> first | exact h | trivial
def PC.plain : PC → Bool
 | .self=>false
 | _=>true
theorem PC.r_cel {w : Wit} {p : Loc} {g i : Nat} {x : PC} {a : AV} (h : x.r w a) (hp : x.plain = true) : CelR w p g i x a:=by
 cases x <;> first | exact h | cases hp
theorem Cels.len {w : Wit} {p : Loc} {g : Nat} : ∀ {cs : List PC} {ys : List AV} {i : Nat},Cels w p g i cs ys → ys.length = cs.length
 | [],_,_,h=>by cases h; rfl
 | _ :: _,_,_,⟨a,t,e,_,h⟩=>by subst e; simp [h.len]
theorem Cels.get {w : Wit} {p : Loc} {g : Nat} : ∀ {cs : List PC} {ys : List AV} {i k : Nat} {c : PC},Cels w p g i cs ys → cs[k]? = some c → ∃ y,ys[k]? = some y ∧ CelR w p g (i + k) c y
 | [],_,_,_,_,_,h=>by cases h
 | _ :: _,_,i,0,_,⟨a,t,e,h1,_⟩,h=>by
  subst e; cases h
  exact ⟨a,rfl,h1⟩
 | _ :: _,_,i,k + 1,_,⟨a,t,e,_,h2⟩,h=>by
  subst e
  obtain ⟨y,k1,k2⟩:=Cels.get (k:=k) h2 h
  exact ⟨y,k1,by rw [show i + (k + 1) = i + 1 + k by omega]; exact k2⟩
theorem Cels.app {w : Wit} {p : Loc} {g : Nat} : ∀ {a b : List PC} {ys zs : List AV} {i : Nat},Cels w p g i a ys → Cels w p g (i + a.length) b zs → Cels w p g i (a ++ b) (ys ++ zs)
 | [],_,_,_,_,h,h'=>by cases h; exact h'
 | x :: r,_,_,_,i,⟨a,t,e,h1,h2⟩,h'=>by
  subst e
  exact ⟨a,_,rfl,h1,Cels.app h2 (by rw [List.length_cons,show i + (r.length + 1) = i + 1 + r.length by omega] at h'; exact h')⟩
theorem Cels.take {w : Wit} {p : Loc} {g : Nat} : ∀ {cs : List PC} {ys : List AV} {i : Nat} (n : Nat),Cels w p g i cs ys → Cels w p g i (cs.take n) (ys.take n)
 | [],_,_,n,h=>by cases h; simp [Cels]
 | _ :: _,_,_,0,_=>by simp [Cels]
 | _ :: _,_,_,n + 1,⟨a,t,e,h1,h2⟩=>by subst e; exact ⟨a,t.take n,rfl,h1,h2.take n⟩
theorem Cels.drop {w : Wit} {p : Loc} {g : Nat} : ∀ {cs : List PC} {ys : List AV} {i : Nat} (n : Nat),Cels w p g i cs ys → Cels w p g (i + n) (cs.drop n) (ys.drop n)
 | [],_,_,n,h=>by cases h; simp [Cels]
 | _ :: _,_,_,0,h=>h
 | _ :: _,_,i,n + 1,⟨a,t,e,_,h2⟩=>by
  subst e
  have:=h2.drop n
  rw [show i + 1 + n = i + (n + 1) by omega] at this
  exact this
theorem Cels.pcs {w : Wit} {p : Loc} {g : Nat} : ∀ {cs : List PC} {ys : List AV} {i : Nat},Cels w p g i cs ys → PCs w cs ys
 | [],_,_,h=>h
 | _ :: _,_,_,⟨a,t,e,h1,h2⟩=>⟨a,t,e,h1.r,h2.pcs⟩
theorem PCs.cels {w : Wit} {p : Loc} {g : Nat} : ∀ {cs : List PC} {ys : List AV} {i : Nat},PCs w cs ys → cs.all PC.plain = true → Cels w p g i cs ys
 | [],_,_,h,_=>h
 | _ :: _,_,_,⟨a,t,e,h1,h2⟩,hp=>by
  simp only [List.all_cons,Bool.and_eq_true] at hp
  exact ⟨a,t,e,PC.r_cel h1 hp.1,PCs.cels h2 hp.2⟩
def at1 (cs : List PC) (off : Nat) (xs : List PC) : List PC:=cs.take off ++ xs ++ cs.drop (off + xs.length)
theorem Cels.spl {w : Wit} {p : Loc} {g : Nat} {cs xs : List PC} {ys zs : List AV} {off : Nat} (h : Cels w p g 0 cs ys) (hx : PCs w xs zs) (hp : xs.all PC.plain = true) (hle : off + xs.length ≤ cs.length) : Cels w p g 0 (at1 cs off xs) (splice ys off zs):=by
 unfold at1 splice
 have hl:=hx.len
 refine Cels.app (Cels.app (h.take off) (hx.cels hp)) ?_
 have:=h.drop (off + xs.length)
 rw [hl]
 simp only [List.length_append,List.length_take]
 rw [show 0 + (min off cs.length + xs.length) = 0 + (off + xs.length) by omega]
 exact this
def fnd : PH → Nat → Option (Nat × PI)
 | [],_=>none
 | (k,x) :: r,id=>bif Nat.beq k id then some (0,x) else match fnd r id with
  | some (i,y)=>some (i + 1,y)
  | none=>none
theorem ay5 : ∀ {H : PH} {id i : Nat} {x : PI},fnd H id = some (i,x) → H[i]? = some (id,x)
 | [],_,_,_,h=>by cases h
 | (k,y) :: r,id,i,x,h=>by
  unfold fnd at h
  cases e : Nat.beq k id with
  | true =>
   rw [e] at h
   cases h
   rw [Nat.eq_of_beq_eq_true e]; rfl
  | false =>
   rw [e] at h
   simp only [cond_false] at h
   split at h
   ·rename_i j z hz
    cases h
    rw [List.getElem?_cons_succ]
    exact ay5 hz
   ·cases h
def celT : PC → PT
 | .self=>.any
 | x=>.c x
theorem co0 {w : Wit} {x : PC} {a : AV} (h : x.r w a) : (celT x).r w a:=by
 cases x <;> first | exact PT.af8.2 h | (unfold celT PT.r; trivial)
def ldF : Option Nat → List Nat → AF
 | some k,_=>(some [k],some [])
 | none,ks=>(some (0 :: ks),some [])
section
variable [Cfg] {P : Program} {L : Nat} {f : Fr} {E : PE} {H : PH} {Φ : ag1} {m : Option (List (Nat × Nat))} {acc : AAcc} {r : List BI} {d : Nat} {γ : Type}
omit [Cfg] in
theorem bO1 {w : Wit} {E' : Env} (h : EnvR w E E') {x : X} {id o : Nat} (hx : od E x = some (.loc id o)) : ∃ p g,w id = .ptr p g 0 0 ∧ opd E' x = some (.ptr p g 0 o):=by
 obtain ⟨a,h1,h2⟩:=h.opd hx
 unfold PT.r at h2
 obtain ⟨p,g,h3,rfl⟩:=h2
 exact ⟨p,g,h3,h1⟩
omit [Cfg] in
theorem aF6 {w : Wit} {A : List It} (hA : HR w L H A) {id i : Nat} {up : Bool} {ks : List Nat} {dd : Option Nat} {t : TypeId} {cs : List PC} (hH : fnd H id = some (i,.cel up ks dd t cs)) : ∃ p g ys,A[i]? = some (.cel up ks p g t ys) ∧ w id = .ptr p g 0 0 ∧ (∀ k,dd = some k → p = ⟨L + 1,k,0⟩) ∧ Cels w p g 0 cs ys:=by
 obtain ⟨it,h1,p,g,ys,rfl,h2,h3,h4⟩:=hA.get (ay5 hH)
 exact ⟨p,g,ys,h1,h2,h3,h4⟩
theorem t_ld {x : X} {id off i : Nat} {up : Bool} {ks : List Nat} {dd : Option Nat} {t : TypeId} {cs : List PC} {c : PC} (hx : od E x = some (.loc id off)) (hH : fnd H id = some (i,.cel up ks dd t cs)) (hc : cs[off]? = some c) : VS P L f E H d (.at x) (.ld1 x) (ldF dd ks) (celT c):=.mk fun w E' A' h1 h2=>by
 obtain ⟨p,g,k1,k2⟩:=bO1 h1 hx
 obtain ⟨p',g',ys,k3,k4,k5,k6⟩:=aF6 h2 hH
 rw [k1] at k4
 injection k4 with e1 e2
 subst e1 e2
 obtain ⟨y,k7,k8⟩:=k6.get hc
 cases dd with
 | some k =>
  obtain rfl:=k5 k rfl
  exact (s_ldQ k2 k3 k7).mono fun u hu=>hu ▸ co0 k8.r
 | none=>exact (s_ldP k2 k3 k7).mono fun u hu=>hu ▸ co0 k8.r
theorem t_ldn {x : X} {id off i n : Nat} {up : Bool} {ks : List Nat} {dd : Option Nat} {t : TypeId} {cs N : List PC} (hx : od E x = some (.loc id off)) (hH : fnd H id = some (i,.cel up ks dd t cs)) (hn : Nat.ble (off + n) cs.length = true) (hN : (cs.drop off).take n = N) : VS P L f E H d (.at x) (.ldn n x) (ldF dd ks) (.agg N):=.mk fun w E' A' h1 h2=>by
 obtain ⟨p,g,k1,k2⟩:=bO1 h1 hx
 obtain ⟨p',g',ys,k3,k4,k5,k6⟩:=aF6 h2 hH
 rw [k1] at k4
 injection k4 with e1 e2
 subst e1 e2 hN
 have hp:=((k6.drop off).take n).pcs
 have hr : ∀ u,u = AV.agg ((ys.drop off).take n) → (PT.agg ((cs.drop off).take n)).r w u:=fun u hu=>by subst hu; unfold PT.r; exact ⟨_,rfl,hp⟩
 have hn' : Nat.ble (off + n) ys.length = true:=by rw [k6.len]; exact hn
 cases dd with
 | some k =>
  obtain rfl:=k5 k rfl
  exact (s_ldnQ k2 k3 hn' rfl).mono hr
 | none=>exact (s_ldnP k2 k3 hn' rfl).mono hr
theorem t_nc {x : X} {id o : Nat} (hx : od E x = some (.loc id o)) : VS P L f E H d .none (.nc x) af0 (.loc id o):=.mk fun w E' A' h1 _=>by
 obtain ⟨p,g,k1,k2⟩:=bO1 h1 hx
 exact (s_ncP k2).mono fun u hu=>by subst hu; unfold PT.r; exact ⟨p,g,k1,rfl⟩
theorem t_ncr {x : X} {M : List V} (hx : od E x = some (.ref M)) : VS P L f E H d .none (.nc x) af0 (.ref M):=.mk fun w E' A' h1 _=>by
 obtain ⟨a,k1,k2⟩:=h1.opd hx
 unfold PT.r at k2
 obtain ⟨zs,rfl,k3⟩:=k2
 exact (s_ncC k1).mono fun u hu=>by subst hu; unfold PT.r; exact ⟨zs,rfl,k3⟩
def stK (H : PH) (id : Nat) : Bool:=match fnd H id with
 | some (_,x)=>match x with
  | .own _ _ o=>oneO o
  | .cel _ _ _ _ _=>true
  | .jnk _ _=>false
  | .pin _ _=>false
 | none=>false
def stC (H : PH) : PC → Bool
 | .v _=>true
 | .nils=>true
 | .k id=>stK H id
 | _=>false
omit [Cfg] in
theorem own_cell {w : Wit} {A : List It} (hA : HR w L H A) {id : Nat} (h : stK H id = true) {S : AS} (hS : StA S L f A) : (w id).cells = [w id] ∧ (w id).one = true ∧ Co (L + 1) (w id):=by
 unfold stK at h
 cases hf : fnd H id with
 | none=>rw [hf] at h; cases h
 | some q =>
  obtain ⟨i,x⟩:=q
  rw [hf] at h
  cases x with
  | own up ks o =>
   obtain ⟨it,h1,F,rfl⟩:=hA.get (ay5 hf)
   have hi:=hS.its _ (List.mem_of_getElem? h1)
   exact ⟨(cm1 hi.1 h).1,(cm1 hi.1 h).2,own_co hi⟩
  | cel up ks dd t cs =>
   obtain ⟨p,g,ys,h1,h2,_,_⟩:=aF6 hA hf
   have hit:=hS.its _ (List.mem_of_getElem? h1)
   have hlv : p.l ≤ L + 1:=by
    rcases hit.2.1 with q | q | q
    ·omega
    ·omega
    ·omega
   exact ⟨by rw [h2]; rfl,by rw [h2]; rfl,by rw [h2]; exact .p hlv⟩
  | jnk=>cases h
  | pin=>cases h
omit [Cfg] in
theorem bl5 {w : Wit} {A : List It} (hA : HR w L H A) {c : PC} {a : AV} (h : stC H c = true) (hc : c.r w a) {S : AS} (hS : StA S L f A) : a.cells = [a] ∧ a.one = true ∧ Co (L + 1) a:=by
 cases c with
 | v x=>exact ⟨(rc1 hc).1,(rc1 hc).2,.c (RelC.closed hc)⟩
 | nils=>cases hc; exact ⟨rfl,rfl,.c rfl⟩
 | k id=>cases hc; exact own_cell hA h hS
 | _=>cases h
omit [Cfg] in
theorem cells_ok {w : Wit} {A : List It} (hA : HR w L H A) {S : AS} (hS : StA S L f A) : ∀ {cs : List PC} {ys : List AV},cs.all (stC H) = true → PCs w cs ys → ys.all AV.one = true ∧ ∀ a ∈ ys,Co (L + 1) a
 | [],_,_,h=>by cases h; exact ⟨rfl,fun _ h=>(nomatch h)⟩
 | c :: r,_,hc,⟨a,t,e,h1,h2⟩=>by
  subst e
  simp only [List.all_cons,Bool.and_eq_true] at hc
  obtain ⟨k1,k2⟩:=cells_ok hA hS hc.2 h2
  obtain ⟨_,q2,q3⟩:=bl5 hA hc.1 h1 hS
  exact ⟨by rw [List.all_cons,q2,k1]; rfl,fun x hx=>(List.mem_cons.1 hx).elim (fun e=>e ▸ q3) (k2 x)⟩
omit [Cfg] in
theorem bp5 {c : PC} (h : stC H c = true) : c.plain = true:=by cases c <;> first | rfl | cases h
def bv4 : PT → Option (List PC)
 | .c x=>some [x]
 | .agg xs=>some xs
 | .loc id 0=>some [.k id]
 | _=>none
omit [Cfg] in
theorem HR.okO {w : Wit} {ks : List Nat} : ∀ {H : PH} {A : List It},HR w L H A → (A.all fun jt=>okO ks jt) = true
 | [],_,h=>by cases h; rfl
 | (id,x) :: r,_,⟨it,t,e,h1,h2⟩=>by
  subst e
  rw [List.all_cons,HR.okO h2]
  cases x with
  | cel=>obtain ⟨p,g,ys,rfl,_⟩:=h1; rfl
  | own=>obtain ⟨F,rfl⟩:=h1; rfl
  | jnk=>obtain ⟨J,rfl⟩:=h1; rfl
  | pin=>obtain ⟨rfl,_⟩:=h1; rfl
def bp7 (d : Nat) : PH → Bool
 | []=>true
 | (_,x) :: r=>(match x with
  | .cel _ ks _ _ _=>!ks.contains d
  | .own _ ks _=>!ks.contains d
  | .jnk _ ks=>!ks.contains d
  | .pin _ _=>true) && bp7 d r
omit [Cfg] in
theorem HR.free {w : Wit} {d : Nat} : ∀ {H : PH} {A : List It},HR w L H A → bp7 d H = true → (A.all fun jt=>jt.free d) = true
 | [],_,h,_=>by cases h; rfl
 | (id,x) :: r,_,⟨it,t,e,h1,h2⟩,hf=>by
  subst e
  simp only [bp7,Bool.and_eq_true] at hf
  rw [List.all_cons,HR.free h2 hf.2,Bool.and_true]
  cases x with
  | cel=>obtain ⟨p,g,ys,rfl,_⟩:=h1; exact hf.1
  | own=>obtain ⟨F,rfl⟩:=h1; exact hf.1
  | jnk=>obtain ⟨J,rfl⟩:=h1; exact hf.1
  | pin=>obtain ⟨rfl,_⟩:=h1; rfl
omit [Cfg] in
theorem setHR {w : Wit} : ∀ {H : PH} {A : List It} {i id : Nat} {x y : PI} {it : It},HR w L H A → H[i]? = some (id,x) → y.r w L id it → HR w L (H.set i (id,y)) (A.set i it)
 | [],_,_,_,_,_,_,_,h,_=>by cases h
 | _ :: _,_,0,_,_,_,it,⟨jt,t,e,_,h2⟩,h,hy=>by subst e; cases h; exact ⟨it,t,rfl,hy,h2⟩
 | _ :: _,_,i + 1,_,_,_,it,⟨jt,t,e,h1,h2⟩,h,hy=>by subst e; exact ⟨jt,t.set i it,rfl,h1,setHR (i:=i) h2 h hy⟩
omit [Cfg] in
theorem cm8 {w : Wit} {A : List It} (hA : HR w L H A) {x : PT} {xs : List PC} {a : AV} (hx : x.r w a) (hc : bv4 x = some xs) (hs : xs.all (stC H) = true) {S : AS} (hS : StA S L f A) : PCs w xs a.cells:=by
 cases x with
 | c y =>
  cases hc
  simp only [List.all_cons,List.all_nil,Bool.and_true] at hs
  have h:=PT.af8.1 hx
  obtain ⟨k1,_,_⟩:=bl5 hA hs h hS
  rw [k1]
  exact ⟨a,[],rfl,h,rfl⟩
 | agg ys =>
  cases hc
  unfold PT.r at hx
  obtain ⟨zs,rfl,h⟩:=hx
  exact h
 | loc id o =>
  unfold bv4 at hc
  cases o with
  | zero =>
   cases hc
   unfold PT.r at hx
   obtain ⟨p,g,h1,rfl⟩:=hx
   exact ⟨_,[],rfl,h1.symm,rfl⟩
  | succ _=>cases hc
 | _=>cases hc
theorem v_st {x v : X} {id off n i : Nat} {up : Bool} {ks : List Nat} {dd : Option Nat} {t : TypeId} {cs xs : List PC} {b : PT} (hx : od E x = some (.loc id off)) (hv : od E v = some b) (hb : bv4 b = some xs) (hH : fnd H id = some (i,.cel up ks dd t cs)) (hs : xs.all (stC H) = true) (hn : xs.length = n) (hle : Nat.ble (off + n) cs.length = true)
  (h : VO P m (accP acc (match dd with | some k=>(some [k],some [k]) | none=>(some (0 :: ks),some (0 :: ks)))) r L f E (H.set i (id,.cel up ks dd t (at1 cs off xs))) Φ) (hro : f.ro = false ∨ up = false:=by first | exact .inl rfl | exact .inr rfl) : VO P m acc (⟨none,none,.at x,.st n x v⟩ :: r) L f E H Φ:=.mk fun w E' A' h1 h2=>by
 obtain ⟨p,g,k1,k2⟩:=bO1 h1 hx
 obtain ⟨p',g',ys,k3,k4,k5,k6⟩:=aF6 h2 hH
 rw [k1] at k4
 injection k4 with e1 e2
 subst e1 e2
 obtain ⟨a,q1,q2⟩:=h1.opd hv
 intro c T S hc hT hS
 have hp:=cm8 h2 q2 hb hs hS
 obtain ⟨o1,o2⟩:=cells_ok h2 hS hs hp
 have hlen : a.cells.length = n:=by rw [hp.len,hn]
 have hle' : Nat.ble (off + n) ys.length = true:=by rw [k6.len]; exact hle
 have hset : HR w L (H.set i (id,.cel up ks dd t (at1 cs off xs))) (A'.set i (.cel up ks p g t (splice ys off a.cells))) :=
  setHR h2 (ay5 hH) ⟨p,g,_,rfl,k1,k5,k6.spl hp (List.all_eq_true.2 fun x hx=>bp5 (List.all_eq_true.1 hs x hx)) (by rw [hn]; exact ag3 hle)⟩
 cases dd with
 | some k =>
  obtain rfl:=k5 k rfl
  exact g_stQ k2 q1 k3 hlen o1 o2 hle' rfl h2.okO (h.ok w E' _ h1 hset) c T S hc hT hS
 | none=>exact g_stP k2 q1 k3 hlen o1 o2 hle' rfl h2.okO (h.ok w E' _ h1 hset) hro c T S hc hT hS
mutual
def PT.bnd (n : Nat) : PT → Bool
 | .c x=>match x with
  | .k id=>Nat.blt id n
  | _=>true
 | .agg xs=>xs.all fun x=>match x with
  | .k id=>Nat.blt id n
  | _=>true
 | .tup xs=>PTs.bnd n xs
 | .loc id _=>Nat.blt id n
 | .el id _ _ _=>Nat.blt id n
 | .gd _ _ x=>x.bnd n
 | _=>true
def PTs.bnd (n : Nat) : List PT → Bool
 | []=>true
 | x :: r=>x.bnd n && PTs.bnd n r
end
def bndE (n : Nat) : PE → Bool
 | []=>true
 | (_,x) :: r=>x.bnd n && bndE n r
def bndC (n : Nat) (x : PC) : Bool:=match x with
 | .k id=>Nat.blt id n
 | _=>true
def bndH (n : Nat) : PH → Bool
 | []=>true
 | (id,x) :: r=>Nat.blt id n && (match x with
  | .cel _ _ _ _ cs=>cs.all (bndC n)
  | .pin ms _=>Nat.ble ms.length n
  | _=>true) && bndH n r
def Wit.ag (n : Nat) (w w' : Wit) : Prop:=∀ id,id < n → w' id = w id
omit [Cfg] in
theorem PC.r_ag {n : Nat} {w w' : Wit} (h : Wit.ag n w w') {x : PC} {a : AV} (hx : x.r w a) (hb : bndC n x = true) : x.r w' a:=by
 cases x with
 | k id=>show a = w' id; rw [h id (by simpa [bndC] using hb)]; exact hx
 | _=>exact hx
omit [Cfg] in
theorem PCs.ag {n : Nat} {w w' : Wit} (h : Wit.ag n w w') : ∀ {xs : List PC} {ys : List AV},PCs w xs ys → xs.all (bndC n) = true → PCs w' xs ys
 | [],_,hx,_=>hx
 | x :: r,_,⟨a,t,e,h1,h2⟩,hb=>by
  simp only [List.all_cons,Bool.and_eq_true] at hb
  exact ⟨a,t,e,PC.r_ag h h1 hb.1,PCs.ag h h2 hb.2⟩
omit [Cfg] in
mutual
theorem PT.r_ag {n : Nat} {w w' : Wit} (h : Wit.ag n w w') : ∀ {x : PT} {a : AV},x.r w a → x.bnd n = true → x.r w' a
 | .c x,a,hx,hb=>PT.af8.2 (PC.r_ag h (PT.af8.1 hx) (by unfold PT.bnd at hb; exact hb))
 | .agg xs,a,hx,hb=>by
  unfold PT.r at hx ⊢
  unfold PT.bnd at hb
  obtain ⟨ys,e,hx⟩:=hx
  exact ⟨ys,e,hx.ag h hb⟩
 | .tup xs,a,hx,hb=>by
  unfold PT.r at hx ⊢
  unfold PT.bnd at hb
  obtain ⟨ys,e,hx⟩:=hx
  exact ⟨ys,e,PTs.r_ag h hx hb⟩
 | .loc id o,a,hx,hb=>by
  unfold PT.r at hx ⊢
  unfold PT.bnd at hb
  rw [h id (by simpa using hb)]
  exact hx
 | .el id n' j o,a,hx,hb=>by
  unfold PT.r at hx ⊢
  unfold PT.bnd at hb
  rw [h id (by simpa using hb)]
  exact hx
 | .ref M,a,hx,_=>by unfold PT.r at hx ⊢; exact hx
 | .gd _ b x,a,hx,hb=>by
  unfold PT.r at hx ⊢
  unfold PT.bnd at hb
  exact ⟨fun e=>PT.r_ag h (hx.1 e) hb,hx.2⟩
 | .any,_,_,_=>by unfold PT.r; trivial
theorem PTs.r_ag {n : Nat} {w w' : Wit} (h : Wit.ag n w w') : ∀ {xs : List PT} {ys : List AV},PTs w xs ys → PTs.bnd n xs = true → PTs w' xs ys
 | [],_,hx,_=>by unfold PTs at hx ⊢; exact hx
 | x :: r,_,hx,hb=>by
  unfold PTs at hx ⊢
  unfold PTs.bnd at hb
  obtain ⟨a,t,e,h1,h2⟩:=hx
  simp only [Bool.and_eq_true] at hb
  exact ⟨a,t,e,PT.r_ag h h1 hb.1,PTs.r_ag h h2 hb.2⟩
end
omit [Cfg] in
theorem EnvR.ag {n : Nat} {w w' : Wit} (h : Wit.ag n w w') : ∀ {E : PE} {E' : Env},EnvR w E E' → bndE n E = true → EnvR w' E E'
 | [],_,hx,_=>hx
 | (k,x) :: r,_,⟨a,e,q,h1,h2⟩,hb=>by
  simp only [bndE,Bool.and_eq_true] at hb
  exact ⟨a,e,q,PT.r_ag h h1 hb.1,EnvR.ag h h2 hb.2⟩
omit [Cfg] in
theorem Cels.ag {n : Nat} {w w' : Wit} (h : Wit.ag n w w') {p : Loc} {g : Nat} : ∀ {cs : List PC} {ys : List AV} {i : Nat},Cels w p g i cs ys → cs.all (bndC n) = true → Cels w' p g i cs ys
 | [],_,_,hx,_=>hx
 | x :: r,_,i,⟨a,t,e,h1,h2⟩,hb=>by
  simp only [List.all_cons,Bool.and_eq_true] at hb
  refine ⟨a,t,e,?_,Cels.ag h h2 hb.2⟩
  cases x with
  | k id=>exact PC.r_ag (x:=.k id) h h1 hb.1
  | _=>exact h1
omit [Cfg] in
theorem pinR.ag {n : Nat} {w w' : Wit} (h : Wit.ag n w w') : ∀ {ms : List Bool} {args : List AV} {j : Nat},pinR w j ms args → j + ms.length ≤ n → pinR w' j ms args
 | [],_,_,hx,_=>hx
 | b :: r,_,j,⟨a,t,e,h1,h2⟩,hb=>by
  rw [List.length_cons] at hb
  exact ⟨a,t,e,fun e=>by rw [h j (by omega)]; exact h1 e,h2.ag h (by omega)⟩
omit [Cfg] in
theorem HR.ag {n : Nat} {w w' : Wit} (h : Wit.ag n w w') : ∀ {H : PH} {A : List It},HR w L H A → bndH n H = true → HR w' L H A
 | [],_,hx,_=>hx
 | (id,x) :: r,_,⟨it,t,e,h1,h2⟩,hb=>by
  simp only [bndH,Bool.and_eq_true] at hb
  have hid : w' id = w id:=h id (by simpa using hb.1.1)
  refine ⟨it,t,e,?_,HR.ag h h2 hb.2⟩
  cases x with
  | cel=>obtain ⟨p,g,ys,k1,k2,k3,k4⟩:=h1; exact ⟨p,g,ys,k1,by rw [hid]; exact k2,k3,k4.ag h hb.1.2⟩
  | own=>obtain ⟨F,k1⟩:=h1; exact ⟨F,by rw [hid]; exact k1⟩
  | jnk=>exact h1
  | pin=>exact ⟨h1.1,h1.2.ag h (by simpa using ag3 hb.1.2)⟩
def updW (w : Wit) (n : Nat) (a : AV) : Wit:=fun id=>if id = n then a else w id
omit [Cfg] in
theorem ar4 (w : Wit) (n : Nat) (a : AV) : Wit.ag n w (updW w n a):=fun id h=>if_neg (by omega)
omit [Cfg] in
theorem as3 (w : Wit) (n : Nat) (a : AV) : updW w n a n = a:=if_pos rfl
def pc0 (a : AV) : PC:=match pcon a with
 | .c x=>x
 | _=>.any
omit [Cfg] in
theorem pc0_r (w : Wit) (a : AV) : (pc0 a).r w a:=by
 have:=pcon_r w a
 unfold pc0
 split
 ·rename_i x h
  rw [h] at this
  exact PT.af8.1 this
 ·trivial
omit [Cfg] in
theorem cK3 (w : Wit) : ∀ l : List AV,PCs w (l.map pc0) l
 | []=>rfl
 | a :: r=>⟨a,r.map id,by simp,pc0_r w a,by simpa using cK3 w r⟩
theorem v_al {e : TypeId} {cs : List AV} {xs : List PC} (id : Nat) (hcl : AV.ac4 cs = true) (hx : cs.map pc0 = xs) (hp : xs.all PC.plain = true) (hf : bp7 d H = true) (hb : (bndE id E && bndH id H) = true) (h : VO P m (accP acc (some [d],some [d])) r L f ((d,.loc id 0) :: E) ((id,.cel false [d] (some d) e xs) :: H) Φ) : VO P m acc (⟨some d,none,.here,.al e cs⟩ :: r) L f E H Φ:=.mk fun w E' A' h1 h2=>by
 simp only [Bool.and_eq_true] at hb
 refine g_alP hcl (h2.free hf) fun g=>h.ok (updW w id (.ptr ⟨L + 1,d,0⟩ g 0 0)) _ _ ⟨_,E',rfl,?_,h1.ag (ar4 _ _ _) hb.1⟩ ⟨_,A',rfl,⟨⟨L + 1,d,0⟩,g,cs,rfl,as3 ..,fun k e=>by cases e; rfl,?_⟩,h2.ag (ar4 _ _ _) hb.2⟩
 ·unfold PT.r
  exact ⟨_,g,as3 ..,rfl⟩
 ·subst hx
  exact (cK3 _ cs).cels hp
theorem v_bx {e : TypeId} {x : X} {b : PT} {xs : List PC} (id : Nat) (hx : od E x = some b) (hc : bv4 b = some xs) (hs : xs.all (stC H) = true) (hf : bp7 d H = true) (hb : (bndE id E && bndH id H && xs.all (bndC id)) = true) (h : VO P m (accP acc (some [d],some [d])) r L f ((d,.loc id 0) :: E) ((id,.cel false [d] (some d) e xs) :: H) Φ) : VO P m acc (⟨some d,none,.here,.bx e x⟩ :: r) L f E H Φ:=.mk fun w E' A' h1 h2=>by
 simp only [Bool.and_eq_true] at hb
 obtain ⟨a,q1,q2⟩:=h1.opd hx
 intro c T S hcc hT hS
 have hp:=cm8 h2 q2 hc hs hS
 obtain ⟨o1,o2⟩:=cells_ok h2 hS hs hp
 have hco : CoL (L + 1) a.cells:=by
  have : ∀ l : List AV,(∀ a ∈ l,Co (L + 1) a) → CoL (L + 1) l:=by
   intro l
   induction l with
   | nil=>intro _; trivial
   | cons y r ih=>intro h; exact ⟨h y (List.mem_cons_self ..),ih fun z hz=>h z (List.mem_cons_of_mem _ hz)⟩
  exact this _ o2
 refine g_bxO q1 rfl hco (h2.free hf) (fun g=>h.ok (updW w id (.ptr ⟨L + 1,d,0⟩ g 0 0)) _ _ ⟨_,E',rfl,?_,h1.ag (ar4 _ _ _) hb.1.1⟩ ⟨_,A',rfl,⟨⟨L + 1,d,0⟩,g,a.cells,rfl,as3 ..,fun k e=>by cases e; rfl,?_⟩,h2.ag (ar4 _ _ _) hb.1.2⟩) c T S hcc hT hS
 ·unfold PT.r
  exact ⟨_,g,as3 ..,rfl⟩
 ·exact (hp.ag (ar4 _ _ _) hb.2).cels (List.all_eq_true.2 fun x hx=>bp5 (List.all_eq_true.1 hs x hx))
end
open Go.RowKit
theorem ax4 {α : Type} {a : α} : ∀ {A : List α} {i : Nat},A[i]? = some a → A.Perm (a :: A.eraseIdx i)
 | [],_,h=>by cases h
 | x :: r,0,h=>by cases h; exact List.Perm.refl _
 | x :: r,i + 1,h=>((ax4 (A:=r) (i:=i) h).cons x).trans (List.Perm.swap a x _)
theorem StA.perm {S : AS} {L : Nat} {f : Fr} {A A' : List It} (h : StA S L f A) (hp : A.Perm A') : StA S L f A' :=
 ⟨h.lvl,h.fn,h.dfr,h.out,fun it hi=>h.its it (hp.mem_iff.2 hi),(hp.flatMap_right It.foot).nodup_iff.1 h.reg.sep,fun it hi=>h.reg.upr it (hp.mem_iff.2 hi),fun q hq=>by
  obtain ⟨it,h1,h2⟩:=h.reg.cov q hq
  exact ⟨it,hp.mem_iff.1 h1,h2⟩,h.reg.upl⟩
theorem HR.erase {w : Wit} {L : Nat} : ∀ {H : PH} {A : List It} (i : Nat),HR w L H A → HR w L (H.eraseIdx i) (A.eraseIdx i)
 | [],_,i,h=>by cases h; exact rfl
 | _ :: _,_,0,⟨_,_,e,_,h⟩=>by subst e; exact h
 | _ :: _,_,i + 1,⟨it,t,e,h1,h2⟩=>by subst e; exact ⟨it,t.eraseIdx i,rfl,h1,h2.erase i⟩
theorem HR.app {w : Wit} {L : Nat} : ∀ {H H' : PH} {A A' : List It},HR w L H A → HR w L H' A' → HR w L (H ++ H') (A ++ A')
 | [],_,_,_,h,h'=>by cases h; exact h'
 | _ :: _,_,_,_,⟨it,t,e,h1,h2⟩,h'=>by subst e; exact ⟨it,_,rfl,h1,h2.app h'⟩
theorem bndH.erase {n : Nat} : ∀ {H : PH} (i : Nat),bndH n H = true → bndH n (H.eraseIdx i) = true
 | [],_,_=>rfl
 | (id,x) :: r,0,h=>by
  unfold bndH at h
  simp only [Bool.and_eq_true] at h
  exact h.2
 | (id,x) :: r,i + 1,h=>by
  rw [List.eraseIdx_cons_succ]
  unfold bndH at h ⊢
  simp only [Bool.and_eq_true] at h ⊢
  exact ⟨h.1,bndH.erase i h.2⟩
theorem bndH.at {n : Nat} : ∀ {H : PH} {i id : Nat} {x : PI},bndH n H = true → H[i]? = some (id,x) → id < n
 | [],_,_,_,_,h=>by cases h
 | (k,y) :: r,0,_,_,hb,h=>by
  cases h
  unfold bndH at hb
  simp only [Bool.and_eq_true] at hb
  simpa using hb.1.1
 | (k,y) :: r,i + 1,_,_,hb,h=>by
  unfold bndH at hb
  simp only [Bool.and_eq_true] at hb
  exact bndH.at (i:=i) hb.2 h
def opP (up : Bool) (ks : List Nat) : Nat → List OV → List PC × PH
 | _,[]=>([],[])
 | n,.c v :: r=>(.v v :: (opP up ks n r).1,(opP up ks n r).2)
 | n,.self :: r=>(.self :: (opP up ks n r).1,(opP up ks n r).2)
 | n,o :: r=>(.k n :: (opP up ks (n + 1) r).1,(n,.own up ks o) :: (opP up ks (n + 1) r).2)
theorem Wit.ag.rfl {n : Nat} {w : Wit} : Wit.ag n w w:=fun _ _=>Eq.refl _
theorem cl9 [Cfg] {up : Bool} {ks : List Nat} {L : Nat} {q : Loc} {g : Nat} : ∀ {os : List OV} {i : Nat} {cs : List AV} {N : List It} (n : Nat) (w : Wit),OpnC up ks q g i os cs N → ∃ w',Wit.ag n w w' ∧ Cels w' q g i (opP up ks n os).1 cs ∧ HR w' L (opP up ks n os).2 N
 | [],i,cs,N,n,w,h=>by
  unfold OpnC at h
  obtain ⟨rfl,rfl⟩:=h
  exact ⟨w,.rfl,rfl,rfl⟩
 | o :: r,i,cs,N,n,w,h=>by
  have own : ∀ {a t F N'},cs = a :: t → N = .own up ks o a F :: N' → OpnC up ks q g (i + 1) r t N' → ∃ w',Wit.ag n w w' ∧ Cels w' q g i (.k n :: (opP up ks (n + 1) r).1) cs ∧ HR w' L ((n,.own up ks o) :: (opP up ks (n + 1) r).2) N:=by
   rintro a t F N' rfl rfl h
   obtain ⟨w',k1,k2,k3⟩:=cl9 (n + 1) (updW w n a) h
   have hn : w' n = a:=(k1 n (Nat.lt_succ_self n)).trans (as3 w n a)
   exact ⟨w',fun id hid=>(k1 id (Nat.lt_succ_of_lt hid)).trans (ar4 w n a id hid),⟨a,t,rfl,hn.symm,k2⟩,_,N',rfl,⟨F,by rw [hn]⟩,k3⟩
  cases o with
  | c v =>
   unfold OpnC at h
   obtain ⟨a,t,rfl,h1,h2⟩:=h
   obtain ⟨w',k1,k2,k3⟩:=cl9 n w h2
   exact ⟨w',k1,⟨a,t,rfl,CV.rel.1 h1,k2⟩,k3⟩
  | self =>
   unfold OpnC at h
   obtain ⟨a,t,rfl,h1,h2⟩:=h
   obtain ⟨w',k1,k2,k3⟩:=cl9 n w h2
   exact ⟨w',k1,⟨a,t,rfl,h1,k2⟩,k3⟩
  | _ =>
   unfold OpnC at h
   obtain ⟨a,t,F,N',e1,e2,h⟩:=h
   exact own e1 e2 h
section
variable [Cfg] {P : Program} {L : Nat} {f : Fr} {E : PE} {H : PH} {Φ : ag1} {m : Option (List (Nat × Nat))} {acc : AAcc} {r : List BI} {d : Nat} {γ : Type}
def MvV (f : Fr) (L : Nat) (E : PE) (H H' : PH) : Prop:=∀ w E' A S,EnvR w E E' → HR w L H A → StA S L f A → ∃ w' A',EnvR w' E E' ∧ HR w' L H' A' ∧ StA S L f A'
theorem vo_mv {H' : PH} (h : MvV f L E H H') (k : VO P m acc r L f E H' Φ) : VO P m acc r L f E H Φ:=.mk fun w E' A' h1 h2 c T S hc hT hS=>by
 obtain ⟨w',A2,k1,k2,k3⟩:=h w E' A' S h1 h2 hS
 exact k.ok w' E' A2 k1 k2 c T S hc hT k3
theorem mv_opn {id i : Nat} {up : Bool} {ks : List Nat} {t : TypeId} {os : List OV} (n : Nat) (h : fnd H id = some (i,.own up ks (.ptr t os))) (hb : (bndE n E && bndH n H) = true) : MvV f L E H ((id,.cel up ks none t (opP up ks n os).1) :: ((opP up ks n os).2 ++ H.eraseIdx i)):=fun w E' A S h1 h2 hS=>by
 simp only [Bool.and_eq_true] at hb
 have hi:=ay5 h
 obtain ⟨it,k1,F,rfl⟩:=h2.get hi
 have hS2:=hS.perm (ax4 k1)
 obtain ⟨A2,⟨q,g,cs,N,e1,e2,rfl⟩,k3⟩:=Mv.opn rfl S hS2
 obtain ⟨w',q1,q2,q3⟩:=cl9 (L:=L) n w e2
 have hid : w' id = w id:=q1 id (bndH.at hb.2 hi)
 exact ⟨w',_,h1.ag q1 hb.1,⟨_,_,rfl,⟨q,g,cs,rfl,hid.trans e1,fun k e=>(by cases e),q2⟩,q3.app ((h2.erase i).ag q1 (bndH.erase i hb.2))⟩,k3⟩
def ownO : OV → Bool
 | .c _=>false
 | .self=>false
 | _=>true
mutual
inductive Take : PH → Nat → OV → PH → Bool → List Nat → Prop where
 | own {H : PH} {i id : Nat} {up : Bool} {ks : List Nat} {o : OV} (h : fnd H id = some (i,.own up ks o)) : Take H id o (H.eraseIdx i) up ks
 | ptr {H H' : PH} {i id : Nat} {up u : Bool} {ks K : List Nat} {dd : Option Nat} {t : TypeId} {cs : List PC} {os : List OV} (h : fnd H id = some (i,.cel up ks dd t cs)) (hc : aB6 (H.eraseIdx i) cs os H' u K) : Take H id (.ptr t os) H' (up || u) (ks ++ K)
inductive aB6 : PH → List PC → List OV → PH → Bool → List Nat → Prop where
 | nil {H : PH} : aB6 H [] [] H false []
 | v {H H' : PH} {u : Bool} {K : List Nat} {x : V} {cs : List PC} {os : List OV} (h : aB6 H cs os H' u K) : aB6 H (.v x :: cs) (.c x :: os) H' u K
 | self {H H' : PH} {u : Bool} {K : List Nat} {cs : List PC} {os : List OV} (h : aB6 H cs os H' u K) : aB6 H (.self :: cs) (.self :: os) H' u K
 | nilp {H H' : PH} {u : Bool} {K : List Nat} {cs : List PC} {os : List OV} (h : aB6 H cs os H' u K) : aB6 H (.v .nilp :: cs) (.self :: os) H' u K
 | nilc {H H' : PH} {u : Bool} {K : List Nat} {cs : List PC} {os : List OV} {n : Nat} (h : aB6 H cs os H' u K) : aB6 H (.nils :: cs) (.c (.sl n []) :: os) H' u K
 | gs {H H' : PH} {u : Bool} {K : List Nat} {cs : List PC} {os : List OV} {n : Nat} {e : TypeId} (h : aB6 H cs os H' u K) : aB6 H (.nils :: cs) (.gs n e [] :: os) H' u K
 | li {H H' : PH} {u : Bool} {K : List Nat} {cs : List PC} {os : List OV} {n : Nat} {e : TypeId} (h : aB6 H cs os H' u K) : aB6 H (.nils :: cs) (.li n e [] :: os) H' u K
 | rw {H H' : PH} {u : Bool} {K : List Nat} {cs : List PC} {os : List OV} {n : Nat} {x : Bool} {e : TypeId} (h : aB6 H cs os H' u K) : aB6 H (.nils :: cs) (.rw x n e [] :: os) H' u K
 | bb {H H' : PH} {u : Bool} {K : List Nat} {cs : List PC} {os : List OV} {e : TypeId} (h : aB6 H cs os H' u K) : aB6 H (.nils :: cs) (.bb e [] :: os) H' u K
 | k {H H1 H2 : PH} {id : Nat} {o : OV} {u u' : Bool} {K K' : List Nat} {cs : List PC} {os : List OV} (ho : ownO o = true) (h1 : Take H id o H1 u K) (h : aB6 H1 cs os H2 u' K') : aB6 H (.k id :: cs) (o :: os) H2 (u || u') (K ++ K')
end
omit [Cfg] in
theorem ShtC.own {q : Loc} {g i : Nat} {o : OV} {os : List OV} {a : AV} {ys : List AV} {up : Bool} {ks : List Nat} {F : List Loc} {N : List It} (ho : ownO o = true) (h : ShtC q g (i + 1) os ys N) : ShtC q g i (o :: os) (a :: ys) (.own up ks o a F :: N):=by
 cases o with
 | c v=>cases ho
 | self=>cases ho
 | _=>exact ⟨rfl,rfl,h⟩
end
section
variable [Cfg] {w : Wit} {L : Nat} {f : Fr} {S : AS}
omit [Cfg] in
theorem Take.ok {H H' : PH} {id : Nat} {o : OV} {u : Bool} {K : List Nat} (h : Take H id o H' u K) : ∀ A X,HR w L H A → StA S L f (X ++ A) → ∃ F A',HR w L H' A' ∧ StA S L f (X ++ (.own u K o (w id) F :: A')):=by
 refine Take.rec (motive_1:=fun H id o H' u K _=>∀ A X,HR w L H A → StA S L f (X ++ A) → ∃ F A',HR w L H' A' ∧ StA S L f (X ++ (.own u K o (w id) F :: A')))
  (motive_2:=fun H cs os H' u K _=>∀ A X p g i ys,HR w L H A → Cels w p g i cs ys → StA S L f (X ++ A) → ∃ N A',HR w L H' A' ∧ ShtC p g i os ys N ∧ N.any It.up = u ∧ N.flatMap It.keys = K ∧ StA S L f (X ++ (N ++ A')))
  ?_ ?_ ?_ ?_ ?_ ?_ ?_ ?_ ?_ ?_ ?_ ?_ h
 ·intro H i id up ks o h A X hA hS
  obtain ⟨it,k1,F,rfl⟩:=hA.get (ay5 h)
  exact ⟨F,A.eraseIdx i,hA.erase i,hS.perm ((ax4 k1).append_left X)⟩
 ·intro H H' i id up u ks K dd t cs os h _ ih A X hA hS
  obtain ⟨p,g,ys,k1,k2,k3,k4⟩:=aF6 hA h
  have hS2:=hS.perm ((ax4 k1).append_left X)
  obtain ⟨N,A',q1,q2,q3,q4,q5⟩:=ih (A.eraseIdx i) (X ++ [.cel up ks p g t ys]) p g 0 ys (hA.erase i) k4 (by rw [List.append_assoc]; exact hS2)
  have hS3:=q5.perm (A':=.cel up ks p g t ys :: (N ++ (X ++ A'))) (by
   rw [List.append_assoc]
   refine (List.perm_append_comm_assoc X _ _).trans ?_
   rw [List.singleton_append]
   exact (List.perm_append_comm_assoc X N A').cons _)
  obtain ⟨A2,⟨F,rfl⟩,hS4⟩:=Mv.sht rfl q2 S hS3
  refine ⟨F,A',q1,?_⟩
  rw [k2]
  rw [q3,q4] at hS4
  exact hS4.perm (List.perm_middle.symm)
 ·intro H A X p g i ys hA hc hS
  cases hc
  exact ⟨[],A,hA,by unfold ShtC; exact ⟨rfl,rfl⟩,rfl,rfl,hS⟩
 ·rintro H H' u K x cs os _ ih A X p g i _ hA ⟨a,t,rfl,h1,h2⟩ hS
  obtain ⟨N,A',q1,q2,q3,q4,q5⟩:=ih A X p g (i + 1) t hA h2 hS
  exact ⟨N,A',q1,⟨CV.rel.2 h1,q2⟩,q3,q4,q5⟩
 ·rintro H H' u K cs os _ ih A X p g i _ hA ⟨a,t,rfl,h1,h2⟩ hS
  obtain ⟨N,A',q1,q2,q3,q4,q5⟩:=ih A X p g (i + 1) t hA h2 hS
  exact ⟨N,A',q1,⟨h1,q2⟩,q3,q4,q5⟩
 ·rintro H H' u K cs os _ ih A X p g i _ hA ⟨a,t,rfl,h1,h2⟩ hS
  obtain ⟨N,A',q1,q2,q3,q4,q5⟩:=ih A X p g (i + 1) t hA h2 hS
  have h1 : RelC .nilp a:=h1
  unfold RelC at h1
  exact ⟨N,A',q1,⟨.inl h1,q2⟩,q3,q4,q5⟩
 ·rintro H H' u K cs os n _ ih A X p g i _ hA ⟨a,t,rfl,h1,h2⟩ hS
  obtain ⟨N,A',q1,q2,q3,q4,q5⟩:=ih A X p g (i + 1) t hA h2 hS
  have h1 : a = .lit (.slice none 0 0):=h1
  exact ⟨N,A',q1,⟨CV.rel.2 (by subst h1; unfold RelC; exact .inl ⟨rfl,none,rfl⟩),q2⟩,q3,q4,q5⟩
 ·rintro H H' u K cs os n e _ ih A X p g i _ hA ⟨a,t,rfl,h1,h2⟩ hS
  obtain ⟨N,A',q1,q2,q3,q4,q5⟩:=ih A X p g (i + 1) t hA h2 hS
  have h1 : a = .lit (.slice none 0 0):=h1
  refine ⟨.own false [] (.gs n e []) a [] :: N,A',q1,⟨rfl,rfl,q2⟩,q3,q4,?_⟩
  exact (StA.addF q5 (it:=.own false [] (.gs n e []) a []) ⟨by unfold AtO; exact .inl ⟨rfl,⟨none,h1⟩,rfl⟩,fun q hq=>(nomatch hq)⟩ rfl).perm List.perm_middle.symm
 ·rintro H H' u K cs os n e _ ih A X p g i _ hA ⟨a,t,rfl,h1,h2⟩ hS
  obtain ⟨N,A',q1,q2,q3,q4,q5⟩:=ih A X p g (i + 1) t hA h2 hS
  have h1 : a = .lit (.slice none 0 0):=h1
  refine ⟨.own false [] (.li n e []) a [] :: N,A',q1,⟨rfl,rfl,q2⟩,q3,q4,?_⟩
  exact (StA.addF q5 (it:=.own false [] (.li n e []) a []) ⟨by unfold AtO; exact .inl (.inl ⟨rfl,⟨none,h1⟩,rfl⟩),fun q hq=>(nomatch hq)⟩ rfl).perm List.perm_middle.symm
 ·rintro H H' u K cs os n x e _ ih A X p g i _ hA ⟨a,t,rfl,h1,h2⟩ hS
  obtain ⟨N,A',q1,q2,q3,q4,q5⟩:=ih A X p g (i + 1) t hA h2 hS
  have h1 : a = .lit (.slice none 0 0):=h1
  refine ⟨.own false [] (.rw x n e []) a [] :: N,A',q1,⟨rfl,rfl,q2⟩,q3,q4,?_⟩
  exact (StA.addF q5 (it:=.own false [] (.rw x n e []) a []) ⟨by unfold AtO; exact .inl ⟨rfl,.inl ⟨rfl,⟨none,h1⟩,rfl⟩⟩,fun q hq=>(nomatch hq)⟩ rfl).perm List.perm_middle.symm
 ·rintro H H' u K cs os e _ ih A X p g i _ hA ⟨a,t,rfl,h1,h2⟩ hS
  obtain ⟨N,A',q1,q2,q3,q4,q5⟩:=ih A X p g (i + 1) t hA h2 hS
  have h1 : a = .lit (.slice none 0 0):=h1
  refine ⟨.own false [] (.bb e []) a [] :: N,A',q1,⟨rfl,rfl,q2⟩,q3,q4,?_⟩
  exact (StA.addF q5 (it:=.own false [] (.bb e []) a []) ⟨by unfold AtO; exact .inl ⟨rfl,h1,rfl⟩,fun q hq=>(nomatch hq)⟩ rfl).perm List.perm_middle.symm
 ·rintro H H1 H2 id o u u' K K' cs os ho _ _ ih1 ih2 A X p g i _ hA ⟨a,t,rfl,h1,h2⟩ hS
  have h1 : a = w id:=h1
  subst h1
  obtain ⟨F,A1,q1,q2⟩:=ih1 A X hA hS
  obtain ⟨N,A',r1,r2,r3,r4,r5⟩:=ih2 A1 (X ++ [.own u K o (w id) F]) p g (i + 1) t q1 h2 (by rw [List.append_assoc]; exact q2)
  exact ⟨.own u K o (w id) F :: N,A',r1,r2.own ho,by rw [List.any_cons,r3]; rfl,by rw [List.flatMap_cons,r4]; rfl,by rw [List.append_assoc] at r5; exact r5⟩
omit [Cfg] in
theorem TakeL_ok {H H' : PH} {cs : List PC} {os : List OV} {u : Bool} {K : List Nat} (h : aB6 H cs os H' u K) : ∀ A X p g i ys,HR w L H A → Cels w p g i cs ys → StA S L f (X ++ A) → ∃ N A',HR w L H' A' ∧ ShtC p g i os ys N ∧ N.any It.up = u ∧ N.flatMap It.keys = K ∧ StA S L f (X ++ (N ++ A')):=by
 refine aB6.rec (motive_1:=fun H id o H' u K _=>∀ A X,HR w L H A → StA S L f (X ++ A) → ∃ F A',HR w L H' A' ∧ StA S L f (X ++ (.own u K o (w id) F :: A')))
  (motive_2:=fun H cs os H' u K _=>∀ A X p g i ys,HR w L H A → Cels w p g i cs ys → StA S L f (X ++ A) → ∃ N A',HR w L H' A' ∧ ShtC p g i os ys N ∧ N.any It.up = u ∧ N.flatMap It.keys = K ∧ StA S L f (X ++ (N ++ A')))
  ?_ ?_ ?_ ?_ ?_ ?_ ?_ ?_ ?_ ?_ ?_ ?_ h
 ·intro H i id up ks o h A X hA hS
  obtain ⟨it,k1,F,rfl⟩:=hA.get (ay5 h)
  exact ⟨F,A.eraseIdx i,hA.erase i,hS.perm ((ax4 k1).append_left X)⟩
 ·intro H H' i id up u ks K dd t cs os h _ ih A X hA hS
  obtain ⟨p,g,ys,k1,k2,k3,k4⟩:=aF6 hA h
  have hS2:=hS.perm ((ax4 k1).append_left X)
  obtain ⟨N,A',q1,q2,q3,q4,q5⟩:=ih (A.eraseIdx i) (X ++ [.cel up ks p g t ys]) p g 0 ys (hA.erase i) k4 (by rw [List.append_assoc]; exact hS2)
  have hS3:=q5.perm (A':=.cel up ks p g t ys :: (N ++ (X ++ A'))) (by
   rw [List.append_assoc]
   refine (List.perm_append_comm_assoc X _ _).trans ?_
   rw [List.singleton_append]
   exact (List.perm_append_comm_assoc X N A').cons _)
  obtain ⟨A2,⟨F,rfl⟩,hS4⟩:=Mv.sht rfl q2 S hS3
  refine ⟨F,A',q1,?_⟩
  rw [k2]
  rw [q3,q4] at hS4
  exact hS4.perm (List.perm_middle.symm)
 ·intro H A X p g i ys hA hc hS
  cases hc
  exact ⟨[],A,hA,by unfold ShtC; exact ⟨rfl,rfl⟩,rfl,rfl,hS⟩
 ·rintro H H' u K x cs os _ ih A X p g i _ hA ⟨a,t,rfl,h1,h2⟩ hS
  obtain ⟨N,A',q1,q2,q3,q4,q5⟩:=ih A X p g (i + 1) t hA h2 hS
  exact ⟨N,A',q1,⟨CV.rel.2 h1,q2⟩,q3,q4,q5⟩
 ·rintro H H' u K cs os _ ih A X p g i _ hA ⟨a,t,rfl,h1,h2⟩ hS
  obtain ⟨N,A',q1,q2,q3,q4,q5⟩:=ih A X p g (i + 1) t hA h2 hS
  exact ⟨N,A',q1,⟨h1,q2⟩,q3,q4,q5⟩
 ·rintro H H' u K cs os _ ih A X p g i _ hA ⟨a,t,rfl,h1,h2⟩ hS
  obtain ⟨N,A',q1,q2,q3,q4,q5⟩:=ih A X p g (i + 1) t hA h2 hS
  have h1 : RelC .nilp a:=h1
  unfold RelC at h1
  exact ⟨N,A',q1,⟨.inl h1,q2⟩,q3,q4,q5⟩
 ·rintro H H' u K cs os n _ ih A X p g i _ hA ⟨a,t,rfl,h1,h2⟩ hS
  obtain ⟨N,A',q1,q2,q3,q4,q5⟩:=ih A X p g (i + 1) t hA h2 hS
  have h1 : a = .lit (.slice none 0 0):=h1
  exact ⟨N,A',q1,⟨CV.rel.2 (by subst h1; unfold RelC; exact .inl ⟨rfl,none,rfl⟩),q2⟩,q3,q4,q5⟩
 ·rintro H H' u K cs os n e _ ih A X p g i _ hA ⟨a,t,rfl,h1,h2⟩ hS
  obtain ⟨N,A',q1,q2,q3,q4,q5⟩:=ih A X p g (i + 1) t hA h2 hS
  have h1 : a = .lit (.slice none 0 0):=h1
  refine ⟨.own false [] (.gs n e []) a [] :: N,A',q1,⟨rfl,rfl,q2⟩,q3,q4,?_⟩
  exact (StA.addF q5 (it:=.own false [] (.gs n e []) a []) ⟨by unfold AtO; exact .inl ⟨rfl,⟨none,h1⟩,rfl⟩,fun q hq=>(nomatch hq)⟩ rfl).perm List.perm_middle.symm
 ·rintro H H' u K cs os n e _ ih A X p g i _ hA ⟨a,t,rfl,h1,h2⟩ hS
  obtain ⟨N,A',q1,q2,q3,q4,q5⟩:=ih A X p g (i + 1) t hA h2 hS
  have h1 : a = .lit (.slice none 0 0):=h1
  refine ⟨.own false [] (.li n e []) a [] :: N,A',q1,⟨rfl,rfl,q2⟩,q3,q4,?_⟩
  exact (StA.addF q5 (it:=.own false [] (.li n e []) a []) ⟨by unfold AtO; exact .inl (.inl ⟨rfl,⟨none,h1⟩,rfl⟩),fun q hq=>(nomatch hq)⟩ rfl).perm List.perm_middle.symm
 ·rintro H H' u K cs os n x e _ ih A X p g i _ hA ⟨a,t,rfl,h1,h2⟩ hS
  obtain ⟨N,A',q1,q2,q3,q4,q5⟩:=ih A X p g (i + 1) t hA h2 hS
  have h1 : a = .lit (.slice none 0 0):=h1
  refine ⟨.own false [] (.rw x n e []) a [] :: N,A',q1,⟨rfl,rfl,q2⟩,q3,q4,?_⟩
  exact (StA.addF q5 (it:=.own false [] (.rw x n e []) a []) ⟨by unfold AtO; exact .inl ⟨rfl,.inl ⟨rfl,⟨none,h1⟩,rfl⟩⟩,fun q hq=>(nomatch hq)⟩ rfl).perm List.perm_middle.symm
 ·rintro H H' u K cs os e _ ih A X p g i _ hA ⟨a,t,rfl,h1,h2⟩ hS
  obtain ⟨N,A',q1,q2,q3,q4,q5⟩:=ih A X p g (i + 1) t hA h2 hS
  have h1 : a = .lit (.slice none 0 0):=h1
  refine ⟨.own false [] (.bb e []) a [] :: N,A',q1,⟨rfl,rfl,q2⟩,q3,q4,?_⟩
  exact (StA.addF q5 (it:=.own false [] (.bb e []) a []) ⟨by unfold AtO; exact .inl ⟨rfl,h1,rfl⟩,fun q hq=>(nomatch hq)⟩ rfl).perm List.perm_middle.symm
 ·rintro H H1 H2 id o u u' K K' cs os ho _ _ ih1 ih2 A X p g i _ hA ⟨a,t,rfl,h1,h2⟩ hS
  have h1 : a = w id:=h1
  subst h1
  obtain ⟨F,A1,q1,q2⟩:=ih1 A X hA hS
  obtain ⟨N,A',r1,r2,r3,r4,r5⟩:=ih2 A1 (X ++ [.own u K o (w id) F]) p g (i + 1) t q1 h2 (by rw [List.append_assoc]; exact q2)
  exact ⟨.own u K o (w id) F :: N,A',r1,r2.own ho,by rw [List.any_cons,r3]; rfl,by rw [List.flatMap_cons,r4]; rfl,by rw [List.append_assoc] at r5; exact r5⟩
end
open Go.RowKit
def PC.ren (ρ : Nat → Nat) : PC → PC
 | .k id=>.k (ρ id)
 | x=>x
mutual
def PT.ren (ρ : Nat → Nat) : PT → PT
 | .c x=>.c (x.ren ρ)
 | .agg xs=>.agg (xs.map (PC.ren ρ))
 | .tup xs=>.tup (PTs.ren ρ xs)
 | .loc id o=>.loc (ρ id) o
 | .el id n j o=>.el (ρ id) n j o
 | .gd ts b x=>.gd ts b (x.ren ρ)
 | x=>x
def PTs.ren (ρ : Nat → Nat) : List PT → List PT
 | []=>[]
 | x :: r=>x.ren ρ :: PTs.ren ρ r
end
def Wit.by (ρ : Nat → Nat) (w : Wit) : Wit:=fun id=>w (ρ id)
theorem PC.by3 {ρ : Nat → Nat} {w : Wit} {x : PC} {a : AV} (h : (x.ren ρ).r w a) : x.r (w.by ρ) a:=by
 cases x <;> exact h
theorem PCs.by3 {ρ : Nat → Nat} {w : Wit} : ∀ {xs : List PC} {ys : List AV},PCs w (xs.map (PC.ren ρ)) ys → PCs (w.by ρ) xs ys
 | [],_,h=>h
 | _ :: _,_,⟨a,t,e,h1,h2⟩=>⟨a,t,e,PC.by3 h1,PCs.by3 h2⟩
mutual
theorem PT.by3 {ρ : Nat → Nat} {w : Wit} : ∀ {x : PT} {a : AV},(x.ren ρ).r w a → x.r (w.by ρ) a
 | .c x,a,h=>by
  unfold PT.ren at h
  exact PT.af8.2 (PC.by3 (PT.af8.1 h))
 | .agg xs,a,h=>by
  unfold PT.ren at h
  unfold PT.r at h ⊢
  obtain ⟨ys,e,h⟩:=h
  exact ⟨ys,e,h.by3⟩
 | .tup xs,a,h=>by
  unfold PT.ren at h
  unfold PT.r at h ⊢
  obtain ⟨ys,e,h⟩:=h
  exact ⟨ys,e,PTs.by3 h⟩
 | .loc id o,a,h=>by
  unfold PT.ren at h
  unfold PT.r at h ⊢
  exact h
 | .el id n j o,a,h=>by
  unfold PT.ren at h
  unfold PT.r at h ⊢
  exact h
 | .ref M,a,h=>by
  unfold PT.ren at h
  unfold PT.r at h ⊢
  exact h
 | .gd ts b x,a,h=>by
  unfold PT.ren at h
  unfold PT.r at h ⊢
  exact ⟨fun e=>PT.by3 (h.1 e),h.2⟩
 | .any,a,_=>by unfold PT.r; trivial
theorem PTs.by3 {ρ : Nat → Nat} {w : Wit} : ∀ {xs : List PT} {ys : List AV},PTs w (PTs.ren ρ xs) ys → PTs (w.by ρ) xs ys
 | [],_,h=>by
  unfold PTs.ren at h
  unfold PTs at h ⊢
  exact h
 | x :: r,_,h=>by
  unfold PTs.ren at h
  unfold PTs at h ⊢
  obtain ⟨a,t,e,h1,h2⟩:=h
  exact ⟨a,t,e,PT.by3 h1,PTs.by3 h2⟩
end
def subR (ρ : Nat → Nat) (E : PE) : PE → Prop
 | []=>True
 | (t,x) :: r=>lk E t = some (x.ren ρ) ∧ subR ρ E r
inductive CW (ρ : Nat → Nat) : List PC → List PC → Prop where
 | nil : CW ρ [] []
 | same {x : PC} {r r' : List PC} (h : CW ρ r r') : CW ρ (x.ren ρ :: r) (x :: r')
 | any {x : PC} {r r' : List PC} (h : CW ρ r r') : CW ρ (x :: r) (.any :: r')
 | nil' {n : Nat} {r r' : List PC} (h : CW ρ r r') : CW ρ (.nils :: r) (.v (.sl n []) :: r')
def ddW : Option Nat → Option Nat → Bool
 | _,none=>true
 | some a,some b=>Nat.beq a b
 | none,some _=>false
def PC.shutC : PC → Bool
 | .v _=>true
 | .nils=>true
 | _=>false
theorem Cels.shut {w : Wit} {p : Loc} {g : Nat} : ∀ {cs : List PC} {ys : List AV} {i : Nat},Cels w p g i cs ys → cs.all PC.shutC = true → ∀ a ∈ ys,a.closed = true
 | [],_,_,h,_=>by cases h; exact fun a ha=>(nomatch ha)
 | c :: r,_,_,⟨a,t,e,h1,h2⟩,hc=>by
  subst e
  simp only [List.all_cons,Bool.and_eq_true] at hc
  intro b hb
  rcases List.mem_cons.1 hb with rfl | hb
  ·cases c with
   | v x=>exact RelC.closed h1
   | nils=>cases h1; rfl
   | _=>exact nomatch hc.1
  ·exact Cels.shut h2 hc.2 b hb
inductive br4 : PH → PH → Bool → List Nat → Prop where
 | nil : br4 [] [] false []
 | j {H H' : PH} {id : Nat} {up u : Bool} {ks K : List Nat} (h : br4 H H' u K) : br4 ((id,.jnk up ks) :: H) H' (up || u) (ks ++ K)
 | o {H H' : PH} {id : Nat} {up u : Bool} {ks K : List Nat} {o : OV} (ho : cw4 o = true) (h : br4 H H' u K) : br4 ((id,.own up ks o) :: H) H' (up || u) (ks ++ K)
 | c {H H' : PH} {id : Nat} {up u : Bool} {ks K : List Nat} {dd : Option Nat} {t : TypeId} {cs : List PC} (hc : cs.all PC.shutC = true) (h : br4 H H' u K) : br4 ((id,.cel up ks dd t cs) :: H) H' (up || u) (ks ++ K)
 | skip {H H' : PH} {q : Nat × PI} {u : Bool} {K : List Nat} (h : br4 H H' u K) : br4 (q :: H) (q :: H') u K
def cI3 (ρ : Nat → Nat) : Nat → List Bool → Bool
 | _,[]=>true
 | j,b :: r=>(!b || Nat.beq (ρ j) j) && cI3 ρ (j + 1) r
inductive Give (ρ : Nat → Nat) : PH → PH → Prop where
 | nil {H : PH} (h : (H.all fun q=>!q.2.upb) = true) : Give ρ H []
 | own {H H1 T : PH} {id : Nat} {up' u : Bool} {ks' K : List Nat} {o : OV} (ht : Take H (ρ id) o H1 u K) (hu : (!u || up') = true) (hk : (K.all fun k=>ks'.contains k) = true) (r : Give ρ H1 T) : Give ρ H ((id,.own up' ks' o) :: T)
 | cel {H T : PH} {i id : Nat} {up up' : Bool} {ks ks' : List Nat} {dd dd' : Option Nat} {t : TypeId} {cs cs' : List PC} (h : fnd H (ρ id) = some (i,.cel up ks dd t cs)) (hc : CW ρ cs cs') (hd : ddW dd dd' = true) (hu : (!up || up') = true) (hk : (ks.all fun k=>ks'.contains k) = true) (r : Give ρ (H.eraseIdx i) T) : Give ρ H ((id,.cel up' ks' dd' t cs') :: T)
 | jnk {H H1 T : PH} {id : Nat} {up' u : Bool} {ks' K : List Nat} (ht : br4 H H1 u K) (hu : (!u || up') = true) (hk : (K.all fun k=>ks'.contains k) = true) (r : Give ρ H1 T) : Give ρ H ((id,.jnk up' ks') :: T)
 | pin {H T : PH} {i id : Nat} {ms : List Bool} {args : List AV} (h : fnd H (ρ id) = some (i,.pin ms args)) (ho : cI3 ρ 0 ms = true) (r : Give ρ (H.eraseIdx i) T) : Give ρ H ((id,.pin ms args) :: T)
theorem pinR.by {ρ : Nat → Nat} {w : Wit} : ∀ {ms : List Bool} {args : List AV} {j : Nat},pinR w j ms args → cI3 ρ j ms = true → pinR (w.by ρ) j ms args
 | [],_,_,h,_=>h
 | b :: r,_,j,⟨a,t,e,h1,h2⟩,hb=>by
  simp only [cI3,Bool.and_eq_true,Bool.or_eq_true,Bool.not_eq_true'] at hb
  refine ⟨a,t,e,fun e=>?_,h2.by hb.2⟩
  rcases hb.1 with hb | hb
  ·rw [e] at hb; cases hb
  ·unfold Wit.by
   rw [Nat.eq_of_beq_eq_true hb]
   exact h1 e
theorem cz1 {ρ : Nat → Nat} {w : Wit} {E : PE} {E' : Env} (hE : EnvR w E E') : ∀ {E1 : PE},subR ρ E E1 → ∃ E2,subE E' E2 ∧ EnvR (w.by ρ) E1 E2
 | [],_=>⟨[],subE.nil _,rfl⟩
 | (t,x) :: r,⟨h1,h2⟩=>by
  obtain ⟨E2,k1,k2⟩:=cz1 hE h2
  obtain ⟨a,k3,k4⟩:=hE.look h1
  exact ⟨(t,a) :: E2,subE.cons k3 k1,a,E2,rfl,PT.by3 k4,k2⟩
section
variable [Cfg] {w : Wit} {L : Nat} {f : Fr} {S : AS}
omit [Cfg] in
theorem StA.weak {a b : It} {A : List It} (h : StA S L f (a :: A)) (hw : ItW a b) : StA S L f (b :: A):=by
 refine ⟨h.lvl,h.fn,h.dfr,h.out,fun it hi=>?_,by rw [List.flatMap_cons,hw.foot.1]; exact h.reg.sep,fun it hi q hq hl=>?_,fun q hq=>?_,h.reg.upl⟩
 ·rcases List.mem_cons.1 hi with rfl | hi
  ·exact hw.ok (h.its _ (List.mem_cons_self ..))
  ·exact h.its it (List.mem_cons_of_mem _ hi)
 ·rcases List.mem_cons.1 hi with rfl | hi
  ·rw [hw.foot.1] at hq
   obtain ⟨k1,k2⟩:=h.reg.upr a (List.mem_cons_self ..) q hq hl
   exact ⟨hw.foot.2 k1,k2⟩
  ·exact h.reg.upr it (List.mem_cons_of_mem _ hi) q hq hl
 ·obtain ⟨it,h1,h2,h3⟩:=h.reg.cov q hq
  rcases List.mem_cons.1 h1 with rfl | h1
  ·exact ⟨b,List.mem_cons_self ..,hw.foot.2 h2,by rw [hw.foot.1]; exact h3⟩
  ·exact ⟨it,List.mem_cons_of_mem _ h1,h2,h3⟩
omit [Cfg] in
theorem StA.drop {A X : List It} (h : StA S L f (X ++ A)) (hu : ∀ it ∈ A,it.up = false) : StA S L f X:=by
 refine ⟨h.lvl,h.fn,h.dfr,h.out,fun it hi=>h.its it (List.mem_append.2 (.inl hi)),?_,fun it hi=>h.reg.upr it (List.mem_append.2 (.inl hi)),fun q hq=>?_,h.reg.upl⟩
 ·have:=h.reg.sep
  rw [List.flatMap_append] at this
  exact (List.nodup_append.1 this).1
 ·obtain ⟨it,h1,h2,h3⟩:=h.reg.cov q hq
  rcases List.mem_append.1 h1 with h1 | h1
  ·exact ⟨it,h1,h2,h3⟩
  ·rw [hu it h1] at h2; cases h2
omit [Cfg] in
theorem HR.ups : ∀ {H : PH} {A : List It},HR w L H A → (H.all fun q=>!q.2.upb) = true → ∀ it ∈ A,it.up = false
 | [],_,h,_=>by cases h; exact fun _ h=>(nomatch h)
 | (id,x) :: r,_,⟨it,t,e,h1,h2⟩,hu=>by
  subst e
  simp only [List.all_cons,Bool.and_eq_true,Bool.not_eq_true'] at hu
  intro jt hj
  rcases List.mem_cons.1 hj with rfl | hj
  ·rw [PI.r_up h1]; exact hu.1
  ·exact HR.ups h2 (by simpa using hu.2) jt hj
omit [Cfg] in
theorem Cels.cw {ρ : Nat → Nat} {p : Loc} {g : Nat} : ∀ {cs cs' : List PC} {ys : List AV} {i : Nat},Cels w p g i cs ys → CW ρ cs cs' → Cels (w.by ρ) p g i cs' ys
 | [],[],_,_,h,.nil=>h
 | _ :: _,x :: _,_,_,h,.same h'=>by
  obtain ⟨a,t,e,h1,h2⟩:=h
  exact ⟨a,t,e,by cases x <;> exact h1,h2.cw h'⟩
 | _ :: _,.any :: _,_,_,h,.any h'=>by
  obtain ⟨a,t,e,_,h2⟩:=h
  exact ⟨a,t,e,trivial,h2.cw h'⟩
 | _ :: _,.v (.sl n []) :: _,_,_,h,.nil' h'=>by
  obtain ⟨a,t,e,h1,h2⟩:=h
  exact ⟨a,t,e,(by rw [show a = .lit (.slice none 0 0) from h1]; exact RelC.nil _ _),h2.cw h'⟩
omit [Cfg] in
theorem br4.ok {H H' : PH} {u : Bool} {K : List Nat} (h : br4 H H' u K) : ∀ {A X : List It},HR w L H A → StA S L f (X ++ A) → ∃ J A',HR w L H' A' ∧ StA S L f (X ++ (.jnk u K J :: A')):=by
 induction h with
 | nil =>
  intro A X hA hS
  cases hA
  obtain ⟨A',rfl,h2⟩:=Mv.newJ (f:=f) (L:=L) _ hS
  exact ⟨[],[],rfl,h2.perm (List.perm_middle (l₁:=X) (l₂:=[])).symm⟩
 | @j H H' id up u ks K h ih =>
  rintro A X ⟨it,t,rfl,⟨J,rfl⟩,h2⟩ hS
  obtain ⟨J',A',k1,k2⟩:=ih (X:=X ++ [.jnk up ks J]) h2 (by rw [List.append_assoc]; exact hS)
  rw [List.append_assoc,List.singleton_append] at k2
  have k3:=k2.perm (List.perm_middle.trans ((List.perm_middle).cons _))
  obtain ⟨_,⟨J2,rfl⟩,k4⟩:=Mv.jj rfl _ k3
  exact ⟨J2,A',k1,k4.perm List.perm_middle.symm⟩
 | @o H H' id up u ks K o ho h ih =>
  rintro A X ⟨it,t,rfl,⟨F,rfl⟩,h2⟩ hS
  obtain ⟨J',A',k1,k2⟩:=ih (X:=X ++ [.own up ks o (w id) F]) h2 (by rw [List.append_assoc]; exact hS)
  rw [List.append_assoc,List.singleton_append] at k2
  have k3:=k2.perm (List.perm_middle.trans ((List.perm_middle).cons _))
  obtain ⟨_,⟨J2,rfl⟩,k4⟩:=Mv.toJ rfl ho _ k3
  exact ⟨J2,A',k1,k4.perm List.perm_middle.symm⟩
 | @c H H' id up u ks K dd t cs hc h ih =>
  rintro A X ⟨it,t',rfl,⟨p,g,ys,rfl,q1,q2,q3⟩,h2⟩ hS
  obtain ⟨J',A',k1,k2⟩:=ih (X:=X ++ [.cel up ks p g t ys]) h2 (by rw [List.append_assoc]; exact hS)
  rw [List.append_assoc,List.singleton_append] at k2
  have k3:=k2.perm (List.perm_middle.trans ((List.perm_middle).cons _))
  obtain ⟨_,⟨J2,rfl⟩,k4⟩:=Mv.celJ rfl (Cels.shut q3 hc) _ k3
  exact ⟨J2,A',k1,k4.perm List.perm_middle.symm⟩
 | @skip H H' q u K h ih =>
  obtain ⟨id,x⟩:=q
  rintro A X ⟨it,t,rfl,h1,h2⟩ hS
  obtain ⟨J',A',k1,k2⟩:=ih (X:=X ++ [it]) h2 (by rw [List.append_assoc]; exact hS)
  rw [List.append_assoc,List.singleton_append] at k2
  exact ⟨J',it :: A',⟨it,A',rfl,h1,k1⟩,k2.perm ((List.Perm.swap _ _ _).append_left X)⟩
omit [Cfg] in
theorem Give.ok {ρ : Nat → Nat} {H T : PH} (h : Give ρ H T) : ∀ {A X : List It},HR w L H A → StA S L f (X ++ A) → ∃ A',HR (w.by ρ) L T A' ∧ StA S L f (X ++ A'):=by
 induction h with
 | nil h =>
  intro A X hA hS
  exact ⟨[],rfl,by rw [List.append_nil]; exact hS.drop (hA.ups h)⟩
 | @own H H1 T id up' u ks' K o ht hu hk r ih =>
  intro A X hA hS
  obtain ⟨F,A1,k1,k2⟩:=ht.ok A X hA hS
  have k3:=((k2.perm List.perm_middle).weak (.own (up':=up') (ks':=ks') hu hk)).perm List.perm_middle.symm
  obtain ⟨A2,k4,k5⟩:=ih (X:=X ++ [.own up' ks' o (w (ρ id)) F]) k1 (by rw [List.append_assoc]; exact k3)
  rw [List.append_assoc,List.singleton_append] at k5
  exact ⟨_,⟨_,A2,rfl,⟨F,rfl⟩,k4⟩,k5⟩
 | @cel H T i id up up' ks ks' dd dd' t cs cs' h hc hd hu hk r ih =>
  intro A X hA hS
  obtain ⟨p,g,ys,k1,k2,k3,k4⟩:=aF6 hA h
  have k5:=(hS.perm ((ax4 k1).append_left X)).perm List.perm_middle
  have k6:=(k5.weak (.cel (up':=up') (ks':=ks') hu hk)).perm List.perm_middle.symm
  obtain ⟨A2,q1,q2⟩:=ih (X:=X ++ [.cel up' ks' p g t ys]) (hA.erase i) (by rw [List.append_assoc]; exact k6)
  rw [List.append_assoc,List.singleton_append] at q2
  refine ⟨_,⟨_,A2,rfl,⟨p,g,ys,rfl,k2,fun k e=>?_,k4.cw hc⟩,q1⟩,q2⟩
  subst e
  cases dd with
  | none=>cases hd
  | some a=>exact k3 k (by rw [Nat.eq_of_beq_eq_true hd])
 | @jnk H H1 T id up' u ks' K ht hu hk r ih =>
  intro A X hA hS
  obtain ⟨J,A1,k1,k2⟩:=ht.ok hA hS
  have k3:=((k2.perm List.perm_middle).weak (.jnk (up':=up') (ks':=ks') hu hk)).perm List.perm_middle.symm
  obtain ⟨A2,k4,k5⟩:=ih (X:=X ++ [.jnk up' ks' J]) k1 (by rw [List.append_assoc]; exact k3)
  rw [List.append_assoc,List.singleton_append] at k5
  exact ⟨_,⟨_,A2,rfl,⟨J,rfl⟩,k4⟩,k5⟩
 | @pin H T i id ms args h ho r ih =>
  intro A X hA hS
  obtain ⟨it,k1,rfl,k2⟩:=hA.get (ay5 h)
  have k5:=hS.perm ((ax4 k1).append_left X)
  obtain ⟨A2,q1,q2⟩:=ih (X:=X ++ [.jnk false [] []]) (hA.erase i) (by rw [List.append_assoc]; exact k5)
  rw [List.append_assoc,List.singleton_append] at q2
  exact ⟨_,⟨_,A2,rfl,⟨rfl,k2.by ho⟩,q1⟩,q2⟩
omit [Cfg] in
theorem subE_ag {E' E2 : Env} {T : BT} (h : subE E' E2) (hT : Ag E' T) : Ag E2 T:=fun t u ht=>hT t u (h t u ht)
omit [Cfg] in
theorem cf4 {E : PE} {H : PH} {x : AX} {E1 : PE} {H1 : PH} (ρ : Nat → Nat) (hE : subR ρ E E1) (hH : Give ρ H H1) : VG x L f E H (fun _ T S=>Inv L f E1 H1 T S):=.mk fun w E' A' h1 h2 T S hT hS=>by
 obtain ⟨E2,k1,k2⟩:=cz1 h1 hE
 obtain ⟨A2,k3,k4⟩:=hH.ok (X:=[]) h2 hS
 exact ⟨w.by ρ,E2,A2,k2,k3,subE_ag k1 hT,k4⟩
end
open Go.RowKit
def vsOf : List PC → Option (List V)
 | []=>some []
 | .v x :: r=>match vsOf r with
  | some m=>some (x :: m)
  | none=>none
 | _ :: _=>none
theorem cf8 {w : Wit} : ∀ {xs : List PC} {M : List V} {ys : List AV},vsOf xs = some M → PCs w xs ys → ab1 M ys
 | [],M,ys,h,hp=>by
  cases h
  cases hp
  unfold ab1
  rfl
 | x :: r,M,ys,h,⟨a,t,e,h1,h2⟩=>by
  subst e
  cases x with
  | v x =>
   unfold vsOf at h
   split at h
   ·rename_i m hm
    cases h
    unfold ab1
    exact ⟨a,t,rfl,h1,cf8 hm h2⟩
   ·cases h
  | _=>cases h
def vsT : List PC → List V → Option (List V)
 | [],[]=>some []
 | x :: r,tg :: ts=>match vsT r ts with
  | some m=>match x with
   | .v v=>some (v :: m)
   | .nils=>match tg with
    | .sl n _=>some (.sl n [] :: m)
    | _=>none
   | _=>none
  | none=>none
 | _,_=>none
theorem cq4 {w : Wit} : ∀ {xs : List PC} {T M : List V} {ys : List AV},vsT xs T = some M → PCs w xs ys → ab1 M ys
 | [],[],M,ys,h,hp=>by
  cases h
  cases hp
  unfold ab1
  rfl
 | [],_ :: _,_,_,h,_=>by unfold vsT at h; cases h
 | _ :: _,[],_,_,h,_=>by unfold vsT at h; cases h
 | x :: r,tg :: ts,M,ys,h,⟨a,t,e,h1,h2⟩=>by
  subst e
  unfold vsT at h
  split at h
  ·rename_i m hm
   split at h
   ·cases h
    unfold ab1
    exact ⟨a,t,rfl,h1,cq4 hm h2⟩
   ·split at h
    ·cases h
     have h1 : a = .lit (.slice none 0 0):=h1
     subst h1
     unfold ab1
     exact ⟨_,t,rfl,by unfold RelC; exact .inl ⟨rfl,none,rfl⟩,cq4 hm h2⟩
    ·cases h
   ·cases h
  ·cases h
def isOb : OA → Bool
 | .o _=>true
 | _=>false
def rvO : Nat → OA → PT
 | _,.r v=>rvP v
 | j,.o _=>.c (.k j)
 | _,_=>.any
def insE : Nat → List OA → PE
 | _,[]=>[]
 | j,o :: r=>(j,rvO j o) :: insE (j + 1) r
def insH : Nat → List OA → PH
 | _,[]=>[]
 | j,.o v :: r=>(j,.own true [] v) :: insH (j + 1) r
 | j,_ :: r=>insH (j + 1) r
theorem b83 {L : Nat} : ∀ {ins : List OA} {args : List AV} {F : List Loc} {A : List It} (w : Wit) (j : Nat),InI ins args F A → (∀ i a,args[i]? = some a → w (j + i) = a) → EnvR w (insE j ins) (numE j args) ∧ HR w L (insH j ins) A ∧ pinR w j (ins.map isOb) args
 | [],_,_,_,w,j,⟨h1,h2,h3⟩,_=>by
  subst h1 h3
  exact ⟨rfl,rfl,rfl⟩
 | .x :: _,_,_,_,_,_,h,_=>h.elim
 | .ag _ :: _,_,_,_,_,_,h,_=>h.elim
 | .r v :: r,_,F,A,w,j,⟨a,t,e,h1,h2⟩,hw=>by
  subst e
  obtain ⟨k1,k2,k3⟩:=b83 (L:=L) w (j + 1) h2 fun i x hx=>by
   have:=hw (i + 1) x hx
   rw [show j + 1 + i = j + (i + 1) by omega]
   exact this
  exact ⟨⟨a,_,rfl,bO4 h1,k1⟩,k2,a,t,rfl,fun e=>(by cases e),k3⟩
 | .o v :: r,_,F,A,w,j,⟨a,t,F1,F2,A',e1,e2,e3,h2⟩,hw=>by
  subst e1 e2 e3
  obtain ⟨k1,k2,k3⟩:=b83 (L:=L) w (j + 1) h2 fun i x hx=>by
   have:=hw (i + 1) x hx
   rw [show j + 1 + i = j + (i + 1) by omega]
   exact this
  have h0 : w j = a:=hw 0 a rfl
  exact ⟨⟨a,_,rfl,PT.af8.2 h0.symm,k1⟩,⟨_,A',rfl,⟨F1,by rw [h0]⟩,k2⟩,a,t,rfl,fun _=>h0,k3⟩
inductive bV4 : PH → Nat → List Bool → List OA → PH → Prop where
 | nil {H : PH} {j : Nat} : bV4 H j [] [] H
 | o {H H1 H' : PH} {j : Nat} {o : OV} {u : Bool} {K : List Nat} {ms : List Bool} {r : List OA} (h : Take H j o H1 u K) (t : bV4 H1 (j + 1) ms r H') : bV4 H j (true :: ms) (.o o :: r) H'
 | x {H H' : PH} {j : Nat} {b : Bool} {ms : List Bool} {r : List OA} (t : bV4 H (j + 1) ms r H') : bV4 H j (b :: ms) (.x :: r) H'
inductive aI4 (E : PE) : PH → List BR → List OA → PH → Prop where
 | nil {H : PH} : aI4 E H [] [] H
 | r {H H' : PH} {n : Nat} {v : RV} {p : PT} {b : List BR} {r : List OA} (h : lk E n = some p) (hv : ∀ w a,p.r w a → v.C a) (t : aI4 E H b r H') : aI4 E H (.t n :: b) (.r v :: r) H'
 | rn {H H' : PH} {n k : Nat} {b : List BR} {r : List OA} (h : lk E n = some (.c .nils)) (t : aI4 E H b r H') : aI4 E H (.t n :: b) (.r (.sl k []) :: r) H'
 | o {H H1 H' : PH} {n id : Nat} {o : OV} {u : Bool} {K : List Nat} {b : List BR} {r : List OA} (h : lk E n = some (.c (.k id))) (ht : Take H id o H1 u K) (t : aI4 E H1 b r H') : aI4 E H (.t n :: b) (.o o :: r) H'
 | l {H H1 H' : PH} {n id : Nat} {o : OV} {u : Bool} {K : List Nat} {b : List BR} {r : List OA} (h : lk E n = some (.loc id 0)) (ht : Take H id o H1 u K) (t : aI4 E H1 b r H') : aI4 E H (.t n :: b) (.o o :: r) H'
 | on {H H' : PH} {n k : Nat} {e : TypeId} {b : List BR} {r : List OA} (h : lk E n = some (.c .nils)) (t : aI4 E H b r H') : aI4 E H (.t n :: b) (.o (.gs k e []) :: r) H'
 | a {H H1 H' : PH} {n : Nat} {xs : List PC} {os : List OV} {u : Bool} {K : List Nat} {b : List BR} {r : List OA} (h : lk E n = some (.agg xs)) (hs : os.all OV.sel = true) (hp : xs.all PC.plain = true) (ht : aB6 H xs os H1 u K) (t : aI4 E H1 b r H') : aI4 E H (.t n :: b) (.ag os :: r) H'
 | cn {H H' : PH} {n m id i : Nat} {up : Bool} {ks : List Nat} {dd : Option Nat} {t : TypeId} {cs : List PC} {M : List V} {b : List BR} {r : List OA} (h : lk E n = some (.loc id 0)) (hH : fnd H id = some (i,.cel up ks dd t cs)) (hM : ∀ w ys,PCs w cs ys → ab1 M ys) (hm : M.length = m) (t : aI4 E H b r H') : aI4 E H (.cn n m :: b) (.r (.agg M) :: r) H'
 | c1 {H H' : PH} {n id i : Nat} {up : Bool} {ks : List Nat} {dd : Option Nat} {t : TypeId} {cs : List PC} {c : PC} {v : RV} {b : List BR} {r : List OA} (h : lk E n = some (.loc id 0)) (hH : fnd H id = some (i,.cel up ks dd t cs)) (hc : cs[0]? = some c) (hv : ∀ w a,(celT c).r w a → v.C a) (t : aI4 E H b r H') : aI4 E H (.c1 n :: b) (.r v :: r) H'
theorem ResI.mono {A B : List It} {E : Env} {br : List BR} {res : List OA} {l : List AV} {N : List It} (h : ResI A E br res l N) : ResI (A ++ B) E br res l N:=by
 have at' : ∀ {i : Nat} {p : Loc} {g : Nat} {cs : List AV},cu7 A i p g cs → cu7 (A ++ B) i p g cs:=fun ⟨u,ks,t,h⟩=>⟨u,ks,t,by
  rw [List.getElem?_append_left (List.getElem?_eq_some_iff.1 h).1]
  exact h⟩
 induction h with
 | nil=>exact .nil
 | tr hx hv _ ih=>exact .tr hx hv ih
 | l7 hx _ ih=>exact .l7 hx ih
 | ta hx hs ho _ ih=>exact .ta hx hs ho ih
 | c1 hx hA hc hv _ ih=>exact .c1 hx (at' hA) hc hv ih
 | cn hx hA hM hm _ ih=>exact .cn hx (at' hA) hM hm ih
theorem ret_at {S : AS} {T : BT} {x : AX} {f : Fr} {L : Nat} {E : Env} {A A0 A1 A2 A3 B : List It} {args l : List AV} {br : List BR} {outs res : List OA} (hT : Ag E T) (hS : StA S L f A) (h0 : ∀ it ∈ A0,it.ok S (L + 1)) (hA : A = A1 ++ (A2 ++ (A3 ++ B))) (h1 : OutI outs args A1) (h2 : ResI A0 E br res l A2) (h3 : A3.all isJnk = true) (hB : (B.all fun it=>!it.up) = true) (hx : x = .ret ∨ x = .normal) : RetO f L false args br outs res x T S:=by
 have sub : ∀ it,(it ∈ A1 ∨ it ∈ A2 ∨ it ∈ A3 ∨ it ∈ B) ↔ it ∈ A:=fun it=>by rw [hA]; simp only [List.mem_append]
 have o1:=h1.at fun it hi=>hS.its it ((sub it).1 (.inl hi))
 obtain ⟨o2,o3⟩:=ResI.at hT h0 h2 fun it hi=>hS.its it ((sub it).1 (.inr (.inl hi)))
 have o4:=jnk_at h3 fun it hi=>hS.its it ((sub it).1 (.inr (.inr (.inl hi))))
 have hflat : A.flatMap It.foot = (A1.flatMap It.foot ++ (A2.flatMap It.foot ++ A3.flatMap It.foot)) ++ B.flatMap It.foot:=by
  rw [hA]; simp only [List.flatMap_append,List.append_assoc]
 have hsep:=hS.reg.sep
 rw [hflat] at hsep
 refine ⟨hx,hS.dfr,hS.out,l,_,_,_,fun _=>o2,fun e=>(nomatch e),o1,o3,o4,(List.nodup_append.1 hsep).1,fun q hq=>?_,fun q hq=>?_⟩
 ·obtain ⟨it,k1,k2,k3⟩:=hS.reg.cov q hq
  rcases (sub it).2 k1 with h | h | h | h
  ·exact List.mem_append.2 (.inl (List.mem_flatMap.2 ⟨it,h,k3⟩))
  ·exact List.mem_append.2 (.inr (List.mem_append.2 (.inl (List.mem_flatMap.2 ⟨it,h,k3⟩))))
  ·exact List.mem_append.2 (.inr (List.mem_append.2 (.inr (List.mem_flatMap.2 ⟨it,h,k3⟩))))
  ·have:=List.all_eq_true.1 hB it h
   rw [k2] at this; cases this
 ·have : q ∈ A.flatMap It.foot:=by rw [hflat]; exact List.mem_append.2 (.inl hq)
  obtain ⟨it,k1,k2⟩:=ao3 this
  obtain ⟨_,k4⟩:=It.there (hS.its it k1) q k2
  rcases Nat.lt_or_ge L q.l with h | h
  ·exact .inr h
  ·exact .inl (hS.reg.upr it k1 q k2 h).2
def pinOf : PH → Option (List Bool × List AV)
 | []=>none
 | (_,.pin ms args) :: _=>some (ms,args)
 | _ :: r=>pinOf r
section
variable [Cfg] {w : Wit} {L : Nat} {f : Fr} {S : AS}
omit [Cfg] in
theorem co2 : ∀ {H : PH} {A : List It} {ms : List Bool} {args : List AV},HR w L H A → pinOf H = some (ms,args) → pinR w 0 ms args
 | [],_,_,_,_,h=>by cases h
 | (id,x) :: r,_,ms,args,⟨it,t,e,h1,h2⟩,h=>by
  cases x with
  | pin ms' args'=>cases h; exact h1.2
  | _=>exact co2 h2 h
omit [Cfg] in
theorem aB6.ok {H H' : PH} {cs : List PC} {os : List OV} {u : Bool} {K : List Nat} (h : aB6 H cs os H' u K) : ∀ A X p g i ys,HR w L H A → Cels w p g i cs ys → StA S L f (X ++ A) → ∃ N A',HR w L H' A' ∧ ShtC p g i os ys N ∧ N.any It.up = u ∧ N.flatMap It.keys = K ∧ StA S L f (X ++ (N ++ A')):=TakeL_ok h
omit [Cfg] in
theorem bV4.ok {H H' : PH} {j : Nat} {ms : List Bool} {outs : List OA} (h : bV4 H j ms outs H') : ∀ {A X : List It} {args : List AV},HR w L H A → pinR w j ms args → StA S L f (X ++ A) → ∃ N A',HR w L H' A' ∧ OutI outs args N ∧ StA S L f (X ++ (N ++ A')):=by
 induction h with
 | nil =>
  intro A X args hA hp hS
  cases hp
  exact ⟨[],A,hA,⟨rfl,rfl⟩,hS⟩
 | @o H H1 H' j o u K ms r h t ih =>
  rintro A X _ hA ⟨a,t,rfl,h1,h2⟩ hS
  obtain ⟨F,A1,k1,k2⟩:=h.ok A X hA hS
  rw [h1 rfl] at k2
  obtain ⟨N,A',q1,q2,q3⟩:=ih (X:=X ++ [.own u K o a F]) k1 h2 (by rw [List.append_assoc]; exact k2)
  rw [List.append_assoc,List.singleton_append] at q3
  exact ⟨.own u K o a F :: N,A',q1,⟨rfl,rfl,q2⟩,q3⟩
 | @x H H' j b ms r t ih =>
  rintro A X _ hA ⟨a,t,rfl,_,h2⟩ hS
  obtain ⟨N,A',q1,q2,q3⟩:=ih hA h2 hS
  exact ⟨N,A',q1,q2,q3⟩
omit [Cfg] in
theorem ShtC.ago {q : Loc} {g : Nat} : ∀ {os : List OV} {i : Nat} {ys : List AV} {N : List It},ShtC q g i os ys N → os.all OV.sel = true → AgO os ys N
 | [],i,ys,N,h,_=>by unfold ShtC at h; exact h
 | o :: r,i,ys,N,h,hs=>by
  simp only [List.all_cons,Bool.and_eq_true] at hs
  cases ys with
  | nil=>cases o <;> (unfold ShtC at h; exact h.elim)
  | cons a t =>
   cases o with
   | c v =>
    unfold ShtC at h
    exact ⟨a,t,rfl,.inl ⟨v,rfl,CV.rel.1 h.1,h.2.ago hs.2⟩⟩
   | self=>cases hs.1
   | _ =>
    cases N with
    | nil=>unfold ShtC at h; exact h.elim
    | cons it N =>
     cases it with
     | own u ks o' a' F =>
      unfold ShtC at h
      obtain ⟨rfl,rfl,h⟩:=h
      exact ⟨_,t,rfl,.inr ⟨u,ks,F,N,rfl,h.ago hs.2⟩⟩
     | _=>unfold ShtC at h; exact h.elim
omit [Cfg] in
theorem aI4.ok {E : PE} {E' : Env} (hE : EnvR w E E') {H H' : PH} {br : List BR} {res : List OA} (h : aI4 E H br res H') : ∀ {A X : List It},HR w L H A → StA S L f (X ++ A) → ∃ l N A' A0,HR w L H' A' ∧ (∀ it ∈ A0,it.ok S (L + 1)) ∧ ResI A0 E' br res l N ∧ StA S L f (X ++ (N ++ A')):=by
 induction h with
 | nil =>
  intro A X hA hS
  exact ⟨[],[],A,[],hA,fun _ h=>(nomatch h),.nil,hS⟩
 | r h hv t ih =>
  intro A X hA hS
  obtain ⟨l,N,A',A0,k1,k0,k2,k3⟩:=ih hA hS
  obtain ⟨a,h1,h2⟩:=hE.look h
  exact ⟨a :: l,N,A',A0,k1,k0,.tr h1 (hv _ _ h2) k2,k3⟩
 | rn h t ih =>
  intro A X hA hS
  obtain ⟨l,N,A',A0,k1,k0,k2,k3⟩:=ih hA hS
  obtain ⟨a,h1,h2⟩:=hE.look h
  have h2 : a = .lit (.slice none 0 0):=PT.af8.1 h2
  exact ⟨a :: l,N,A',A0,k1,k0,.tr h1 (by show RelC _ _; subst h2; unfold RelC; exact .inl ⟨rfl,none,rfl⟩) k2,k3⟩
 | @o H H1 H' n id o u K b r h ht t ih =>
  intro A X hA hS
  obtain ⟨a,h1,h2⟩:=hE.look h
  have h2 : a = w id:=PT.af8.1 h2
  subst h2
  obtain ⟨F,A1,q1,q2⟩:=ht.ok A X hA hS
  obtain ⟨l,N,A',A0,k1,k0,k2,k3⟩:=ih (X:=X ++ [.own u K o (w id) F]) q1 (by rw [List.append_assoc]; exact q2)
  rw [List.append_assoc,List.singleton_append] at k3
  exact ⟨_,_,A',A0,k1,k0,.l7 h1 k2,k3⟩
 | @l H H1 H' n id o u K b r h ht t ih =>
  intro A X hA hS
  obtain ⟨a,h1,h2⟩:=hE.look h
  unfold PT.r at h2
  obtain ⟨p,g,h3,rfl⟩:=h2
  obtain ⟨F,A1,q1,q2⟩:=ht.ok A X hA hS
  rw [h3] at q2
  obtain ⟨l,N,A',A0,k1,k0,k2,k3⟩:=ih (X:=X ++ [.own u K o (.ptr p g 0 0) F]) q1 (by rw [List.append_assoc]; exact q2)
  rw [List.append_assoc,List.singleton_append] at k3
  exact ⟨_,_,A',A0,k1,k0,.l7 h1 k2,k3⟩
 | @on H H' n k e b r h t ih =>
  intro A X hA hS
  obtain ⟨a,h1,h2⟩:=hE.look h
  have h2 : a = .lit (.slice none 0 0):=PT.af8.1 h2
  obtain ⟨_,rfl,q2⟩:=Mv.addN (f:=f) (L:=L) (ks:=[]) (n:=k) (e:=e) ⟨none,h2⟩ _ hS
  obtain ⟨l,N,A',A0,k1,k0,k2,k3⟩:=ih (X:=X ++ [.own false [] (.gs k e []) a []]) hA (by rw [List.append_assoc]; exact q2.perm List.perm_middle.symm)
  rw [List.append_assoc,List.singleton_append] at k3
  exact ⟨_,_,A',A0,k1,k0,.l7 h1 k2,k3⟩
 | @a H H1 H' n xs os u K b r h hs hp ht t ih =>
  intro A X hA hS
  obtain ⟨a,h1,h2⟩:=hE.look h
  unfold PT.r at h2
  obtain ⟨ys,rfl,h2⟩:=h2
  obtain ⟨N1,A1,q1,q2,_,_,q5⟩:=ht.ok A X aO6 0 0 ys hA (h2.cels hp) hS
  obtain ⟨l,N,A',A0,k1,k0,k2,k3⟩:=ih (X:=X ++ N1) q1 (by rw [List.append_assoc]; exact q5)
  rw [List.append_assoc] at k3
  exact ⟨_,N1 ++ N,A',A0,k1,k0,.ta h1 hs (q2.ago hs) k2,by rw [List.append_assoc]; exact k3⟩
 | @cn H H' n m id i up ks dd t cs M b r h hH hM hm _ ih =>
  intro A X hA hS
  obtain ⟨a,h1,h2⟩:=hE.look h
  unfold PT.r at h2
  obtain ⟨p,g,h3,rfl⟩:=h2
  obtain ⟨p',g',ys,c1,c2,_,c4⟩:=aF6 hA hH
  rw [h3] at c2
  injection c2 with e1 e2
  subst e1 e2
  have hit:=hS.its _ (List.mem_append.2 (.inr (List.mem_of_getElem? c1)))
  obtain ⟨l,N,A',A0,k1,k0,k2,k3⟩:=ih hA hS
  refine ⟨_,N,A',A0 ++ [.cel up ks p g t ys],k1,fun it hi=>?_,.cn (i:=A0.length) h1 ⟨up,ks,t,by rw [List.getElem?_append_right (Nat.le_refl _),Nat.sub_self]; rfl⟩ (hM _ _ c4.pcs) hm k2.mono,k3⟩
  rcases List.mem_append.1 hi with hi | hi
  ·exact k0 it hi
  ·rw [List.mem_singleton.1 hi]; exact hit
 | @c1 H H' n id i up ks dd t cs c v b r h hH hc hv _ ih =>
  intro A X hA hS
  obtain ⟨a,h1,h2⟩:=hE.look h
  unfold PT.r at h2
  obtain ⟨p,g,h3,rfl⟩:=h2
  obtain ⟨p',g',ys,c1,c2,_,c4⟩:=aF6 hA hH
  rw [h3] at c2
  injection c2 with e1 e2
  subst e1 e2
  have hit:=hS.its _ (List.mem_append.2 (.inr (List.mem_of_getElem? c1)))
  obtain ⟨y,y1,y2⟩:=c4.get hc
  have y3:=hv _ _ (co0 y2.r)
  obtain ⟨l,N,A',A0,k1,k0,k2,k3⟩:=ih hA hS
  refine ⟨y :: l,N,A',A0 ++ [.cel up ks p g t ys],k1,fun it hi=>?_,.c1 (i:=A0.length) h1 ⟨up,ks,t,by rw [List.getElem?_append_right (Nat.le_refl _),Nat.sub_self]; rfl⟩ y1 y3 k2.mono,k3⟩
  rcases List.mem_append.1 hi with hi | hi
  ·exact k0 it hi
  ·rw [List.mem_singleton.1 hi]; exact hit
variable {P : Program} {E : PE} {H : PH} {γ : Type}
theorem cc5 {f : FuncId} {b : BFn} {ins outs res : List OA} (hg : Cfg.given f = none) (hf : ak2 P f = some b) (hn : Nat.ble ins.length b.nt = true) (hki : ins.all OA.given = true) (hkr : res.all OA.keep = true)
  (h : ∀ L S0 F args,VC P b.code L ⟨f,F,S0,true,false⟩ (insE 0 ins) (insH 0 ins ++ [(ins.length,.pin (ins.map isOb) args)]) (RetO ⟨f,F,S0,true,false⟩ L false args b.res outs res)) : cD2 P f ins false outs res :=
 ck0 hg hf hn hki hkr fun L S0 F args A hI=>fun T S hT hS=>by
  obtain ⟨k1,k2,k3⟩:=b83 (L:=L) (fun i=>(args[i]?).getD (.lit undef)) 0 hI fun i a ha=>by
   show (args[0 + i]?).getD _ = a
   rw [Nat.zero_add,ha]
   rfl
  refine (h L S0 F args).ok _ _ (A ++ [.jnk false [] []]) k1 (k2.app ⟨_,[],rfl,⟨rfl,k3⟩,rfl⟩) T S hT ?_
  obtain ⟨_,rfl,q⟩:=Mv.newJ S hS
  exact q.perm (List.perm_append_comm (l₁:=[It.jnk false [] []]))
omit [Cfg] in
theorem v_resO {x : AX} {args : List AV} {br : List BR} {outs res : List OA} {ms : List Bool} {H1 H2 H3 : PH} {u : Bool} {K : List Nat} (hp : pinOf H = some (ms,args)) (h1 : bV4 H 0 ms outs H1) (h2 : aI4 E H1 br res H2) (h3 : br4 H2 H3 u K) (h4 : (H3.all fun q=>!q.2.upb) = true) (hx : x = .ret ∨ x = .normal:=by first | exact .inl rfl | exact .inr rfl) : VG x L f E H (RetO f L false args br outs res):=.mk fun w E' A hE hA T S hT hS=>by
 obtain ⟨N1,A1,k1,k2,k3⟩:=h1.ok (X:=[]) hA (co2 hA hp) hS
 obtain ⟨l,N2,A2,A0,q1,q0,q2,q3⟩:=h2.ok hE (X:=N1) k1 k3
 obtain ⟨J,A3,r1,r2⟩:=h3.ok (X:=N1 ++ N2) q1 (by rw [List.append_assoc]; exact q3)
 rw [List.append_assoc] at r2
 exact ret_at hT r2 q0 (A1:=N1) (A2:=N2) (A3:=[.jnk u K J]) (B:=A3) (args:=args) (l:=l) rfl k2 q2 rfl (List.all_eq_true.2 fun it hi=>by rw [r1.ups h4 it hi]; rfl) hx
end
open Go.RowKit
inductive aL9 (E : PE) : PH → List X → List OA → PH → List (Option Nat) → Bool → List Nat → Prop where
 | nil {H : PH} : aL9 E H [] [] H [] false []
 | p {H H' : PH} {x : X} {xs : List X} {r : RV} {p : PT} {ins : List OA} {ids : List (Option Nat)} {u : Bool} {K : List Nat} (h : od E x = some p) (hv : ∀ w a,p.r w a → r.C a) (t : aL9 E H xs ins H' ids u K) : aL9 E H (x :: xs) (.r r :: ins) H' (none :: ids) u K
 | n {H H' : PH} {x : X} {xs : List X} {k : Nat} {ins : List OA} {ids : List (Option Nat)} {u : Bool} {K : List Nat} (h : od E x = some (.c .nils)) (t : aL9 E H xs ins H' ids u K) : aL9 E H (x :: xs) (.r (.sl k []) :: ins) H' (none :: ids) u K
 | s {H H' : PH} {x : X} {xs : List X} {k : Nat} {es : List (List V)} {ins : List OA} {ids : List (Option Nat)} {u : Bool} {K : List Nat} (h : od E x = some (.c (.s k es))) (t : aL9 E H xs ins H' ids u K) : aL9 E H (x :: xs) (.r (.sl k es) :: ins) H' (none :: ids) u K
 | k {H H' : PH} {x : X} {xs : List X} {k i id : Nat} {es : List (List V)} {up : Bool} {ks : List Nat} {e : TypeId} {ins : List OA} {ids : List (Option Nat)} {u : Bool} {K : List Nat} (h : od E x = some (.c (.k id))) (hH : fnd H id = some (i,.own up ks (.gs k e es))) (t : aL9 E H xs ins H' ids u K) : aL9 E H (x :: xs) (.r (.sl k es) :: ins) H' (none :: ids) u K
 | o {H H1 H' : PH} {x : X} {xs : List X} {id : Nat} {o : OV} {ins : List OA} {ids : List (Option Nat)} {u u' : Bool} {K K' : List Nat} (h : od E x = some (.c (.k id))) (ht : Take H id o H1 u K) (t : aL9 E H1 xs ins H' ids u' K') : aL9 E H (x :: xs) (.o o :: ins) H' (some id :: ids) (u || u') (K ++ K')
 | l {H H1 H' : PH} {x : X} {xs : List X} {id : Nat} {o : OV} {ins : List OA} {ids : List (Option Nat)} {u u' : Bool} {K K' : List Nat} (h : od E x = some (.loc id 0)) (ht : Take H id o H1 u K) (t : aL9 E H1 xs ins H' ids u' K') : aL9 E H (x :: xs) (.o o :: ins) H' (some id :: ids) (u || u') (K ++ K')
def idR (w : Wit) : List (Option Nat) → List AV → Prop
 | [],l=>l = []
 | some id :: r,l=>∃ a t,l = a :: t ∧ w id = a ∧ idR w r t
 | none :: r,l=>∃ a t,l = a :: t ∧ idR w r t
def outH (u : Bool) (K : List Nat) : List (Option Nat) → List OA → PH
 | some id :: ids,.o o :: r=>(id,.own u K o) :: outH u K ids r
 | _ :: ids,_ :: r=>outH u K ids r
 | _,_=>[]
def rs1 (u : Bool) (K : List Nat) (n : Nat) : OA → PT × PH
 | .r v=>(rvP v,[])
 | .o o=>(.c (.k n),[(n,.own u K o)])
 | .ag os=>(.agg (opP u K n os).1,(opP u K n os).2)
 | .x=>(.any,[])
def OA.wide : OA → Nat
 | .o _=>1
 | .ag os=>os.length
 | _=>0
def rsL (u : Bool) (K : List Nat) : Nat → List OA → List PT × PH
 | _,[]=>([],[])
 | n,o :: r=>((rs1 u K n o).1 :: (rsL u K (n + o.wide) r).1,(rs1 u K n o).2 ++ (rsL u K (n + o.wide) r).2)
def rsV (u : Bool) (K : List Nat) (n : Nat) (res : List OA) : PT × PH:=match res with
 | [o]=>rs1 u K n o
 | _=>(.tup (rsL u K n res).1,(rsL u K n res).2)
theorem ck7 {u : Bool} {K : List Nat} : ∀ {os : List OV} {n m : Nat},n + os.length ≤ m → (opP u K n os).1.all (bndC m) = true ∧ bndH m (opP u K n os).2 = true
 | [],_,_,_=>⟨rfl,rfl⟩
 | o :: r,n,m,h=>by
  rw [List.length_cons] at h
  have h1:=ck7 (u:=u) (K:=K) (os:=r) (n:=n) (m:=m) (by omega)
  have h2:=ck7 (u:=u) (K:=K) (os:=r) (n:=n + 1) (m:=m) (by omega)
  have hn : Nat.blt n m = true:=by simp [Nat.blt_eq]; omega
  cases o with
  | c v=>exact ⟨by unfold opP; rw [List.all_cons,h1.1]; rfl,h1.2⟩
  | self=>exact ⟨by unfold opP; rw [List.all_cons,h1.1]; rfl,h1.2⟩
  | _=>exact ⟨by unfold opP; rw [List.all_cons,h2.1,show bndC m (.k n) = true from hn]; rfl,by unfold opP bndH; rw [h2.2,hn]; rfl⟩
section
variable [Cfg] {w : Wit} {L : Nat} {f : Fr} {S : AS}
omit [Cfg] in
theorem cm5 {up : Bool} {ks : List Nat} {L : Nat} : ∀ {os : List OV} {cs : List AV} {N : List It} (n : Nat) (w : Wit),AgI up ks os cs N → os.all OV.sel = true → ∃ w',Wit.ag n w w' ∧ PCs w' (opP up ks n os).1 cs ∧ HR w' L (opP up ks n os).2 N
 | [],cs,N,n,w,h,_=>by
  unfold AgI at h
  obtain ⟨rfl,rfl⟩:=h
  exact ⟨w,.rfl,rfl,rfl⟩
 | o :: r,cs,N,n,w,h,hs=>by
  simp only [List.all_cons,Bool.and_eq_true] at hs
  have own : ∀ {a t F N'},cs = a :: t → N = .own up ks o a F :: N' → AgI up ks r t N' → ∃ w',Wit.ag n w w' ∧ PCs w' (.k n :: (opP up ks (n + 1) r).1) cs ∧ HR w' L ((n,.own up ks o) :: (opP up ks (n + 1) r).2) N:=by
   rintro a t F N' rfl rfl h
   obtain ⟨w',k1,k2,k3⟩:=cm5 (n + 1) (updW w n a) h hs.2
   have hn : w' n = a:=(k1 n (Nat.lt_succ_self n)).trans (as3 w n a)
   exact ⟨w',fun id hid=>(k1 id (Nat.lt_succ_of_lt hid)).trans (ar4 w n a id hid),⟨a,t,rfl,hn.symm,k2⟩,_,N',rfl,⟨F,by rw [hn]⟩,k3⟩
  cases o with
  | c v =>
   unfold AgI at h
   obtain ⟨a,t,rfl,h1,h2⟩:=h
   obtain ⟨w',k1,k2,k3⟩:=cm5 n w h2 hs.2
   exact ⟨w',k1,⟨a,t,rfl,h1,k2⟩,k3⟩
  | self=>cases hs.1
  | _ =>
   unfold AgI at h
   obtain ⟨a,t,F,N',e1,e2,h⟩:=h
   exact own e1 e2 h
omit [Cfg] in
theorem b74 {u : Bool} {K : List Nat} : ∀ {res : List OA} {l : List AV} {N : List It} (n : Nat) (w : Wit),RsC u K res l N → res.all OA.flat = true → ∃ w',Wit.ag n w w' ∧ PTs w' (rsL u K n res).1 l ∧ HR w' L (rsL u K n res).2 N
 | [],l,N,n,w,h,_=>by
  unfold RsC at h
  obtain ⟨rfl,rfl⟩:=h
  exact ⟨w,.rfl,by unfold rsL PTs; rfl,rfl⟩
 | .r v :: r,l,N,n,w,h,hs=>by
  simp only [List.all_cons,Bool.and_eq_true] at hs
  unfold RsC at h
  obtain ⟨a,t,rfl,h1,h2⟩:=h
  obtain ⟨w',k1,k2,k3⟩:=b74 n w h2 hs.2
  exact ⟨w',k1,by unfold rsL PTs; exact ⟨a,t,rfl,bO4 h1,k2⟩,k3⟩
 | .o v :: r,l,N,n,w,h,hs=>by
  simp only [List.all_cons,Bool.and_eq_true] at hs
  unfold RsC at h
  obtain ⟨a,t,F,N',rfl,rfl,h2⟩:=h
  obtain ⟨w',k1,k2,k3⟩:=b74 (n + 1) (updW w n a) h2 hs.2
  have hn : w' n = a:=(k1 n (Nat.lt_succ_self n)).trans (as3 w n a)
  refine ⟨w',fun id hid=>(k1 id (Nat.lt_succ_of_lt hid)).trans (ar4 w n a id hid),?_,_,N',rfl,⟨F,by rw [hn]⟩,k3⟩
  unfold rsL PTs
  exact ⟨a,t,rfl,PT.af8.2 hn.symm,k2⟩
 | .ag os :: r,l,N,n,w,h,hs=>by
  simp only [List.all_cons,Bool.and_eq_true] at hs
  unfold RsC at h
  obtain ⟨cs,t,A1,A',rfl,rfl,h1,h2⟩:=h
  obtain ⟨w1,k1,k2,k3⟩:=cm5 (L:=L) n w h1 hs.1
  obtain ⟨w2,q1,q2,q3⟩:=b74 (n + os.length) w1 h2 hs.2
  obtain ⟨b1,b2⟩:=ck7 (u:=u) (K:=K) (os:=os) (n:=n) (Nat.le_refl _)
  refine ⟨w2,fun id hid=>(q1 id (by omega)).trans (k1 id hid),?_,(k3.ag q1 b2).app q3⟩
  unfold rsL PTs
  exact ⟨_,t,rfl,by unfold rs1 PT.r; exact ⟨cs,rfl,k2.ag q1 b1⟩,q2⟩
 | .x :: _,l,N,n,w,h,_=>by unfold RsC at h; exact h.elim
omit [Cfg] in
theorem rsV_ok {u : Bool} {K : List Nat} {res : List OA} {v : AV} {N : List It} (n : Nat) (w : Wit) (h : RsV u K res v N) (hs : res.all OA.flat = true) : ∃ w',Wit.ag n w w' ∧ (rsV u K n res).1.r w' v ∧ HR w' L (rsV u K n res).2 N:=by
 match res,h,hs with
 | [],h0,hs =>
  obtain ⟨l,hv,h0⟩:=h0
  obtain ⟨w',k1,k2,k3⟩:=b74 (L:=L) n w h0 hs
  exact ⟨w',k1,by unfold rsV PT.r; exact ⟨l,hv,k2⟩,k3⟩
 | [.x],h0,_=>exact h0.elim
 | [.r q],h0,_ =>
  obtain ⟨h1,h2⟩:=h0
  exact ⟨w,.rfl,bO4 h1,h2⟩
 | [.o o],h0,_ =>
  obtain ⟨F,h2⟩:=h0
  exact ⟨updW w n v,fun id hid=>ar4 w n v id hid,PT.af8.2 (as3 w n v).symm,_,[],h2,⟨F,by rw [as3]⟩,rfl⟩
 | [.ag os],h0,hs =>
  obtain ⟨cs,hv,h0⟩:=h0
  simp only [List.all_cons,List.all_nil,Bool.and_true] at hs
  obtain ⟨w',k1,k2,k3⟩:=cm5 (L:=L) n w h0 hs
  exact ⟨w',k1,by unfold rsV rs1 PT.r; exact ⟨cs,hv,k2⟩,k3⟩
 | o :: o' :: r,h0,hs =>
  have h0 : ∃ l,v = .tup l ∧ RsC u K (o :: o' :: r) l N:=by cases o <;> exact h0
  obtain ⟨l,hv,h0⟩:=h0
  obtain ⟨w',k1,k2,k3⟩:=b74 (L:=L) n w h0 hs
  exact ⟨w',k1,by unfold rsV PT.r; exact ⟨l,hv,k2⟩,k3⟩
omit [Cfg] in
theorem bZ9 {u : Bool} {K : List Nat} : ∀ {ids : List (Option Nat)} {outs : List OA} {args : List AV} {N : List It},OutC u K outs args N → idR w ids args → (∀ (i : Nat) (o : OV),outs[i]? = some (OA.o o) → ∃ id : Nat,ids[i]? = some (some id)) → HR w L (outH u K ids outs) N
 | ids,[],args,N,h,_,_=>by
  unfold OutC at h
  subst h
  cases ids with
  | nil=>rfl
  | cons i ids=>cases i <;> rfl
 | [],o :: r,args,N,h,hi,ho=>by
  cases hi
  cases o <;> (unfold OutC at h; exact h.elim)
 | i :: ids,o :: r,args,N,h,hi,ho=>by
  have ho' : ∀ (j : Nat) (o : OV),r[j]? = some (OA.o o) → ∃ id : Nat,ids[j]? = some (some id):=fun j o' hj=>ho (j + 1) o' hj
  cases args with
  | nil=>cases o <;> (unfold OutC at h; exact h.elim)
  | cons a t =>
   have hi' : idR w ids t:=by
    cases i with
    | none=>obtain ⟨_,_,e,h⟩:=hi; cases e; exact h
    | some id=>obtain ⟨_,_,e,_,h⟩:=hi; cases e; exact h
   cases o with
   | r v =>
    unfold OutC at h
    have:=bZ9 h hi' ho'
    cases i <;> exact this
   | x =>
    unfold OutC at h
    have:=bZ9 h hi' ho'
    cases i <;> exact this
   | ag os=>unfold OutC at h; exact h.elim
   | o v =>
    unfold OutC at h
    obtain ⟨F,N',rfl,h⟩:=h
    obtain ⟨id,e⟩:=ho 0 v rfl
    cases e
    obtain ⟨_,_,e,hw,_⟩:=hi
    cases e
    exact ⟨_,N',rfl,⟨F,by rw [hw]⟩,bZ9 h hi' ho'⟩
omit [Cfg] in
theorem aL9.ids {E : PE} {H H' : PH} {xs : List X} {ins : List OA} {ids : List (Option Nat)} {u : Bool} {K : List Nat} (h : aL9 E H xs ins H' ids u K) : ∀ (i : Nat) (o : OV),ins[i]? = some (OA.o o) → ∃ id : Nat,ids[i]? = some (some id):=by
 induction h with
 | nil=>intro i o h; cases h
 | o _ _ _ ih =>
  intro i o h
  cases i with
  | zero=>exact ⟨_,rfl⟩
  | succ i=>exact ih i o h
 | l _ _ _ ih =>
  intro i o h
  cases i with
  | zero=>exact ⟨_,rfl⟩
  | succ i=>exact ih i o h
 | p _ _ _ ih =>
  intro i o h
  cases i with
  | zero=>cases h
  | succ i=>exact ih i o h
 | k _ _ _ ih =>
  intro i o h
  cases i with
  | zero=>cases h
  | succ i=>exact ih i o h
 | _ _ _ ih =>
  intro i o h
  cases i with
  | zero=>cases h
  | succ i=>exact ih i o h
omit [Cfg] in
theorem cD5 : ∀ {ins outs : List OA},fitO ins outs = true → ∀ (i : Nat) (o : OV),outs[i]? = some (OA.o o) → ∃ o',ins[i]? = some (OA.o o')
 | _,[],_,i,o,h=>by cases h
 | [],o :: r,h,_,_,_=>by cases o <;> cases h
 | a :: r,b :: r',h,i,o,hi=>by
  cases i with
  | zero =>
   cases hi
   cases a with
   | o v=>exact ⟨v,rfl⟩
   | _=>cases h
  | succ i =>
   have : fitO r r' = true:=by
    cases b with
    | o v=>cases a with
     | o v'=>exact h
     | _=>cases h
    | x=>cases a <;> exact h
    | _=>cases a <;> cases h
   exact cD5 this i o hi
omit [Cfg] in
theorem aL9.ok {E : PE} {E' : Env} (hE : EnvR w E E') {H H' : PH} {xs : List X} {ins : List OA} {ids : List (Option Nat)} {u : Bool} {K : List Nat} (h : aL9 E H xs ins H' ids u K) : ∀ {A X : List It},HR w L H A → StA S L f (X ++ A) → ∃ args N A',optL E' xs = some args ∧ InC ins args N ∧ idR w ids args ∧ HR w L H' A' ∧ upOf N = u ∧ keysOf N = K ∧ StA S L f (X ++ (N ++ A')):=by
 have opt : ∀ {x : X} {xs : List X} {a : AV} {args : List AV},opd E' x = some a → optL E' xs = some args → optL E' (x :: xs) = some (a :: args):=fun h1 h2=>by unfold optL; rw [h1,h2]
 induction h with
 | nil =>
  intro A X hA hS
  exact ⟨[],[],A,rfl,⟨rfl,rfl⟩,rfl,hA,rfl,rfl,hS⟩
 | p h hv t ih =>
  intro A X hA hS
  obtain ⟨args,N,A',k1,k2,k3,k4,k5,k6,k7⟩:=ih hA hS
  obtain ⟨a,h1,h2⟩:=hE.opd h
  exact ⟨a :: args,N,A',opt h1 k1,⟨RV.C.nN (hv _ _ h2),k2⟩,⟨a,args,rfl,k3⟩,k4,k5,k6,k7⟩
 | n h t ih =>
  intro A X hA hS
  obtain ⟨args,N,A',k1,k2,k3,k4,k5,k6,k7⟩:=ih hA hS
  obtain ⟨a,h1,h2⟩:=hE.opd h
  have h2 : a = .lit (.slice none 0 0):=PT.af8.1 h2
  exact ⟨a :: args,N,A',opt h1 k1,⟨by subst h2; show RelC _ _; unfold RelC; exact .inl ⟨rfl,none,rfl⟩,k2⟩,⟨a,args,rfl,k3⟩,k4,k5,k6,k7⟩
 | s h t ih =>
  intro A X hA hS
  obtain ⟨args,N,A',k1,k2,k3,k4,k5,k6,k7⟩:=ih hA hS
  obtain ⟨a,h1,h2⟩:=hE.opd h
  exact ⟨a :: args,N,A',opt h1 k1,⟨RelA.nrmA (PT.af8.1 h2),k2⟩,⟨a,args,rfl,k3⟩,k4,k5,k6,k7⟩
 | k h hH t ih =>
  intro A X hA hS
  obtain ⟨args,N,A',k1,k2,k3,k4,k5,k6,k7⟩:=ih hA hS
  obtain ⟨a,h1,h2⟩:=hE.opd h
  have h2 : a = w _:=PT.af8.1 h2
  subst h2
  obtain ⟨it,q1,F,rfl⟩:=hA.get (ay5 hH)
  have q2:=(hS.its _ (List.mem_append.2 (.inr (List.mem_of_getElem? q1)))).1
  unfold AtO at q2
  exact ⟨_ :: args,N,A',opt h1 k1,⟨RelA.nrmA q2.relA,k2⟩,⟨_,args,rfl,k3⟩,k4,k5,k6,k7⟩
 | @o H H1 H' x xs id o ins ids u u' K K' h ht t ih =>
  intro A X hA hS
  obtain ⟨a,h1,h2⟩:=hE.opd h
  have h2 : a = w _:=PT.af8.1 h2
  subst h2
  obtain ⟨F,A1,q1,q2⟩:=ht.ok A X hA hS
  obtain ⟨args,N,A',k1,k2,k3,k4,k5,k6,k7⟩:=ih (X:=X ++ [.own u K o (w id) F]) q1 (by rw [List.append_assoc]; exact q2)
  rw [List.append_assoc,List.singleton_append] at k7
  exact ⟨_,.own u K o (w id) F :: N,A',opt h1 k1,⟨rfl,rfl,k2⟩,⟨_,args,rfl,rfl,k3⟩,k4,by unfold upOf at k5 ⊢; rw [List.any_cons,k5]; rfl,by unfold keysOf at k6 ⊢; rw [List.flatMap_cons,k6]; rfl,k7⟩
 | @l H H1 H' x xs id o ins ids u u' K K' h ht t ih =>
  intro A X hA hS
  obtain ⟨p,g,h0,h1⟩:=bO1 hE h
  obtain ⟨F,A1,q1,q2⟩:=ht.ok A X hA hS
  obtain ⟨args,N,A',k1,k2,k3,k4,k5,k6,k7⟩:=ih (X:=X ++ [.own u K o (w id) F]) q1 (by rw [List.append_assoc]; exact q2)
  rw [List.append_assoc,List.singleton_append] at k7
  exact ⟨_,.own u K o (w id) F :: N,A',opt h1 k1,⟨rfl,h0.symm,k2⟩,⟨_,args,rfl,h0,k3⟩,k4,by unfold upOf at k5 ⊢; rw [List.any_cons,k5]; rfl,by unfold keysOf at k6 ⊢; rw [List.flatMap_cons,k6]; rfl,k7⟩
class aB5 (P : Program) (g : FuncId) (ins : outParam (List OA)) {α : Type} (e : Option α) (outs res : outParam (α → List OA)) : Prop where
 ok : ∀ x,e = some x → cD2 P g ins false (outs x) (res x)
 ni : ins.all nrmO = true
 fit : ∀ x,fitO ins (outs x) = true ∧ (res x).all OA.flat = true
class CallsQ (P : Program) (g : FuncId) (ins : outParam (List OA)) {α : Type} (e : Option α) (rs : outParam (α → List RV)) : Prop where
 ok : ∀ x,e = some x → CallQ P g ins (rs x)
 pt : ins.all ptrO = true ∧ ins.any isO = true
 up : ∀ h,Cfg.up g h = false
variable {P : Program} {E : PE} {H H' : PH} {Φ : ag1} {m : Option (List (Nat × Nat))} {acc : AAcc} {r : List BI} {d : Nat} {γ : Type}
theorem v_callO {α : Type} {g : FuncId} {xs : List X} {ins : List OA} {e : Option α} {outs res : α → List OA} {k : α → Option γ} {z : γ} {ids : List (Option Nat)} {u : Bool} {K : List Nat} (n : Nat) (h : e.bind k = some z) [hc : aB5 P g ins e outs res] (hup : Cfg.up g f.fn = true) (hx : aL9 E H xs ins H' ids u K) (hb : (bndE n E && bndH n H' && ids.all fun i=>match i with | some id=>Nat.blt id n | none=>true) = true)
  (hk : ∀ x,e = some x → k x = some z → VO P m (accP acc (none,some (0 :: K))) r L f ((d,(rsV u K n (res x)).1) :: E) (outH u K ids (outs x) ++ ((rsV u K n (res x)).2 ++ ((n + 999,.jnk u K) :: H'))) Φ) (hro : f.ro = false ∨ u = false:=by first | exact .inl rfl | exact .inr rfl) : VO P m acc (⟨some d,none,.none,.cl g xs⟩ :: r) L f E H Φ:=by
 obtain ⟨x,hx1,h⟩:=b45 h
 simp only [Bool.and_eq_true] at hb
 refine .mk fun w E' A hE hA c T S hcc hT hS=>?_
 obtain ⟨args,N,A2,k1,k2,k3,k4,rfl,rfl,k7⟩:=hx.ok hE (X:=[]) hA hS
 refine g_clO hup k1 k2 rfl k4.okO hc.ni (hc.fit x).1 (hc.fit x).2 (hc.ok x hx1) (fun v A1' A3 J o1 o2=>?_) hro c T S hcc hT k7
 obtain ⟨w',q1,q2,q3⟩:=rsV_ok (L:=L) n w o2 (hc.fit x).2
 have hid : idR w' ids args:=by
  have : ∀ {ids : List (Option Nat)} {args : List AV},idR w ids args → (ids.all fun i=>match i with | some id=>Nat.blt id n | none=>true) = true → idR w' ids args:=by
   intro ids
   induction ids with
   | nil=>intro args h _; exact h
   | cons i ids ih =>
    intro args h hb
    simp only [List.all_cons,Bool.and_eq_true] at hb
    cases i with
    | none=>obtain ⟨a,t,e,h⟩:=h; exact ⟨a,t,e,ih h hb.2⟩
    | some id=>obtain ⟨a,t,e,h0,h⟩:=h; exact ⟨a,t,e,(q1 id (by simpa using hb.1)).trans h0,ih h hb.2⟩
  exact this k3 hb.2
 refine (hk x hx1 h).ok w' _ _ ⟨v,E',rfl,q2,hE.ag q1 hb.1.1⟩ ?_
 refine HR.app (bZ9 o1 hid fun i o hi=>?_) (q3.app ⟨_,A2,rfl,⟨J,rfl⟩,k4.ag q1 hb.1.2⟩)
 obtain ⟨o',ho⟩:=cD5 (hc.fit x).1 i o hi
 exact hx.ids i o' ho
end
open Go.RowKit
class CodT (e : TypeId) {α : outParam Type} (c : outParam (α → List V)) : Prop where
inductive BslV (E : PE) (n : Nat) : List X → List (List V) → Prop where
 | nil : BslV E n [] []
 | c {x : X} {v : V} {r : List X} {es : List (List V)} (hx : od E x = some (.c (.v v))) (hn : 1 = n) (h : BslV E n r es) : BslV E n (x :: r) ([v] :: es)
 | a {x : X} {xs : List PC} {M : List V} {r : List X} {es : List (List V)} (hx : od E x = some (.agg xs)) (hM : vsOf xs = some M) (hn : M.length = n) (h : BslV E n r es) : BslV E n (x :: r) (M :: es)
def b95 (d : Nat) : Nat → PH → Bool
 | _,[]=>true
 | 0,_ :: r=>bp7 d r
 | i + 1,(_,x) :: r=>bp7 d [(0,x)] && b95 d i r
section
variable [Cfg] {P : Program} {L : Nat} {f : Fr} {E : PE} {H : PH} {Φ : ag1} {m : Option (List (Nat × Nat))} {acc : AAcc} {r : List BI} {d : Nat} {γ : Type} {w : Wit}
omit [Cfg] in
theorem BslV.ok {E' : Env} {n : Nat} (hE : EnvR w E E') {xs : List X} {es : List (List V)} (h : BslV E n xs es) : BslR E' n xs es:=by
 induction h with
 | nil=>exact .nil
 | c hx hn h ih =>
  obtain ⟨a,h1,h2⟩:=hE.opd hx
  have h2:=PT.af8.1 h2
  refine .cons h1 ?_ hn ih
  rw [(rc1 h2).1]
  unfold ab1
  exact ⟨a,[],rfl,h2,by unfold ab1; rfl⟩
 | a hx hM hn h ih =>
  obtain ⟨a,h1,h2⟩:=hE.opd hx
  unfold PT.r at h2
  obtain ⟨ys,rfl,h2⟩:=h2
  exact .cons h1 (cf8 hM h2) hn ih
omit [Cfg] in
theorem HR.b95 {w : Wit} {d : Nat} : ∀ {H : PH} {A : List It} {i : Nat},HR w L H A → b95 d i H = true → cl4 [d] i A = true
 | [],_,i,h,_=>by
  cases h
  cases i <;> rfl
 | (id,x) :: r,_,0,⟨it,t,e,h1,h2⟩,hf=>by
  subst e
  unfold cl4
  have:=h2.free hf
  rw [List.all_eq_true] at this ⊢
  intro jt hj
  simp only [List.all_cons,List.all_nil,Bool.and_true]
  exact this jt hj
 | (id,x) :: r,_,i + 1,⟨it,t,e,h1,h2⟩,hf=>by
  subst e
  unfold Go.Proofs.YtdcfkmgnkhkoeaaGreatDoor.b95 at hf
  simp only [Bool.and_eq_true] at hf
  unfold cl4
  simp only [List.all_cons,List.all_nil,Bool.and_true,Bool.and_eq_true]
  refine ⟨?_,h2.b95 hf.2⟩
  have:=HR.free (w:=w) (L:=L) (H:=[(0,x)]) (A:=[it]) (d:=d)
  cases x with
  | cel=>obtain ⟨p,g,ys,rfl,_⟩:=h1; simpa [bp7,It.free] using hf.1
  | own=>obtain ⟨F,rfl⟩:=h1; simpa [bp7,It.free] using hf.1
  | jnk=>obtain ⟨J,rfl⟩:=h1; simpa [bp7,It.free] using hf.1
  | pin=>obtain ⟨rfl,_⟩:=h1; rfl
theorem t_ncK {x : X} {id i : Nat} {up : Bool} {ks : List Nat} {dd : Option Nat} {t : TypeId} {cs : List PC} (hx : od E x = some (.c (.k id))) (hH : fnd H id = some (i,.cel up ks dd t cs)) : VS P L f E H d .none (.nc x) af0 (.loc id 0):=.mk fun w E' A' h1 h2=>by
 obtain ⟨a,k1,k2⟩:=h1.opd hx
 have k2 : a = w id:=PT.af8.1 k2
 obtain ⟨p,g,ys,k3,k4,_,_⟩:=aF6 h2 hH
 rw [k2,k4] at k1
 exact (s_ncP k1).mono fun u hu=>by subst hu; unfold PT.r; exact ⟨p,g,k4,rfl⟩
omit [Cfg] in
theorem ownA {w : Wit} {A : List It} {S : AS} {id i n : Nat} {up : Bool} {ks : List Nat} {e : TypeId} {es : List (List V)} (hA : HR w L H A) (hS : StA S L f A) (hH : fnd H id = some (i,.own up ks (.gs n e es))) : RelA n es (w id):=by
 obtain ⟨it,q1,F,rfl⟩:=hA.get (ay5 hH)
 have q2:=(hS.its _ (List.mem_of_getElem? q1)).1
 unfold AtO at q2
 exact q2.relA
omit [Cfg] in
theorem ownL {w : Wit} {A : List It} {S : AS} {id i n : Nat} {up : Bool} {ks : List Nat} {e : TypeId} {es : List (List V)} (hA : HR w L H A) (hS : StA S L f A) (hH : fnd H id = some (i,.own up ks (.li n e es))) : RelA n es (w id):=by
 obtain ⟨it,q1,F,rfl⟩:=hA.get (ay5 hH)
 have q2:=(hS.its _ (List.mem_of_getElem? q1)).1
 unfold AtO at q2
 rcases q2 with q2 | ⟨ys,h1,h2,_⟩
 ·exact q2.relA
 ·exact .inr ⟨_,ys,h1,h2⟩
theorem t_llK {α : Type} {x : X} {xs : List α} {c : α → List V} {n id i : Nat} {up : Bool} {ks : List Nat} {e : TypeId} (hx : od E x = some (.c (.k id))) (hH : fnd H id = some (i,.own up ks (.gs n e (xs.map c)))) : VS P L f E H d (.at x) (.ll x) (none,some []) (.c (.v (.int .i64 xs.length))):=.mk fun w E' A' h1 h2 T S hT hS=>by
 obtain ⟨a,k1,k2⟩:=h1.opd hx
 have k2 : a = w id:=PT.af8.1 k2
 subst k2
 exact ((s_llA k1 (ownA h2 hS hH)).mono fun u hu=>hu ▸ vInt) T S hT hS
theorem t_iaK {α : Type} {x y : X} {xs : List α} {c : α → List V} {n id i : Nat} {up : Bool} {ks : List Nat} {e : TypeId} {k : IntKind} {j : Int} {el : α} (he : G.idx xs j = some el) (hx : od E x = some (.c (.k id))) (hH : fnd H id = some (i,.own up ks (.gs n e (xs.map c)))) (hi : od E y = some (.c (.v (.int k j)))) : VS P L f E H d .none (.ia n x y) af0 (.ref (c el)):=.mk fun w E' A' h1 h2 T S hT hS=>by
 obtain ⟨a,k1,k2⟩:=h1.opd hx
 have k2 : a = w id:=PT.af8.1 k2
 subst k2
 exact ((s_iaA k1 (ownA h2 hS hH) (az3 h1 hi) he).mono fun u hu=>by unfold PT.r; exact hu) T S hT hS
theorem v_bsl {e : TypeId} {n : Nat} {xs : List X} {es : List (List V)} (id : Nat) (hl : Cfg.live f.fn d = false) (hx : BslV E n xs es) (hb : (bndE id E && bndH id H) = true) (h : VO P m (accP acc (some [d],some [])) r L f ((d,.c (.k id)) :: E) ((id,.own false [] (.gs n e es)) :: H) Φ) : VO P m acc (⟨some d,none,.here,.bsl e n xs⟩ :: r) L f E H Φ:=.mk fun w E' A' h1 h2=>by
 simp only [Bool.and_eq_true] at hb
 refine cG9 (s_bsl hl (hx.ok h1) rfl) fun u hu=>go_mv (Mv.addF (ks:=[]) (e:=e) hu.1 hu.2) fun A2 hA2=>?_
 subst hA2
 exact h.ok (updW w id u) _ _ ⟨u,E',rfl,PT.af8.2 (as3 w id u).symm,h1.ag (ar4 _ _ _) hb.1⟩ ⟨_,A',rfl,⟨[],by rw [as3]⟩,h2.ag (ar4 _ _ _) hb.2⟩
inductive ElV (E : PE) (H : PH) (x : X) (n : Nat) (es : List (List V)) : Prop where
 | v (h : od E x = some (.c (.v (.sl n es))))
 | s (h : od E x = some (.c (.s n es)))
 | n (h : od E x = some (.c .nils)) (he : es = [])
 | k {id i : Nat} {up : Bool} {ks : List Nat} {e : TypeId} (h : od E x = some (.c (.k id))) (hH : fnd H id = some (i,.own up ks (.gs n e es)))
 | l {id i : Nat} {up : Bool} {ks : List Nat} {e : TypeId} (h : od E x = some (.c (.k id))) (hH : fnd H id = some (i,.own up ks (.li n e es)))
omit [Cfg] in
theorem ElV.ok {E' : Env} {A : List It} {S : AS} (hE : EnvR w E E') (hA : HR w L H A) (hS : StA S L f A) {x : X} {n : Nat} {es : List (List V)} (h : ElV E H x n es) : ∃ a,opd E' x = some a ∧ RelA n es a:=by
 cases h with
 | v h =>
  obtain ⟨a,k1,k2⟩:=hE.opd h
  exact ⟨a,k1,RelC.toA (PT.af8.1 k2)⟩
 | s h =>
  obtain ⟨a,k1,k2⟩:=hE.opd h
  exact ⟨a,k1,PT.af8.1 k2⟩
 | n h he =>
  obtain ⟨a,k1,k2⟩:=hE.opd h
  exact ⟨a,k1,.inl ⟨he,none,PT.af8.1 k2⟩⟩
 | k h hH =>
  obtain ⟨a,k1,k2⟩:=hE.opd h
  exact ⟨a,k1,by rw [show a = w _ from PT.af8.1 k2]; exact ownA hA hS hH⟩
 | l h hH =>
  obtain ⟨a,k1,k2⟩:=hE.opd h
  exact ⟨a,k1,by rw [show a = w _ from PT.af8.1 k2]; exact ownL hA hS hH⟩
theorem v_ap {α : Type} {s x : X} {i n bytes id : Nat} {up : Bool} {ks : List Nat} {e : TypeId} {c : α → List V} {xs ns : List α} {k : List α → Option γ} {z : γ} (id' : Nat) (h : (G.app xs ns).bind k = some z) [CodT e c] (hl : Cfg.live f.fn d = false) (hs : od E s = some (.c (.k id))) (hH : fnd H id = some (i,.own up ks (.gs n e (xs.map c)))) (hx : ElV E H x n (ns.map c)) (hby : Nat.ble bytes 100000 = true) (hf : b95 d i H = true) (hb : (bndE id' E && bndH id' H) = true)
  (hk : ∀ zs,G.app xs ns = some zs → k zs = some z → VO P m (accP acc (none,some (0 :: insK d ks))) r L f ((d,.c (.k id')) :: E) (H.set i (id',.own up (insK d ks) (.gs n e (zs.map c)))) Φ) (hro : f.ro = false ∨ up = false:=by first | exact .inl rfl | exact .inr rfl) : VO P m acc (⟨some d,none,.app s x,.ap e n bytes s x⟩ :: r) L f E H Φ:=by
 obtain ⟨zs,hz,h⟩:=b45 h
 refine .mk fun w E' A' h1 h2 cc T S hc hT hS=>?_
 simp only [Bool.and_eq_true] at hb
 obtain ⟨a,k1,k2⟩:=h1.opd hs
 have k2 : a = w id:=PT.af8.1 k2
 subst k2
 obtain ⟨b,q1,q2⟩:=hx.ok h1 h2 hS
 obtain ⟨it,k3,F,rfl⟩:=h2.get (ay5 hH)
 refine g_apP hl k1 q1 k3 q2 hby (h2.b95 hf) h2.okO hz (fun a' F'=>?_) hro cc T S hc hT hS
 refine (hk zs hz h).ok (updW w id' a') _ _ ⟨a',E',rfl,PT.af8.2 (as3 w id' a').symm,h1.ag (ar4 _ _ _) hb.1⟩ ?_
 have hset : ∀ {H : PH} {A : List It} {i : Nat},HR w L H A → bndH id' H = true → HR (updW w id' a') L (H.set i (id',.own up (insK d ks) (.gs n e (zs.map c)))) (A.set i (.own up (insK d ks) (.gs n e (zs.map c)) a' F')):=by
  intro H
  induction H with
  | nil=>intro A i h _; cases h; rfl
  | cons q H ih =>
   obtain ⟨j,y⟩:=q
   intro A i h hb
   obtain ⟨jt,t,e',r1,r2⟩:=h
   subst e'
   have hb' : bndH id' H = true:=by
    unfold bndH at hb
    simp only [Bool.and_eq_true] at hb
    exact hb.2
   cases i with
   | zero=>exact ⟨_,t,rfl,⟨F',by rw [as3]⟩,r2.ag (ar4 _ _ _) hb'⟩
   | succ i =>
    have h1 : HR w L [(j,y)] [jt]:=⟨jt,[],rfl,r1,rfl⟩
    have h2:=h1.ag (ar4 w id' a') (by
     unfold bndH at hb ⊢
     simp only [Bool.and_eq_true] at hb ⊢
     exact ⟨hb.1,rfl⟩)
    obtain ⟨jt',t',e2,r3,_⟩:=h2
    cases e2
    exact ⟨jt,t.set i _,rfl,r3,ih r2 hb'⟩
 exact hset h2 hb.2
def ch8 (E : PE) : PE → List (Nat × Nat)
 | []=>[]
 | (t,x) :: r=>match x with
  | .c (.k j)=>match lk E t with
   | some (.c (.k a))=>(j,a) :: ch8 E r
   | _=>ch8 E r
  | .loc j _=>match lk E t with
   | some (.loc a _)=>(j,a) :: ch8 E r
   | _=>ch8 E r
  | _=>ch8 E r
def apF : List (Nat × Nat) → Nat → Nat
 | [],i=>i
 | (j,a) :: r,i=>bif Nat.beq j i then a else apF r i
def renPC : List PC → List PC → List (Nat × Nat)
 | .k a :: r,.k j :: r'=>(j,a) :: renPC r r'
 | _ :: r,_ :: r'=>renPC r r'
 | _,_=>[]
def renPH (ρ : List (Nat × Nat)) (H : PH) : PH → List (Nat × Nat)
 | []=>[]
 | (j,x) :: r=>match x with
  | .cel _ _ _ _ cs'=>match fnd H (apF ρ j) with
   | some (_,.cel _ _ _ _ cs)=>renPC cs cs' ++ renPH ρ H r
   | _=>renPH ρ H r
  | _=>renPH ρ H r
def cu2 (E E1 : PE) (H H1 : PH) : Nat → Nat:=apF (ch8 E E1 ++ renPH (ch8 E E1) H H1)
end
open Go.RowKit
class Rk (f : Fr) (d : Nat) (n : outParam Nat) : Prop where
instance (priority:=low) {f : Fr} {d : Nat} : Rk f d (1000 * d):=⟨⟩
section
variable [Cfg] {P : Program} {L : Nat} {f : Fr} {E : PE} {H : PH} {Φ : ag1} {m : Option (List (Nat × Nat))} {acc : AAcc} {r : List BI} {d : Nat} {γ : Type}
theorem v_funQ {f : FuncId} {b : BFn} {ins : List OA} {rs : List RV} (hg : Cfg.given f = none) (hf : ak2 P f = some b) (hup : ∀ h,Cfg.up f h = false) (hp : ins.all ptrO = true) (hn : Nat.ble ins.length b.nt = true) (hsz : Nat.ble (rs.length + (rs.map RV.size).sum + 5) 100000 = true)
  (h : ∀ L S0 F,VC P b.code L ⟨f,F,S0,false,true⟩ (insE 0 ins) (insH 0 ins) (aQ1 L b.res rs)) : CallQ P f ins rs :=
 cg0 hg hf hup hp hn hsz fun L S0 F args A hI=>fun T S hT hS=>by
  obtain ⟨k1,k2,_⟩:=b83 (L:=L) (fun i=>(args[i]?).getD (.lit undef)) 0 hI fun i a ha=>by
   show (args[0 + i]?).getD _ = a
   rw [Nat.zero_add,ha]
   rfl
  exact (h L S0 F).ok _ _ A k1 k2 T S hT hS
def kOf : PT → Option Nat
 | .c x=>match x with
  | .k id=>some id
  | _=>none
 | .gd _ _ x=>kOf x
 | .loc id _=>some id
 | _=>none
theorem bn4 {x : X} {b : PT} {bf : BF} {g : Option (Nat × Bool)} {id i : Nat} {up : Bool} {ks : List Nat} {t : TypeId} {os : List OV} {nn : Nat} [Rk f d nn] (_hx : od E x = some b) (_hk : kOf b = some id) (h : fnd H id = some (i,.own up ks (.ptr t os))) (hb : (bndE nn E && bndH nn H) = true) (k : VO P m acc (⟨some d,g,bf,.nc x⟩ :: r) L f E ((id,.cel up ks none t (opP up ks nn os).1) :: ((opP up ks nn os).2 ++ H.eraseIdx i)) Φ) : VO P m acc (⟨some d,g,bf,.nc x⟩ :: r) L f E H Φ :=
 vo_mv (mv_opn _ h hb) k
theorem bc4 {e : TypeId} {cs : List AV} {xs : List PC} {nn : Nat} [Rk f d nn] (hcl : AV.ac4 cs = true) (hx : cs.map pc0 = xs) (hp : xs.all PC.plain = true) (hf : bp7 d H = true) (hb : (bndE nn E && bndH nn H) = true) (h : VO P m (accP acc (some [d],some [d])) r L f ((d,.loc nn 0) :: E) ((nn,.cel false [d] (some d) e xs) :: H) Φ) : VO P m acc (⟨some d,none,.here,.al e cs⟩ :: r) L f E H Φ:=v_al _ hcl hx hp hf hb h
theorem bn5 {e : TypeId} {x : X} {b : PT} {xs : List PC} {nn : Nat} [Rk f d nn] (hx : od E x = some b) (hc : bv4 b = some xs) (hs : xs.all (stC H) = true) (hf : bp7 d H = true) (hb : (bndE nn E && bndH nn H && xs.all (bndC nn)) = true) (h : VO P m (accP acc (some [d],some [d])) r L f ((d,.loc nn 0) :: E) ((nn,.cel false [d] (some d) e xs) :: H) Φ) : VO P m acc (⟨some d,none,.here,.bx e x⟩ :: r) L f E H Φ:=v_bx _ hx hc hs hf hb h
theorem cI1 {α : Type} {s x : X} {i n bytes id : Nat} {up : Bool} {ks : List Nat} {e : TypeId} {c : α → List V} {xs ns : List α} {k : List α → Option γ} {z : γ} {nn : Nat} [Rk f d nn] (h : (G.app xs ns).bind k = some z) [CodT e c] (hl : Cfg.live f.fn d = false) (hs : od E s = some (.c (.k id))) (hH : fnd H id = some (i,.own up ks (.gs n e (xs.map c)))) (hx : ElV E H x n (ns.map c)) (hby : Nat.ble bytes 100000 = true) (hf : b95 d i H = true) (hb : (bndE nn E && bndH nn H) = true)
  (hk : ∀ zs,G.app xs ns = some zs → k zs = some z → VO P m (accP acc (none,some (0 :: insK d ks))) r L f ((d,.c (.k nn)) :: E) (H.set i (nn,.own up (insK d ks) (.gs n e (zs.map c)))) Φ) (hro : f.ro = false ∨ up = false:=by first | exact .inl rfl | exact .inr rfl) : VO P m acc (⟨some d,none,.app s x,.ap e n bytes s x⟩ :: r) L f E H Φ:=v_ap _ h hl hs hH hx hby hf hb hk hro
end
open Go.RowKit
abbrev TkR (α : Type) : Type:=Option (α × PH × Bool × List Nat)
mutual
def bL7 : Nat → PH → Nat → OV → TkR OV
 | 0,_,_,_=>none
 | fu + 1,H,id,tg=>match fnd H id with
  | none=>none
  | some (i,y)=>match y with
   | .own up ks o=>bif ownO o then some (o,H.eraseIdx i,up,ks) else none
   | .cel up ks _ t cs=>match tg with
    | .ptr _ tos=>match a19 fu (H.eraseIdx i) cs tos with
     | some (os,H',u,K)=>some (.ptr t os,H',up || u,ks ++ K)
     | none=>none
    | _=>none
   | _=>none
def a19 : Nat → PH → List PC → List OV → TkR (List OV)
 | 0,_,_,_=>none
 | fu + 1,H,c :: cs,tg :: tos=>match c with
  | .v x=>match a19 fu H cs tos with
   | some (os,r)=>some ((match tg with
    | .self=>match x with
     | .nilp=>.self
     | _=>.c x
    | _=>.c x) :: os,r)
   | none=>none
  | .self=>match a19 fu H cs tos with
   | some (os,r)=>some (.self :: os,r)
   | none=>none
  | .nils=>match a19 fu H cs tos with
   | some (os,r)=>match tg with
    | .gs n e _=>some (.gs n e [] :: os,r)
    | .li n e _=>some (.li n e [] :: os,r)
    | .rw x n e _=>some (.rw x n e [] :: os,r)
    | .bb e _=>some (.bb e [] :: os,r)
    | .c (.sl n _)=>some (.c (.sl n []) :: os,r)
    | _=>none
   | none=>none
  | .k id=>match bL7 fu H id tg with
   | some (o,H1,u,K)=>match a19 fu H1 cs tos with
    | some (os,H2,u',K')=>bif ownO o then some (o :: os,H2,u || u',K ++ K') else none
    | none=>none
   | none=>none
  | _=>none
 | _ + 1,H,[],_=>some ([],H,false,[])
 | _ + 1,_,_ :: _,[]=>none
end
mutual
theorem aL7 : ∀ (fu : Nat) {H H' : PH} {id : Nat} {tg o : OV} {u : Bool} {K : List Nat},bL7 fu H id tg = some (o,H',u,K) → Take H id o H' u K
 | 0,_,_,_,_,_,_,_,h=>by unfold bL7 at h; cases h
 | fu + 1,H,H',id,tg,o,u,K,h=>by
  unfold bL7 at h
  split at h
  ·cases h
  ·rename_i i y hy
   split at h
   ·rename_i up ks o'
    cases ho : ownO o' with
    | true =>
     rw [ho] at h
     cases h
     exact .own hy
    | false=>rw [ho] at h; cases h
   ·rename_i up ks dd t cs
    split at h
    ·rename_i t' tos
     split at h
     ·rename_i os H2 u2 K2 h2
      cases h
      exact .ptr hy (av8 fu h2)
     ·cases h
    ·cases h
   ·cases h
theorem av8 : ∀ (fu : Nat) {H H' : PH} {cs : List PC} {tos os : List OV} {u : Bool} {K : List Nat},a19 fu H cs tos = some (os,H',u,K) → aB6 H cs os H' u K
 | 0,_,_,_,_,_,_,_,h=>by unfold a19 at h; cases h
 | fu + 1,H,H',[],tos,os,u,K,h=>by
  unfold a19 at h
  cases h
  exact .nil
 | fu + 1,H,H',_ :: _,[],os,u,K,h=>by unfold a19 at h; cases h
 | fu + 1,H,H',c :: cs,tg :: tos,os,u,K,h=>by
  unfold a19 at h
  split at h
  ·rename_i x
   split at h
   ·rename_i os' r hr
    cases h
    have hr:=av8 fu hr
    split
    ·split
     ·exact .nilp hr
     ·exact .v hr
    ·exact .v hr
   ·cases h
  ·split at h
   ·rename_i os' r hr
    cases h
    exact .self (av8 fu hr)
   ·cases h
  ·split at h
   ·rename_i os' r hr
    split at h
    ·cases h; exact .gs (av8 fu hr)
    ·cases h; exact .li (av8 fu hr)
    ·cases h; exact .rw (av8 fu hr)
    ·cases h; exact .bb (av8 fu hr)
    ·cases h; exact .nilc (av8 fu hr)
    ·cases h
   ·cases h
  ·rename_i id
   split at h
   ·rename_i o H1 u1 K1 h1
    split at h
    ·rename_i os' H2 u2 K2 h2
     cases ho : ownO o with
     | true =>
      rw [ho] at h
      cases h
      exact .k ho (aL7 fu h1) (av8 fu h2)
     | false=>rw [ho] at h; cases h
    ·cases h
   ·cases h
  ·cases h
end
def rvOf : PT → RV → Option RV
 | .c x,tg=>match x with
  | .v v=>match tg with
   | .int _ _=>match v with
    | .int k n=>some (.int k n)
    | _=>none
   | .bool _=>match v with
    | .bool b=>some (.bool b)
    | _=>none
   | .str _=>match v with
    | .str s=>some (.str s)
    | _=>none
   | .sl _ _=>match v with
    | .sl n es=>some (.sl n es)
    | _=>none
   | .v _=>some (.v v)
   | .agg _=>none
  | _=>none
 | .agg xs,tg=>match tg with
  | .agg T=>match vsT xs T with
   | some M=>some (.agg M)
   | none=>none
  | _=>none
 | _,_=>none
theorem bG4 {w : Wit} {a : AV} {p : PT} {tg r : RV} (h : rvOf p tg = some r) (hp : p.r w a) : r.C a:=by
 cases p with
 | c x =>
  cases x with
  | v v =>
   have : PT.c (.v v) = rvP r:=by
    cases tg <;> (cases v <;> first | (cases h; done) | (cases h; rfl))
   rw [this] at hp
   exact rvP_to hp
  | _=>cases h
 | agg xs =>
  cases tg with
  | agg T =>
   cases hM : vsT xs T with
   | none =>
    unfold rvOf at h
    simp only [hM] at h
    cases h
   | some M =>
    unfold rvOf at h
    simp only [hM] at h
    cases h
    unfold PT.r at hp
    obtain ⟨ys,rfl,hp⟩:=hp
    exact ⟨ys,rfl,cq4 hM hp⟩
  | _=>cases h
 | _=>cases h
def bw5 : PH → Nat → List Bool → List OA → Option (List OA × PH)
 | H,_,[],[]=>some ([],H)
 | H,j,b :: ms,o :: r=>match o with
  | .o tg=>match b with
   | true=>match bL7 60 H j tg with
    | some (o',H1,_)=>match bw5 H1 (j + 1) ms r with
     | some (os,H')=>some (.o o' :: os,H')
     | none=>none
    | none=>none
   | false=>none
  | .x=>match bw5 H (j + 1) ms r with
   | some (os,H')=>some (.x :: os,H')
   | none=>none
  | _=>none
 | _,_,_,_=>none
theorem bB0 : ∀ {r : List OA} {H H' : PH} {j : Nat} {ms : List Bool} {os : List OA},bw5 H j ms r = some (os,H') → bV4 H j ms os H'
 | [],H,H',j,ms,os,h=>by
  cases ms with
  | nil=>unfold bw5 at h; cases h; exact .nil
  | cons=>unfold bw5 at h; cases h
 | o :: r,H,H',j,[],os,h=>by unfold bw5 at h; cases h
 | o :: r,H,H',j,b :: ms,os,h=>by
  unfold bw5 at h
  split at h
  ·split at h
   ·split at h
    ·rename_i h1
     split at h
     ·rename_i h2
      cases h
      exact .o (aL7 _ h1) (bB0 h2)
     ·cases h
    ·cases h
   ·cases h
  ·split at h
   ·rename_i h2
    cases h
    exact .x (bB0 h2)
   ·cases h
  ·cases h
def aH6 (E : PE) : PH → List BR → List OA → Option (List OA × PH)
 | H,[],[]=>some ([],H)
 | H,b :: bs,o :: r=>match b with
  | .t n=>match lk E n with
   | none=>none
   | some p=>match o with
    | .r tg=>match p,tg with
     | .c .nils,.sl k _=>match aH6 E H bs r with
      | some (os,H')=>some (.r (.sl k []) :: os,H')
      | none=>none
     | p,tg=>match rvOf p tg with
      | some v=>match aH6 E H bs r with
       | some (os,H')=>some (.r v :: os,H')
       | none=>none
      | none=>none
    | .o tg=>match p with
     | .c .nils=>match tg with
      | .gs k e _=>match aH6 E H bs r with
       | some (os,H')=>some (.o (.gs k e []) :: os,H')
       | none=>none
      | _=>none
     | .c (.k id)=>match bL7 60 H id tg with
      | some (o',H1,_)=>match aH6 E H1 bs r with
       | some (os,H')=>some (.o o' :: os,H')
       | none=>none
      | none=>none
     | .loc id 0=>match bL7 60 H id tg with
      | some (o',H1,_)=>match aH6 E H1 bs r with
       | some (os,H')=>some (.o o' :: os,H')
       | none=>none
      | none=>none
     | _=>none
    | .ag tos=>match p with
     | .agg xs=>match a19 60 H xs tos with
      | some (os',H1,_)=>bif os'.all OV.sel && xs.all PC.plain then match aH6 E H1 bs r with
       | some (os,H')=>some (.ag os' :: os,H')
       | none=>none
       else none
      | none=>none
     | _=>none
    | .x=>none
  | .cn n m=>match o with
   | .r (.agg T)=>match lk E n with
    | some (.loc id 0)=>match fnd H id with
     | some (_,.cel _ _ _ _ cs)=>match vsT cs T with
      | some M=>bif Nat.beq M.length m then match aH6 E H bs r with
       | some (os,H')=>some (.r (.agg M) :: os,H')
       | none=>none
       else none
      | none=>none
     | _=>none
    | _=>none
   | _=>none
  | .c1 n=>match o with
   | .r tg=>match lk E n with
    | some (.loc id 0)=>match fnd H id with
     | some (_,.cel _ _ _ _ cs)=>match cs[0]? with
      | some c=>match rvOf (celT c) tg with
       | some v=>match aH6 E H bs r with
        | some (os,H')=>some (.r v :: os,H')
        | none=>none
       | none=>none
      | none=>none
     | _=>none
    | _=>none
   | _=>none
 | _,_,_=>none
theorem ay1 {E : PE} : ∀ {br : List BR} {r : List OA} {H H' : PH} {os : List OA},aH6 E H br r = some (os,H') → aI4 E H br os H'
 | [],r,H,H',os,h=>by
  cases r with
  | nil=>unfold aH6 at h; cases h; exact .nil
  | cons=>unfold aH6 at h; cases h
 | b :: bs,[],H,H',os,h=>by unfold aH6 at h; cases h
 | b :: bs,o :: r,H,H',os,h=>by
  unfold aH6 at h
  split at h
  ·rename_i n
   split at h
   ·cases h
   ·rename_i p hp
    split at h
    ·rename_i tg
     split at h
     ·split at h
      ·rename_i h2
       cases h
       exact .rn hp (ay1 h2)
      ·cases h
     ·split at h
      ·rename_i v hv
       split at h
       ·rename_i h2
        cases h
        exact .r hp (fun _ _ q=>bG4 hv q) (ay1 h2)
       ·cases h
      ·cases h
    ·rename_i tg
     split at h
     ·split at h
      ·split at h
       ·rename_i h2
        cases h
        exact .on hp (ay1 h2)
       ·cases h
      ·cases h
     ·split at h
      ·rename_i h1
       split at h
       ·rename_i h2
        cases h
        exact .o hp (aL7 _ h1) (ay1 h2)
       ·cases h
      ·cases h
     ·split at h
      ·rename_i h1
       split at h
       ·rename_i h2
        cases h
        exact .l hp (aL7 _ h1) (ay1 h2)
       ·cases h
      ·cases h
     ·cases h
    ·rename_i tos
     split at h
     ·rename_i xs
      split at h
      ·rename_i os' H1 q h1
       obtain ⟨u,K⟩:=q
       cases hc : (os'.all OV.sel && xs.all PC.plain) with
       | true =>
        rw [hc] at h
        simp only [Bool.and_eq_true] at hc
        simp only [cond_true] at h
        split at h
        ·rename_i h2
         cases h
         exact .a hp hc.1 hc.2 (av8 _ h1) (ay1 h2)
        ·cases h
       | false=>rw [hc] at h; cases h
      ·cases h
     ·cases h
    ·cases h
  ·rename_i n m
   split at h
   ·split at h
    ·rename_i id hl
     split at h
     ·rename_i hf
      split at h
      ·rename_i M hM
       cases hc : Nat.beq M.length m with
       | true =>
        rw [hc] at h
        simp only [cond_true] at h
        split at h
        ·rename_i h2
         cases h
         exact .cn hl hf (fun _ _ q=>cq4 hM q) (Nat.eq_of_beq_eq_true hc) (ay1 h2)
        ·cases h
       | false=>rw [hc] at h; cases h
      ·cases h
     ·cases h
    ·cases h
   ·cases h
  ·rename_i n
   split at h
   ·rename_i tg
    split at h
    ·rename_i id hl
     split at h
     ·rename_i hf
      split at h
      ·rename_i c hc
       split at h
       ·rename_i v hv
        split at h
        ·rename_i h2
         cases h
         exact .c1 hl hf hc (fun _ _ q=>bG4 hv q) (ay1 h2)
        ·cases h
       ·cases h
      ·cases h
     ·cases h
    ·cases h
   ·cases h
def aG1 (E : PE) : PH → List X → List OA → Option (List OA × PH × List (Option Nat) × Bool × List Nat)
 | H,[],[]=>some ([],H,[],false,[])
 | H,x :: xs,o :: r=>match od E x with
  | none=>none
  | some p=>match o with
   | .r tg=>match p,tg with
    | .c .nils,.sl k _=>match aG1 E H xs r with
     | some (os,H',ids,u,K)=>some (.r (.sl k []) :: os,H',none :: ids,u,K)
     | none=>none
    | .c (.s k es),_=>match aG1 E H xs r with
     | some (os,H',ids,u,K)=>some (.r (.sl k es) :: os,H',none :: ids,u,K)
     | none=>none
    | .c (.k id),.sl _ _=>match fnd H id with
     | some (_,.own _ _ (.gs k _ es))=>match aG1 E H xs r with
      | some (os,H',ids,u,K)=>some (.r (.sl k es) :: os,H',none :: ids,u,K)
      | none=>none
     | _=>none
    | p,tg=>match rvOf p tg with
     | some v=>match aG1 E H xs r with
      | some (os,H',ids,u,K)=>some (.r v :: os,H',none :: ids,u,K)
      | none=>none
     | none=>none
   | .o tg=>match p with
    | .c (.k id)=>match bL7 60 H id tg with
     | some (o',H1,u,K)=>match aG1 E H1 xs r with
      | some (os,H',ids,u',K')=>some (.o o' :: os,H',some id :: ids,u || u',K ++ K')
      | none=>none
     | none=>none
    | .loc id 0=>match bL7 60 H id tg with
     | some (o',H1,u,K)=>match aG1 E H1 xs r with
      | some (os,H',ids,u',K')=>some (.o o' :: os,H',some id :: ids,u || u',K ++ K')
      | none=>none
     | none=>none
    | _=>none
   | _=>none
 | _,_,_=>none
theorem ay2 {E : PE} : ∀ {xs : List X} {r : List OA} {H H' : PH} {os : List OA} {ids : List (Option Nat)} {u : Bool} {K : List Nat},aG1 E H xs r = some (os,H',ids,u,K) → aL9 E H xs os H' ids u K
 | [],r,H,H',os,ids,u,K,h=>by
  cases r with
  | nil=>unfold aG1 at h; cases h; exact .nil
  | cons=>unfold aG1 at h; cases h
 | x :: xs,[],H,H',os,ids,u,K,h=>by unfold aG1 at h; cases h
 | x :: xs,o :: r,H,H',os,ids,u,K,h=>by
  unfold aG1 at h
  split at h
  ·cases h
  ·rename_i p hp
   split at h
   ·rename_i tg
    split at h
    ·split at h
     ·rename_i h2
      cases h
      exact .n hp (ay2 h2)
     ·cases h
    ·split at h
     ·rename_i h2
      cases h
      exact .s hp (ay2 h2)
     ·cases h
    ·split at h
     ·rename_i hf
      split at h
      ·rename_i h2
       cases h
       exact .k hp hf (ay2 h2)
      ·cases h
     ·cases h
    ·split at h
     ·rename_i v hv
      split at h
      ·rename_i h2
       cases h
       exact .p hp (fun _ _ q=>bG4 hv q) (ay2 h2)
      ·cases h
     ·cases h
   ·rename_i tg
    split at h
    ·split at h
     ·rename_i h1
      split at h
      ·rename_i h2
       cases h
       exact .o hp (aL7 _ h1) (ay2 h2)
      ·cases h
     ·cases h
    ·split at h
     ·rename_i h1
      split at h
      ·rename_i h2
       cases h
       exact .l hp (aL7 _ h1) (ay2 h2)
      ·cases h
     ·cases h
    ·cases h
   ·cases h
def aq3 : PH → PH × Bool × List Nat
 | []=>([],false,[])
 | (id,x) :: r=>match x with
  | .jnk up ks=>((aq3 r).1,up || (aq3 r).2.1,ks ++ (aq3 r).2.2)
  | .cel up ks dd t cs=>bif up && cs.all PC.shutC then ((aq3 r).1,up || (aq3 r).2.1,ks ++ (aq3 r).2.2) else ((id,.cel up ks dd t cs) :: (aq3 r).1,(aq3 r).2)
  | .own up ks o=>bif up && cw4 o then ((aq3 r).1,up || (aq3 r).2.1,ks ++ (aq3 r).2.2) else ((id,x) :: (aq3 r).1,(aq3 r).2)
  | _=>((id,x) :: (aq3 r).1,(aq3 r).2)
theorem aB2 : ∀ (H : PH),br4 H (aq3 H).1 (aq3 H).2.1 (aq3 H).2.2
 | []=>.nil
 | (id,x) :: r=>by
  cases x with
  | jnk up ks=>exact .j (aB2 r)
  | cel up ks dd t cs =>
   cases h : (up && cs.all PC.shutC) with
   | true =>
    simp only [aq3,h,cond_true]
    exact .c (by simp only [Bool.and_eq_true] at h; exact h.2) (aB2 r)
   | false =>
    simp only [aq3,h,cond_false]
    exact .skip (aB2 r)
  | own up ks o =>
   cases h : (up && cw4 o) with
   | true =>
    simp only [aq3,h,cond_true]
    exact .o (by simp only [Bool.and_eq_true] at h; exact h.2) (aB2 r)
   | false =>
    simp only [aq3,h,cond_false]
    exact .skip (aB2 r)
  | _=>exact .skip (aB2 r)
section
variable [Cfg] {P : Program} {L : Nat} {f : Fr} {E : PE} {H : PH} {Φ : ag1} {m : Option (List (Nat × Nat))} {acc : AAcc} {r : List BI} {d : Nat} {γ : Type}
omit [Cfg] in
theorem am1 {x : AX} {args : List AV} {br : List BR} {outs res : List OA} {ms : List Bool} {H1 H2 : PH} (hp : pinOf H = some (ms,args)) (h1 : bw5 H 0 ms outs = some (outs,H1)) (h2 : aH6 E H1 br res = some (res,H2)) (h4 : ((aq3 H2).1.all fun q=>!q.2.upb) = true) (hx : x = .ret ∨ x = .normal:=by first | exact .inl rfl | exact .inr rfl) : VG x L f E H (RetO f L false args br outs res) :=
 v_resO hp (bB0 h1) (ay1 h2) (aB2 H2) h4 hx
theorem bt6 {α : Type} {g : FuncId} {xs : List X} {ins : List OA} {e : Option α} {outs res : α → List OA} {k : α → Option γ} {z : γ} {ids : List (Option Nat)} {u : Bool} {K : List Nat} {H' : PH} {nn : Nat} [Rk f d nn] (h : e.bind k = some z) [hc : aB5 P g ins e outs res] (hup : Cfg.up g f.fn = true) (hx : aG1 E H xs ins = some (ins,H',ids,u,K)) (hb : (bndE nn E && bndH nn H' && ids.all fun i=>match i with | some id=>Nat.blt id nn | none=>true) = true)
  (hk : ∀ x,e = some x → k x = some z → VO P m (accP acc (none,some (0 :: K))) r L f ((d,(rsV u K nn (res x)).1) :: E) (outH u K ids (outs x) ++ ((rsV u K nn (res x)).2 ++ ((nn + 999,.jnk u K) :: H'))) Φ) (hro : f.ro = false ∨ u = false:=by first | exact .inl rfl | exact .inr rfl) : VO P m acc (⟨some d,none,.none,.cl g xs⟩ :: r) L f E H Φ:=v_callO nn h hup (ay2 hx) hb hk hro
end
open Go.RowKit
def bdC (H : PH) : PC → Bool
 | .s _ _=>true
 | x=>stC H x
def bdF (E : PE) (H : PH) : List PC → List (Nat × Nat × X) → Option (List PC)
 | cs,[]=>some cs
 | cs,(off,n,x) :: r=>match od E x with
  | some p=>match bv4 p with
   | some xs=>bif Nat.beq xs.length n && Nat.ble (off + n) cs.length && xs.all (bdC H) then bdF E H (at1 cs off xs) r else none
   | none=>none
  | none=>none
def bslF (E : PE) (n : Nat) : List X → Option (List (List V))
 | []=>some []
 | x :: r=>match od E x with
  | some p=>match (match p with
   | .c (.v v)=>some [v]
   | .agg xs=>vsOf xs
   | _=>none) with
   | some M=>bif Nat.beq M.length n then match bslF E n r with
    | some es=>some (M :: es)
    | none=>none
    else none
   | none=>none
  | none=>none
theorem ci5 {E : PE} {n : Nat} : ∀ {xs : List X} {es : List (List V)},bslF E n xs = some es → BslV E n xs es
 | [],es,h=>by cases h; exact .nil
 | x :: r,es,h=>by
  unfold bslF at h
  split at h
  ·rename_i p hp
   split at h
   ·rename_i M hM
    cases hn : Nat.beq M.length n with
    | false=>rw [hn] at h; cases h
    | true =>
     rw [hn] at h
     simp only [cond_true] at h
     split at h
     ·rename_i es' he
      cases h
      split at hM
      ·cases hM
       exact .c hp (Nat.eq_of_beq_eq_true hn) (ci5 he)
      ·exact .a hp hM (Nat.eq_of_beq_eq_true hn) (ci5 he)
      ·cases hM
     ·cases h
   ·cases h
  ·cases h
section
variable [Cfg] {P : Program} {L : Nat} {f : Fr} {E : PE} {H : PH} {Φ : ag1} {m : Option (List (Nat × Nat))} {acc : AAcc} {r : List BI} {d : Nat} {γ : Type} {w : Wit}
omit [Cfg] in
theorem cC8 {c : PC} (h : bdC H c = true) : c.plain = true:=by cases c <;> first | rfl | cases h
omit [Cfg] in
theorem bd_cells {A : List It} (hA : HR w L H A) {x : PT} {xs : List PC} {a : AV} (hx : x.r w a) (hc : bv4 x = some xs) (hs : xs.all (bdC H) = true) {S : AS} (hS : StA S L f A) : PCs w xs a.cells:=by
 cases x with
 | c y =>
  cases hc
  simp only [List.all_cons,List.all_nil,Bool.and_true] at hs
  have h:=PT.af8.1 hx
  have k1 : a.cells = [a]:=by
   cases y with
   | s n es=>exact (RelA.cells h).1
   | v x=>exact (bl5 (c:=.v x) hA hs h hS).1
   | nils=>exact (bl5 (c:=.nils) hA hs h hS).1
   | k id=>exact (bl5 (c:=.k id) hA hs h hS).1
   | self=>cases hs
   | any=>cases hs
  rw [k1]
  exact ⟨a,[],rfl,h,rfl⟩
 | agg ys =>
  cases hc
  unfold PT.r at hx
  obtain ⟨zs,rfl,h⟩:=hx
  exact h
 | loc id o =>
  unfold bv4 at hc
  cases o with
  | zero =>
   cases hc
   unfold PT.r at hx
   obtain ⟨p,g,h1,rfl⟩:=hx
   exact ⟨_,[],rfl,h1.symm,rfl⟩
  | succ _=>cases hc
 | _=>cases hc
omit [Cfg] in
theorem bdF_ok {E' : Env} {A : List It} {S : AS} (hE : EnvR w E E') (hA : HR w L H A) (hS : StA S L f A) : ∀ {pl : List (Nat × Nat × X)} {cs cs' : List PC} {z : List AV},bdF E H cs pl = some cs' → Cels w aO6 0 0 cs z → ∃ zs,ce2 E' z pl zs ∧ Cels w aO6 0 0 cs' zs
 | [],cs,cs',z,h,hz=>by
  cases h
  exact ⟨z,.nil rfl,hz⟩
 | (off,n,x) :: r,cs,cs',z,h,hz=>by
  unfold bdF at h
  split at h
  ·rename_i p hp
   split at h
   ·rename_i xs hx
    cases hc : (Nat.beq xs.length n && Nat.ble (off + n) cs.length && xs.all (bdC H)) with
    | false=>rw [hc] at h; cases h
    | true =>
     rw [hc] at h
     simp only [Bool.and_eq_true] at hc
     simp only [cond_true] at h
     obtain ⟨a,k1,k2⟩:=hE.opd hp
     have hn:=Nat.eq_of_beq_eq_true hc.1.1
     have hpc:=bd_cells hA k2 hx hc.2 hS
     have hl:=hpc.len
     obtain ⟨zs,q1,q2⟩:=bdF_ok hE hA hS h (hz.spl hpc (List.all_eq_true.2 fun c hcm=>cC8 (List.all_eq_true.1 hc.2 c hcm)) (by rw [hn]; exact ag3 hc.1.2))
     exact ⟨zs,.cons k1 rfl (by rw [hl,hn]) (by rw [hz.len]; exact hc.1.2) q1,q2⟩
   ·cases h
  ·cases h
theorem t_bd {z : List AV} {pl : List (Nat × Nat × X)} {xs : List PC} (h : bdF E H (z.map pc0) pl = some xs) (hp : (z.map pc0).all PC.plain = true) : VS P L f E H d .none (.bd z pl) af0 (.agg xs):=.mk fun w E' A' h1 h2 T S hT hS=>by
 obtain ⟨zs,q1,q2⟩:=bdF_ok h1 h2 hS h ((cK3 w z).cels hp)
 exact ((s_bdX q1).mono fun u hu=>by subst hu; unfold PT.r; exact ⟨zs,rfl,q2.pcs⟩) T S hT hS
theorem t_mi {x : X} {xs : List PC} {M : List V} {t : TypeId} (hx : od E x = some (.agg xs)) (hM : vsOf xs = some M) : VS P L f E H d .none (.mi t x) af0 (.c (.v (.ifc t true M))):=.mk fun w E' A' h1 _=>by
 obtain ⟨a,k1,k2⟩:=h1.opd hx
 unfold PT.r at k2
 obtain ⟨ys,rfl,k2⟩:=k2
 exact (s_mi k1 (cf8 hM k2) rfl).mono fun u hu=>PT.af8.2 hu
theorem t_max {x y : Operand} {t1 t2 ty : TypeId} {k k' : IntKind} {a b : Int} (hx : od E (af1 x) = some (.c (.v (.int k a)))) (hy : od E (af1 y) = some (.c (.v (.int k' b)))) : VS P L f E H d .none (.gen (.call ⟨.builtin .max,#[x,y],#[t1,t2]⟩) ty) af0 (.c (.v (.int k (if b > a then b else a)))):=.mk fun w E' A' h1 _=>(s_max (az3 h1 hx) (az3 h1 hy)).mono fun u hu=>hu ▸ vInt
theorem bv7 {e : TypeId} {n : Nat} {xs : List X} {es : List (List V)} {nn : Nat} [Rk f d nn] (hl : Cfg.live f.fn d = false) (hx : bslF E n xs = some es) (hb : (bndE nn E && bndH nn H) = true) (h : VO P m (accP acc (some [d],some [])) r L f ((d,.c (.k nn)) :: E) ((nn,.own false [] (.gs n e es)) :: H) Φ) : VO P m acc (⟨some d,none,.here,.bsl e n xs⟩ :: r) L f E H Φ:=v_bsl _ hl (ci5 hx) hb h
end
open Go.RowKit
def vsS (H : PH) : List PC → List V → Option (List V)
 | [],[]=>some []
 | x :: r,tg :: ts=>match vsS H r ts with
  | some m=>match x with
   | .v v=>some (v :: m)
   | .nils=>match tg with
    | .sl n _=>some (.sl n [] :: m)
    | _=>none
   | .k id=>match fnd H id with
    | some (_,.own false _ (.gs k _ es))=>some (.sl k es :: m)
    | _=>none
   | _=>none
  | none=>none
 | _,_=>none
def fitF (E : PE) (H : PH) : List BR → List RV → Option (List RV)
 | [],[]=>some []
 | b :: bs,tg :: r=>match (match b with
  | .t n=>match lk E n with
   | none=>none
   | some p=>match p,tg with
    | .c .nils,.sl k _=>some (.sl k [])
    | .c (.k id),.sl _ _=>match fnd H id with
     | some (_,.own false _ (.gs k _ es))=>some (.sl k es)
     | _=>none
    | .agg xs,.agg T=>match vsS H xs T with
     | some M=>some (.agg M)
     | none=>none
    | p,tg=>rvOf p tg
  | .cn n m=>match lk E n with
   | some (.loc id 0)=>match fnd H id with
    | some (_,.cel _ _ _ _ cs)=>match tg with
     | .agg T=>match vsS H cs T with
      | some M=>bif Nat.beq M.length m then some (.agg M) else none
      | none=>none
     | _=>none
    | _=>none
   | _=>none
  | .c1 n=>match lk E n with
   | some (.loc id 0)=>match fnd H id with
    | some (_,.cel _ _ _ _ cs)=>match cs[0]? with
     | some c=>rvOf (celT c) tg
     | none=>none
    | _=>none
   | _=>none) with
  | some v=>match fitF E H bs r with
   | some vs=>some (v :: vs)
   | none=>none
  | none=>none
 | _,_=>none
section
variable [Cfg] {P : Program} {L : Nat} {f : Fr} {E : PE} {H : PH} {Φ : ag1} {m : Option (List (Nat × Nat))} {acc : AAcc} {r : List BI} {d : Nat} {γ : Type} {w : Wit}
omit [Cfg] in
theorem cq9 {E' : Env} {A' : List It} {T : BT} {S : AS} (hA : HR w L H A') (hT : Ag E' T) (hS : StA S L f A') : ∀ {xs : List PC} {tg M : List V} {ys : List AV},vsS H xs tg = some M → PCs w xs ys → aF4 (L + 1) M ys
 | [],[],M,ys,h,hp=>by
  cases h
  cases hp
  unfold aF4
  rfl
 | [],_ :: _,_,_,h,_=>by unfold vsS at h; cases h
 | _ :: _,[],_,_,h,_=>by unfold vsS at h; cases h
 | x :: r,tg :: ts,M,ys,h,⟨a,t,e,h1,h2⟩=>by
  subst e
  unfold vsS at h
  split at h
  ·rename_i m hm
   have hr:=cq9 hA hT hS hm h2
   split at h
   ·cases h
    have h1 : RelC _ a:=h1
    unfold aF4
    exact ⟨a,t,rfl,h1.toS,hr⟩
   ·split at h
    ·cases h
     have h1 : a = .lit (.slice none 0 0):=h1
     subst h1
     unfold aF4
     refine ⟨_,t,rfl,RelC.toS ?_,hr⟩
     unfold RelC
     exact .inl ⟨rfl,none,rfl⟩
    ·cases h
   ·split at h
    ·rename_i hf
     cases h
     have h1 : a = w _:=h1
     subst h1
     obtain ⟨it,q1,F,rfl⟩:=hA.get (ay5 hf)
     unfold aF4
     refine ⟨_,t,rfl,?_,hr⟩
     exact (cC9 (Φ:=fun _ _ _=>RelS (L + 1) (.sl _ _) (w _)) (x:=.ret) (E:=E') q1 (fun hr _ _ _ _=>hr) (.inr rfl)) T S hT hS
    ·cases h
   ·cases h
  ·cases h
omit [Cfg] in
theorem cK2 {E' : Env} {A' : List It} {T : BT} {S : AS} (hE : EnvR w E E') (hA : HR w L H A') (hT : Ag E' T) (hS : StA S L f A') : ∀ {br : List BR} {tgs rs : List RV},fitF E H br tgs = some rs → ∃ as1,az2 S T br = some as1 ∧ RVL (L + 1) rs as1
 | [],[],rs,h=>by
  cases h
  exact ⟨[],rfl,rfl⟩
 | [],_ :: _,rs,h=>by unfold fitF at h; cases h
 | _ :: _,[],rs,h=>by unfold fitF at h; cases h
 | b :: bs,tg :: tr,rs,h=>by
  unfold fitF at h
  split at h
  ·rename_i v hv
   split at h
   ·rename_i vs hvs
    cases h
    obtain ⟨as1,k1,k2⟩:=cK2 hE hA hT hS hvs
    have one : ∀ {a : AV},bres S T b = some a → v.S (L + 1) a → ∃ as1,az2 S T (b :: bs) = some as1 ∧ RVL (L + 1) (v :: vs) as1:=fun {a} h1 h2=>⟨a :: as1,by rw [an9,k1,h1]; rfl,a,as1,rfl,h2,k2⟩
    have single : ∀ {a : AV} {b0 : BR} {v0 : RV},az2 S T [b0] = some [a] ∧ RVL (L + 1) [v0] [a] → bres S T b0 = some a ∧ v0.S (L + 1) a:=fun {a b0 v0} ⟨h1,h2⟩=>by
     obtain ⟨_,_,e,h2,_⟩:=h2
     cases e
     refine ⟨?_,h2⟩
     rw [an9] at h1
     cases hb : bres S T b0 with
     | none=>rw [hb] at h1; cases h1
     | some x=>rw [hb] at h1; cases h1; rfl
    split at hv
    ·rename_i n
     split at hv
     ·cases hv
     ·rename_i p hp
      obtain ⟨a,h1,h2⟩:=hE.look hp
      have hb : bres S T (.t n) = some a:=by rw [bG2,hT n a h1]
      split at hv
      ·cases hv
       have h2 : a = .lit (.slice none 0 0):=PT.af8.1 h2
       refine one hb (RV.C.toS ?_)
       subst h2
       show RelC _ _
       unfold RelC
       exact .inl ⟨rfl,none,rfl⟩
      ·rename_i id _ _
       split at hv
       ·rename_i hf
        cases hv
        have h2 : a = w _:=PT.af8.1 h2
        subst h2
        obtain ⟨it,q1,F,rfl⟩:=hA.get (ay5 hf)
        refine one hb ?_
        exact (cC9 (Φ:=fun _ _ _=>RelS (L + 1) (.sl _ _) (w _)) (x:=.ret) (E:=E') q1 (fun hr _ _ _ _=>hr) (.inr rfl)) T S hT hS
       ·cases hv
      ·split at hv
       ·rename_i M hM
        cases hv
        unfold PT.r at h2
        obtain ⟨ys,rfl,h2⟩:=h2
        exact one hb ⟨ys,rfl,cq9 hA hT hS hM h2⟩
       ·cases hv
      ·exact one hb (RV.C.toS (bG4 hv h2))
    ·rename_i n k
     split at hv
     ·rename_i id hl
      split at hv
      ·rename_i hf
       split at hv
       rotate_left
       ·cases hv
       split at hv
       ·rename_i M hM
        cases hc : Nat.beq M.length k with
        | true =>
         rw [hc] at hv
         cases hv
         obtain ⟨a,h1,h2⟩:=hE.look hl
         unfold PT.r at h2
         obtain ⟨p,g,h3,rfl⟩:=h2
         obtain ⟨p',g',ys,c1,c2,_,c4⟩:=aF6 hA hf
         rw [h3] at c2
         injection c2 with e1 e2
         subst e1 e2
         obtain ⟨q1,q2⟩:=single (ResS.at hT (fun it hi=>hS.its it hi) (.cn h1 ⟨_,_,_,c1⟩ (cq9 hA hT hS hM c4.pcs) (Nat.eq_of_beq_eq_true hc) .nil))
         exact one q1 q2
        | false=>rw [hc] at hv; cases hv
       ·cases hv
      ·cases hv
     ·cases hv
    ·rename_i n
     split at hv
     ·rename_i id hl
      split at hv
      ·rename_i hf
       split at hv
       ·rename_i c hc
        obtain ⟨a,h1,h2⟩:=hE.look hl
        unfold PT.r at h2
        obtain ⟨p,g,h3,rfl⟩:=h2
        obtain ⟨p',g',ys,c1,c2,_,c4⟩:=aF6 hA hf
        rw [h3] at c2
        injection c2 with e1 e2
        subst e1 e2
        obtain ⟨y,y1,y2⟩:=c4.get hc
        have y3:=co0 y2.r
        obtain ⟨q1,q2⟩:=single (ResS.at hT (fun it hi=>hS.its it hi) (.c1 h1 ⟨_,_,_,c1⟩ y1 (RV.C.toS (bG4 hv y3)) .nil))
        exact one q1 q2
       ·cases hv
      ·cases hv
     ·cases hv
   ·cases h
  ·cases h
omit [Cfg] in
theorem ai5 {x : AX} {br : List BR} {rs : List RV} (h : fitF E H br rs = some rs) (hW : f.W = [] ∨ f.ro = true:=by first | exact .inl rfl | exact .inr rfl) (hx : x = .ret ∨ x = .normal:=by first | exact .inl rfl | exact .inr rfl) : VG x L f E H (aQ1 L br rs):=.mk fun w E' A' h1 h2 T S hT hS =>
 ⟨hx,hS.dfr,hW.elim hS.out.outs hS.out.outs',cK2 h1 h2 hT hS h⟩
omit [Cfg] in
theorem cA9 : ∀ {rvs : List RV} {args : List AV} {N : List It},InC (rvs.map OA.r) args N → RVN rvs args
 | [],args,N,h=>by
  obtain ⟨rfl,_⟩:=h
  exact rfl
 | q :: qs,[],N,h=>by cases N <;> exact h.elim
 | q :: qs,a :: t,N,h=>by
  have h : q.C a.ac1 ∧ InC (qs.map OA.r) t N:=by cases N <;> exact h
  unfold RVN
  rw [List.map_cons]
  exact ⟨_,_,rfl,h.1,cA9 h.2⟩
theorem aq0 {α : Type} {g : FuncId} {xs : List X} {rvs : List RV} {e : Option α} {rs : α → List RV} {x : α} {ids : List (Option Nat)} {u : Bool} {K : List Nat} {H' : PH} (he : e = some x) [hc : CallsC P g rvs e rs] (hx : aG1 E H xs (rvs.map OA.r) = some (rvs.map OA.r,H',ids,u,K)) : VS P L f E H d .none (.cl g xs) af0 (resP (rs x)):=.mk fun w E' A hE hA T S hT hS=>by
 obtain ⟨args,N,A2,k1,k2,_,_,_,_,_⟩:=(ay2 hx).ok hE (X:=[]) hA hS
 exact ((s_clB hc.up k1 (cA9 k2) (fun hn=>hc.ok x he args hn)).mono fun u hu=>cJ5 hu) T S hT hS
theorem t_readQ {α : Type} {g : FuncId} {xs : List X} {ins : List OA} {e : Option α} {rs : α → List RV} {x : α} {ids : List (Option Nat)} {u : Bool} {K : List Nat} {H' : PH} (he : e = some x) [hc : CallsQ P g ins e rs] (hx : aG1 E H xs ins = some (ins,H',ids,u,K)) : VS P L f E H d .none (.cl g xs) (none,some []) (resP (rs x)):=.mk fun w E' A hE hA T S hT hS=>by
 obtain ⟨args,N,A2,k1,k2,k3,k4,rfl,rfl,k7⟩:=(ay2 hx).ok hE (X:=[]) hA hS
 obtain ⟨v,ft,q1,q2,q3⟩:=s_clQ hc.up hc.pt.1 hc.pt.2 k1 k2 rfl (hc.ok x he) T S hT k7
 exact ⟨v,ft,cJ5 q1,q2,q3⟩
end
open Go.RowKit
def eqX : X → X → Bool
 | .t n,.t m=>Nat.beq n m
 | _,_=>false
theorem co7 : ∀ {x y : X},eqX x y = true → x = y
 | .t n,.t m,h=>by rw [Nat.eq_of_beq_eq_true h]
 | .t _,.c _,h=>by cases h
 | .c _,_,h=>by cases h
def valN (E : PE) (H : PH) : BO → Option PT
 | .mv x=>od E x
 | .nt x=>match od E x with
  | some (.c (.v (.bool b)))=>some (.c (.v (.bool !b)))
  | _=>none
 | .ib op x y=>match od E x with
  | some (.c (.v (.int k a)))=>match od E y with
   | some (.c (.v (.int k' b)))=>match ibV op (.lit (.int k a)) (.lit (.int k' b)) with
    | some (.lit (.int k2 c))=>some (.c (.v (.int k2 c)))
    | some (.lit (.bool c))=>some (.c (.v (.bool c)))
    | _=>none
   | _=>none
  | _=>none
 | .sb op x y=>match od E x with
  | some (.c (.v (.str a)))=>match od E y with
   | some (.c (.v (.str b)))=>match op with
    | .eql=>some (.c (.v (.bool (decide (a = b)))))
    | .neq=>some (.c (.v (.bool (decide (a ≠ b)))))
    | .lss=>some (.c (.v (.bool (Op.bytesLess a b))))
    | .geq=>some (.c (.v (.bool (!(Op.bytesLess a b)))))
    | _=>none
   | _=>none
  | _=>none
 | .bb ne x y=>match od E x with
  | some (.c (.v (.bool a)))=>match od E y with
   | some (.c (.v (.bool b)))=>some (.c (.v (.bool (decide (a = b) != ne))))
   | _=>none
  | _=>none
 | .fa off x=>match od E x with
  | some (.loc id o)=>some (.loc id (o + off))
  | some (.ref M)=>some (.ref (M.drop off))
  | _=>none
 | .nc x=>match od E x with
  | some (.loc id o)=>match fnd H id with
   | some (_,.own _ _ _)=>none
   | _=>some (.loc id o)
  | some (.ref M)=>some (.ref M)
  | some (.c (.k id))=>match fnd H id with
   | some (_,.cel _ _ _ _ _)=>some (.loc id 0)
   | _=>none
  | _=>none
 | .ex x i=>match od E x with
  | some (.tup l)=>l[i]?
  | _=>none
 | .fd1 off x=>match od E x with
  | some (.agg xs)=>match xs[off]? with
   | some v=>some (.c v)
   | none=>none
  | _=>none
 | .bd z pl=>bif (z.map pc0).all PC.plain then match bdF E H (z.map pc0) pl with
   | some xs=>some (.agg xs)
   | none=>none
  else none
 | .mi t x=>match od E x with
  | some (.agg xs)=>match vsOf xs with
   | some M=>some (.c (.v (.ifc t true M)))
   | none=>none
  | _=>none
 | _=>none
def valA (E : PE) (H : PH) (y : X) : BO → Option (AF × PT)
 | .ls x=>bif eqX x y then match od E x with
   | some (.c (.v (.str a)))=>some (af0,.c (.v (.int .i64 a.length)))
   | _=>none
  else none
 | .cvi k x=>bif eqX x y then match od E x with
   | some (.c (.v (.int _ n)))=>some (af0,.c (.v (.int k (k.wrap n))))
   | _=>none
  else none
 | .ld1 x=>bif eqX x y then match od E x with
   | some (.loc id off)=>match fnd H id with
    | some (_,.cel _ ks dd _ cs)=>match cs[off]? with
     | some c=>some (ldF dd ks,celT c)
     | none=>none
    | _=>none
   | some (.ref M)=>match M[0]? with
    | some v=>some (af0,.c (.v v))
    | none=>none
   | _=>none
  else none
 | .ldn n x=>bif eqX x y then match od E x with
   | some (.loc id off)=>match fnd H id with
    | some (_,.cel _ ks dd _ cs)=>bif Nat.ble (off + n) cs.length then some (ldF dd ks,.agg ((cs.drop off).take n)) else none
    | _=>none
   | some (.ref M)=>bif Nat.ble n M.length then some (af0,.agg (pv (M.take n))) else none
   | _=>none
  else none
 | _=>none
def valF (E : PE) (H : PH) (bf : BF) (o : BO) : Option (AF × PT):=match bf with
 | .none=>match valN E H o with
  | some v=>some (af0,v)
  | none=>none
 | .at y=>valA E H y o
 | _=>none
theorem bifT {α : Type} {b : Bool} {x : Option α} {y : α} (h : (bif b then x else none) = some y) : b = true ∧ x = some y:=by
 cases b with
 | true=>exact ⟨rfl,h⟩
 | false=>cases h
section
variable [Cfg] {P : Program} {L : Nat} {f : Fr} {E : PE} {H : PH} {Φ : ag1} {m : Option (List (Nat × Nat))} {acc : AAcc} {r : List BI} {d : Nat} {γ : Type} {w : Wit}
theorem valN_ok {o : BO} {v : PT} (h : valN E H o = some v) : VS P L f E H d .none o af0 v:=by
 unfold valN at h
 split at h
 ·exact s_mv' h
 ·split at h
  ·rename_i hx; cases h; exact t_nt hx
  ·cases h
 ·split at h
  ·rename_i hx
   split at h
   ·rename_i hy
    split at h
    ·rename_i hv; cases h; exact t_ii hx hy hv
    ·rename_i hv; cases h; exact t_ib hx hy hv
    ·cases h
   ·cases h
  ·cases h
 ·split at h
  ·rename_i hx
   split at h
   ·rename_i hy
    split at h
    ·cases h; exact t_se hx hy
    ·cases h; exact t_sn hx hy
    ·cases h; exact t_sl hx hy
    ·cases h; exact t_sg hx hy
    ·cases h
   ·cases h
  ·cases h
 ·split at h
  ·rename_i hx
   split at h
   ·rename_i hy; cases h; exact t_bb hx hy
   ·cases h
  ·cases h
 ·split at h
  ·rename_i hx; cases h; exact t_fa hx
  ·rename_i hx; cases h; exact t_far hx
  ·cases h
 ·split at h
  ·rename_i hx
   split at h
   ·cases h
   ·cases h; exact t_nc hx
  ·rename_i hx; cases h; exact t_ncr hx
  ·rename_i hx
   split at h
   ·rename_i hf; cases h; exact t_ncK hx hf
   ·cases h
  ·cases h
 ·split at h
  ·rename_i hx; exact t_ex hx h
  ·cases h
 ·split at h
  ·rename_i hx
   split at h
   ·rename_i hv; cases h; exact t_f1 hx hv
   ·cases h
  ·cases h
 ·have hq:=bifT h
  clear h
  obtain ⟨hp,h⟩:=hq
  split at h
  ·rename_i hb; cases h; exact t_bd hb hp
  ·cases h
 ·split at h
  ·rename_i hx
   split at h
   ·rename_i hM; cases h; exact t_mi hx hM
   ·cases h
  ·cases h
 ·cases h
theorem valA_ok {o : BO} {v : PT} {y : X} {af : AF} (h : valA E H y o = some (af,v)) : VS P L f E H d (.at y) o af v:=by
 unfold valA at h
 split at h
 ·have hq:=bifT h
  clear h
  obtain ⟨he,h⟩:=hq
  obtain rfl:=co7 he
  split at h
  ·rename_i hx; cases h; exact t_ls hx
  ·cases h
 ·have hq:=bifT h
  clear h
  obtain ⟨he,h⟩:=hq
  obtain rfl:=co7 he
  split at h
  ·rename_i hx; cases h; exact t_cv hx
  ·cases h
 ·have hq:=bifT h
  clear h
  obtain ⟨he,h⟩:=hq
  obtain rfl:=co7 he
  split at h
  ·rename_i hx
   split at h
   ·rename_i hf
    split at h
    ·rename_i hc; cases h; exact t_ld hx hf hc
    ·cases h
   ·cases h
  ·rename_i hx
   split at h
   ·rename_i hv; cases h; exact t_ldr hx hv
   ·cases h
  ·cases h
 ·have hq:=bifT h
  clear h
  obtain ⟨he,h⟩:=hq
  obtain rfl:=co7 he
  split at h
  ·rename_i hx
   split at h
   ·rename_i hf
    have hq:=bifT h
    clear h
    obtain ⟨hb,h⟩:=hq
    cases h
    exact t_ldn hx hf hb rfl
   ·cases h
  ·rename_i hx
   have hq:=bifT h
   clear h
   obtain ⟨hb,h⟩:=hq
   cases h
   exact t_ldnr hx hb rfl
  ·cases h
 ·cases h
theorem cI2 {bf : BF} {o : BO} {v : PT} {af : AF} (h : valF E H bf o = some (af,v)) : VS P L f E H d bf o af v:=by
 unfold valF at h
 split at h
 ·split at h
  ·rename_i h1; cases h; exact valN_ok h1
  ·cases h
 ·exact valA_ok h
 ·cases h
theorem am3 {o : BO} {bf : BF} {af : AF} {v : PT} (hs : valF E H bf o = some (af,v)) (h : VO P m (accP acc af) r L f ((d,v) :: E) H Φ) : VO P m acc (⟨some d,none,bf,o⟩ :: r) L f E H Φ:=aq7 (cI2 hs) h
theorem bR5 {o : BO} {bf : BF} {af : AF} {v : PT} {t : Nat} {w gb : Bool} {ts : List Nat} (hg : gate E t w = some (ts,gb)) (hb : gb = true → opnB ts E) (hs : valF (opn ts E) H bf o = some (af,v)) (h : VO P m (accP acc af) r L f ((d,.gd ts gb v) :: E) H Φ) : VO P m acc (⟨some d,some (t,w),bf,o⟩ :: r) L f E H Φ:=v_gua hg hb (fun _=>cI2 hs) h
theorem ag6 {l : List BI} (h : VO P m acc l L f E H Φ) : VO P m acc l L f E H Φ:=h
theorem ag7 {c : BC} (h : VC P c L f E H Φ) : VC P c L f E H Φ:=h
omit [Cfg] in
theorem ag4 {x : AX} (h : VG x L f E H Φ) : VG x L f E H Φ:=h
end
open Go.RowKit
theorem andL {a b : Bool} (h : (a && b) = true) : a = true:=(Bool.and_eq_true _ _ ▸ h : a = true ∧ b = true).1
class TaC (t : TypeId) (Z : outParam (List V)) (v : V) (M : outParam (List V)) (b : outParam Bool) : Prop where
 ok : TaV t Z v M b
class TaI (P : Program) (t : TypeId) (zs : outParam (List AV)) (Z : outParam (List V)) : Prop where
 f : TaF P t zs
 z : ab1 Z zs
section
variable [Cfg] {P : Program} {L : Nat} {f : Fr} {E : PE} {H : PH} {Φ : ag1} {m : Option (List (Nat × Nat))} {acc : AAcc} {r : List BI} {d : Nat} {γ : Type} {w : Wit}
theorem t_ta {x : Operand} {it t ty : TypeId} {zs : List AV} {Z M : List V} {v : V} {b : Bool} (hx : od E (af1 x) = some (.c (.v v))) [hc : TaC t Z v M b] [hi : TaI P t zs Z] : VS P L f E H d .none (.gen (.typeAssert x it t true) ty) af0 (.tup [.agg (pv M),.c (.v (.bool b))]):=.mk fun w E' A' h1 _=>by
 obtain ⟨a,k1,k2⟩:=h1.opd hx
 refine (s_ta hi.f hi.z k1 (PT.af8.1 k2) hc.ok).mono fun u hu=>?_
 obtain ⟨cs,rfl,h⟩:=hu
 unfold PT.r PTs
 refine ⟨_,rfl,_,_,rfl,?_,?_⟩
 ·unfold PT.r
  exact ⟨cs,rfl,PCs.of h⟩
 ·unfold PTs
  exact ⟨_,[],rfl,aR0,by unfold PTs; rfl⟩
end
open Go.RowKit
def pinL : PH → PH
 | []=>[]
 | (id,.pin ms args) :: r=>(id,.pin ms args) :: pinL r
 | _ :: r=>pinL r
def cwF (ρ : Nat → Nat) : List PC → List PC → Option (List PC)
 | [],[]=>some []
 | x :: r,y :: r'=>match cwF ρ r r' with
  | some m=>match y with
   | .any=>some (.any :: m)
   | .k j=>match x with
    | .k a=>bif Nat.beq (ρ j) a then some (.k j :: m) else none
    | _=>none
   | .v v=>match x with
    | .k _=>none
    | .nils=>match v with
     | .sl n _=>some (.v (.sl n []) :: m)
     | _=>none
    | x=>some (x :: m)
   | _=>match x with
    | .k _=>none
    | x=>some (x :: m)
  | none=>none
 | _,_=>none
theorem cwF_ok {ρ : Nat → Nat} : ∀ {xs ys zs : List PC},cwF ρ xs ys = some zs → CW ρ xs zs
 | [],[],zs,h=>by cases h; exact .nil
 | [],_ :: _,_,h=>by unfold cwF at h; cases h
 | _ :: _,[],_,h=>by unfold cwF at h; cases h
 | x :: r,y :: r',zs,h=>by
  unfold cwF at h
  split at h
  ·rename_i m hm
   have hr:=cwF_ok hm
   split at h
   ·cases h; exact .any hr
   ·rename_i j
    split at h
    ·rename_i a
     obtain ⟨he,h⟩:=bifT h
     cases h
     have:=CW.same (ρ:=ρ) (x:=.k j) hr
     rw [show PC.ren ρ (.k j) = .k a from congrArg PC.k (Nat.eq_of_beq_eq_true he)] at this
     exact this
    ·cases h
   ·split at h
    ·cases h
    ·split at h
     ·cases h; exact .nil' hr
     ·cases h
    ·rename_i hx _
     cases h
     have:=CW.same (ρ:=ρ) (x:=x) hr
     cases x with
     | k id=>exact absurd rfl (hx id)
     | _=>exact this
   ·split at h
    ·cases h
    ·rename_i hx
     cases h
     have:=CW.same (ρ:=ρ) (x:=x) hr
     cases x with
     | k id=>exact absurd rfl (hx id)
     | _=>exact this
  ·cases h
def bK7 (ρ : Nat → Nat) : PH → PH → Option PH
 | H,[]=>bif (H.all fun q=>!q.2.upb) then some [] else none
 | H,(id,y) :: T=>match y with
  | .own up' ks' tg=>match bL7 60 H (ρ id) tg with
   | some (o,H1,u,K)=>bif (!u || up') && (K.all fun k=>ks'.contains k) then match bK7 ρ H1 T with
    | some T'=>some ((id,.own up' ks' o) :: T')
    | none=>none
    else none
   | none=>none
  | .cel up' ks' dd' _ cs'=>match fnd H (ρ id) with
   | some (i,.cel up ks dd t cs)=>match cwF ρ cs cs' with
    | some cs2=>bif ddW dd dd' && ((!up || up') && (ks.all fun k=>ks'.contains k)) then match bK7 ρ (H.eraseIdx i) T with
     | some T'=>some ((id,.cel up' ks' dd' t cs2) :: T')
     | none=>none
     else none
    | none=>none
   | _=>none
  | .jnk up' ks'=>bif (!(aq3 H).2.1 || up') && ((aq3 H).2.2.all fun k=>ks'.contains k) then match bK7 ρ (aq3 H).1 T with
   | some T'=>some ((id,.jnk up' ks') :: T')
   | none=>none
   else none
  | .pin _ _=>match fnd H (ρ id) with
   | some (i,.pin ms args)=>bif cI3 ρ 0 ms then match bK7 ρ (H.eraseIdx i) T with
    | some T'=>some ((id,.pin ms args) :: T')
    | none=>none
    else none
   | _=>none
theorem aM2 {ρ : Nat → Nat} : ∀ {T H T' : PH},bK7 ρ H T = some T' → Give ρ H T'
 | [],H,T',h=>by
  unfold bK7 at h
  obtain ⟨he,h⟩:=bifT h
  cases h
  exact .nil he
 | (id,y) :: T,H,T',h=>by
  unfold bK7 at h
  split at h
  ·split at h
   ·rename_i h1
    have hq:=bifT h
    clear h
    obtain ⟨he,h⟩:=hq
    simp only [Bool.and_eq_true] at he
    split at h
    ·rename_i h2
     cases h
     exact .own (aL7 _ h1) he.1 he.2 (aM2 h2)
    ·cases h
   ·cases h
  ·split at h
   ·rename_i hf
    split at h
    ·rename_i hc
     have hq:=bifT h
     clear h
     obtain ⟨he,h⟩:=hq
     simp only [Bool.and_eq_true] at he
     split at h
     ·rename_i h2
      cases h
      exact .cel hf (cwF_ok hc) he.1 he.2.1 he.2.2 (aM2 h2)
     ·cases h
    ·cases h
   ·cases h
  ·have hq:=bifT h
   clear h
   obtain ⟨he,h⟩:=hq
   simp only [Bool.and_eq_true] at he
   split at h
   ·rename_i h2
    cases h
    exact .jnk (aB2 H) he.1 he.2 (aM2 h2)
   ·cases h
  ·split at h
   ·rename_i hf
    have hq:=bifT h
    clear h
    obtain ⟨he,h⟩:=hq
    split at h
    ·rename_i h2
     cases h
     exact .pin hf he (aM2 h2)
    ·cases h
   ·cases h
section
variable [Cfg] {P : Program} {L : Nat} {f : Fr} {E : PE} {H : PH} {Φ : ag1} {γ : Type}
omit [Cfg] in
theorem am7 {σ β ρ : Type} {id : Nat} {I : σ → PE} {HI : σ → PH} {Pn : PH} {IB : β → BT → AS → Prop} {IR : ρ → ag1} {s : σ} (hE : subR (cu2 E (I s) H (HI s ++ Pn)) E (I s)) (hH : bK7 (cu2 E (I s) H (HI s ++ Pn)) H (HI s ++ Pn) = some (HI s ++ Pn)) : VG .normal L f E H (bb5 id (fun s=>Inv L f (I s) (HI s ++ Pn)) IB IR (.nxt s)) :=
 .mk fun w E' A' h1 h2 T S hT hS=>⟨rfl,(cf4 (x:=.normal) _ hE (aM2 hH)).ok w E' A' h1 h2 T S hT hS⟩
omit [Cfg] in
theorem am9 {σ β ρ : Type} {id : Nat} {IN : σ → BT → AS → Prop} {B : β → PE} {HB : β → PH} {Pn : PH} {IR : ρ → ag1} {b : β} (hE : subR (cu2 E (B b) H (HB b ++ Pn)) E (B b)) (hH : bK7 (cu2 E (B b) H (HB b ++ Pn)) H (HB b ++ Pn) = some (HB b ++ Pn)) : VG (.exit id) L f E H (bb5 id IN (fun b=>Inv L f (B b) (HB b ++ Pn)) IR (.brk b)) :=
 .mk fun w E' A' h1 h2 T S hT hS=>⟨rfl,(cf4 (x:=.normal) _ hE (aM2 hH)).ok w E' A' h1 h2 T S hT hS⟩
def IRet {β ρ γ : Type} (k : Out β ρ → Option γ) (z : γ) (Φ : ag1) : ρ → ag1:=fun r x T S=>k (.ret r) = some z → Φ x T S
omit [Cfg] in
theorem av5 {σ β ρ : Type} {id : Nat} {IN : σ → BT → AS → Prop} {IB : β → BT → AS → Prop} {r : ρ} {k : Out β ρ → Option γ} {z : γ} (h : k (.ret r) = some z → VG .ret L f E H Φ) : VG .ret L f E H (bb5 id IN IB (IRet k z Φ) (.ret r)) :=
 v_in <| .mk fun w E' A' h1 h2 T S hT hS hk=>(h hk).ok w E' A' h1 h2 T S hT hS
theorem aD2 {σ β ρ : Type} {c : BC} {body : σ → Option (Ctl σ β ρ)} {id : Nat} {k : Out β ρ → Option γ} {z : γ} {s0 : σ} {I : σ → PE} {HI : σ → PH} {B : β → PE} {HB : β → PH} (h : (Loop body s0).bind k = some z) [bf8 body I HI B HB] (hE : subR (cu2 E (I s0) H (HI s0 ++ pinL H)) E (I s0)) (hH : bK7 (cu2 E (I s0) H (HI s0 ++ pinL H)) H (HI s0 ++ pinL H) = some (HI s0 ++ pinL H))
  (hb : ∀ s c',body s = some c' → VC P c L f (I s) (HI s ++ pinL H) (bb5 id (fun s=>Inv L f (I s) (HI s ++ pinL H)) (fun b=>Inv L f (B b) (HB b ++ pinL H)) (IRet k z Φ) c'))
  (hk : ∀ b,k (.brk b) = some z → VG .normal L f (B b) (HB b ++ pinL H) Φ) : VC P (.loop c) L f E H (Blk id Φ):=.mk fun w E' A' h1 h2=>by
 obtain ⟨o,hl,h⟩:=b45 h
 refine g_loop (IN:=fun s=>Inv L f (I s) (HI s ++ pinL H)) (IB:=fun b=>Inv L f (B b) (HB b ++ pinL H)) (IR:=IRet k z Φ) (id:=id) hl (fun s c' hs T S hI=>?_) (fun T S hT hS=>(cf4 (x:=.normal) _ hE (aM2 hH)).ok w E' A' h1 h2 T S hT hS) fun x T S hO=>?_
 ·obtain ⟨w2,E2,A2,q1,q2,q3,q4⟩:=hI
  exact (hb s c' hs).ok w2 E2 A2 q1 q2 T S q3 q4
 ·cases o with
  | brk b =>
   obtain ⟨rfl,w2,E2,A2,q1,q2,q3,q4⟩:=hO
   exact (v_blkH (hk b h)).ok w2 E2 A2 q1 q2 T S q3 q4
  | ret r =>
   obtain ⟨rfl,hO⟩:=hO
   exact hO h
end
open Go.RowKit
theorem eqFb {b : Bool} (h : ¬ b = true) : b = false:=by cases b with
 | true=>exact absurd rfl h
 | false=>rfl
section
variable [Cfg] {P : Program} {L : Nat} {f : Fr} {E : PE} {H : PH} {Φ : ag1} {m : Option (List (Nat × Nat))} {acc : AAcc} {r : List BI} {d : Nat} {γ : Type}
theorem v_gT {o : BO} {bf : BF} {t : Nat} {w gb : Bool} {ts : List Nat} (hg : gate E t w = some (ts,gb)) (hb : gb = true) (hB : gb = true → opnB ts E) (h : VO P m acc (⟨some d,none,bf,o⟩ :: r) L f (opn ts E) H Φ) : VO P m acc (⟨some d,some (t,w),bf,o⟩ :: r) L f E H Φ:=.mk fun w0 E' A' h1 h2=>by
 obtain ⟨u,k1,k2⟩:=cj3 h1 hg
 exact g_guaT k1 (k2.trans hb) (h.ok w0 E' A' (h1.opn (hB hb)) h2)
theorem v_gF {o : BO} {bf : BF} {t : Nat} {w gb : Bool} {ts : List Nat} (hg : gate E t w = some (ts,gb)) (hb : gb = false) (h : VO P m (accP acc af0) r L f ((d,.gd ts gb (.c (.v (.bool false)))) :: E) H Φ) : VO P m acc (⟨some d,some (t,w),bf,o⟩ :: r) L f E H Φ:=.mk fun w0 E' A' h1 h2=>by
 obtain ⟨u,k1,k2⟩:=cj3 h1 hg
 refine g_guaF k1 (k2.trans hb) (h.ok w0 _ A' ⟨_,E',rfl,?_,h1⟩ h2)
 unfold PT.r
 exact ⟨fun e=>(by rw [hb] at e; cases e),fun _=>rfl⟩
theorem v_gsplit {p : Prop} [Decidable p] {x y : Option γ} {z : γ} {o : BO} {bf : BF} {t : Nat} {w : Bool} (h : (if p then x else y) = some z) (h1 : p → x = some z → VO P m acc (⟨some d,some (t,w),bf,o⟩ :: r) L f E H Φ) (h2 : ¬ p → y = some z → VO P m acc (⟨some d,some (t,w),bf,o⟩ :: r) L f E H Φ) : VO P m acc (⟨some d,some (t,w),bf,o⟩ :: r) L f E H Φ:=by
 by_cases hp : p
 ·rw [if_pos hp] at h
  exact h1 hp h
 ·rw [if_neg hp] at h
  exact h2 hp h
end
open Go.RowKit
def nilG (E : PE) (HI : PH) : PE → Option (Nat × Nat × Option TypeId)
 | []=>none
 | (t,x) :: r=>match x with
  | .c y=>match y with
   | .k j=>match lk E t with
    | some (.c .nils)=>match fnd HI j with
     | some (_,.own _ _ (.gs n e _))=>some (t,n,some e)
     | _=>nilG E HI r
    | _=>nilG E HI r
   | .v (.sl n _)=>match lk E t with
    | some (.c .nils)=>some (t,n,none)
    | _=>nilG E HI r
   | _=>nilG E HI r
  | _=>nilG E HI r
section
variable [Cfg] {P : Program} {L : Nat} {f : Fr} {E : PE} {H : PH} {Φ : ag1} {m : Option (List (Nat × Nat))} {acc : AAcc} {r : List BI} {d : Nat} {γ : Type}
theorem t_ncV {α : Type} {x : X} {c : α → List V} {e : Option α} {el : α} (he : e = some el) (hx : od E x = some (.c (.v (vref c e)))) : VS P L f E H d .none (.nc x) af0 (.ref (c el)):=.mk fun w E' A' h1 _=>by
 obtain ⟨a,k1,k2⟩:=h1.opd hx
 refine (s_ncR k1 (PT.af8.1 k2) he).mono fun u hu=>?_
 obtain ⟨zs,rfl,h⟩:=hu
 unfold PT.r
 exact ⟨zs,rfl,h⟩
omit [Cfg] in
theorem b04 {t : Nat} {E' : Env} {T : BT} {a : AV} (k1 : look E' t = some a) (hT : Ag E' T) : Ag ((t,a) :: E') T:=fun t' u ht=>by
 rw [aR6] at ht
 split at ht
 ·rename_i e
  cases ht
  rw [← e]
  exact hT t a k1
 ·exact hT t' u ht
omit [Cfg] in
theorem cn4 {t n : Nat} {e : TypeId} {id : Nat} (hs : lk E t = some (.c .nils)) (hb : (bndE id E && bndH id H) = true) {w : Wit} {E' : Env} {A' : List It} (h1 : EnvR w E E') (h2 : HR w L H A') {T : BT} {S : AS} (hT : Ag E' T) (hS : StA S L f A') : ∃ w2 E2 A2,EnvR w2 ((t,.c (.k id)) :: E) E2 ∧ HR w2 L ((id,.own false [] (.gs n e [])) :: H) A2 ∧ Ag E2 T ∧ StA S L f A2:=by
 simp only [Bool.and_eq_true] at hb
 obtain ⟨a,k1,k2⟩:=h1.look hs
 have k2 : a = .lit (.slice none 0 0):=PT.af8.1 k2
 obtain ⟨A2,hA2,hS2⟩:=Mv.addN (ks:=[]) (n:=n) (e:=e) (a:=a) ⟨none,k2⟩ _ hS
 subst hA2
 exact ⟨updW w id a,(t,a) :: E',_,⟨a,E',rfl,PT.af8.2 (as3 w id a).symm,h1.ag (ar4 _ _ _) hb.1⟩,⟨_,A',rfl,⟨[],by rw [as3]⟩,h2.ag (ar4 _ _ _) hb.2⟩,b04 k1 hT,hS2⟩
omit [Cfg] in
theorem inv_nilV {t n : Nat} (hs : lk E t = some (.c .nils)) {w : Wit} {E' : Env} (h1 : EnvR w E E') {T : BT} (hT : Ag E' T) : ∃ E2,EnvR w ((t,.c (.v (.sl n []))) :: E) E2 ∧ Ag E2 T:=by
 obtain ⟨a,k1,k2⟩:=h1.look hs
 have k2 : a = .lit (.slice none 0 0):=PT.af8.1 k2
 exact ⟨(t,a) :: E',⟨a,E',rfl,PT.af8.2 (by rw [k2]; exact RelC.nil _ _),h1⟩,b04 k1 hT⟩
omit [Cfg] in
theorem cJ3 {x : AX} {t n : Nat} {e : TypeId} (id : Nat) (hs : lk E t = some (.c .nils)) (hb : (bndE id E && bndH id H) = true) (h : VG x L f ((t,.c (.k id)) :: E) ((id,.own false [] (.gs n e [])) :: H) Φ) : VG x L f E H Φ:=.mk fun w E' A' h1 h2 T S hT hS=>by
 obtain ⟨w2,E2,A2,q1,q2,q3,q4⟩:=cn4 (n:=n) (e:=e) hs hb h1 h2 hT hS
 exact h.ok w2 E2 A2 q1 q2 T S q3 q4
omit [Cfg] in
theorem cB6 {x : AX} {t n : Nat} (hs : lk E t = some (.c .nils)) (h : VG x L f ((t,.c (.v (.sl n []))) :: E) H Φ) : VG x L f E H Φ:=.mk fun w E' A' h1 h2 T S hT hS=>by
 obtain ⟨E2,q1,q2⟩:=inv_nilV (n:=n) hs h1 hT
 exact h.ok w E2 A' q1 h2 T S q2 hS
theorem vc_nilK {c : BC} {t n : Nat} {e : TypeId} (id : Nat) (hs : lk E t = some (.c .nils)) (hb : (bndE id E && bndH id H) = true) (h : VC P c L f ((t,.c (.k id)) :: E) ((id,.own false [] (.gs n e [])) :: H) Φ) : VC P c L f E H Φ:=.mk fun w E' A' h1 h2 T S hT hS=>by
 obtain ⟨w2,E2,A2,q1,q2,q3,q4⟩:=cn4 (n:=n) (e:=e) hs hb h1 h2 hT hS
 exact h.ok w2 E2 A2 q1 q2 T S q3 q4
omit [Cfg] in
theorem an0 {σ β ρ : Type} {id t n : Nat} {e : TypeId} {I : σ → PE} {HI : σ → PH} {Pn : PH} {IB : β → BT → AS → Prop} {IR : ρ → ag1} {s : σ} (_hq : nilG E (HI s ++ Pn) (I s) = some (t,n,some e)) (hs : lk E t = some (.c .nils)) (hb : (bndE (9000000 + t) E && bndH (9000000 + t) H) = true)
  (h : VG .normal L f ((t,.c (.k (9000000 + t))) :: E) ((9000000 + t,.own false [] (.gs n e [])) :: H) (bb5 id (fun s=>Inv L f (I s) (HI s ++ Pn)) IB IR (.nxt s))) : VG .normal L f E H (bb5 id (fun s=>Inv L f (I s) (HI s ++ Pn)) IB IR (.nxt s)):=cJ3 _ hs hb h
omit [Cfg] in
theorem an1 {σ β ρ : Type} {id t n : Nat} {I : σ → PE} {HI : σ → PH} {Pn : PH} {IB : β → BT → AS → Prop} {IR : ρ → ag1} {s : σ} (_hq : nilG E (HI s ++ Pn) (I s) = some (t,n,none)) (hs : lk E t = some (.c .nils))
  (h : VG .normal L f ((t,.c (.v (.sl n []))) :: E) H (bb5 id (fun s=>Inv L f (I s) (HI s ++ Pn)) IB IR (.nxt s))) : VG .normal L f E H (bb5 id (fun s=>Inv L f (I s) (HI s ++ Pn)) IB IR (.nxt s)):=cB6 hs h
omit [Cfg] in
theorem an2 {σ β ρ : Type} {id t n : Nat} {e : TypeId} {IN : σ → BT → AS → Prop} {B : β → PE} {HB : β → PH} {Pn : PH} {IR : ρ → ag1} {b : β} (_hq : nilG E (HB b ++ Pn) (B b) = some (t,n,some e)) (hs : lk E t = some (.c .nils)) (hb : (bndE (9000000 + t) E && bndH (9000000 + t) H) = true)
  (h : VG (.exit id) L f ((t,.c (.k (9000000 + t))) :: E) ((9000000 + t,.own false [] (.gs n e [])) :: H) (bb5 id IN (fun b=>Inv L f (B b) (HB b ++ Pn)) IR (.brk b))) : VG (.exit id) L f E H (bb5 id IN (fun b=>Inv L f (B b) (HB b ++ Pn)) IR (.brk b)):=cJ3 _ hs hb h
omit [Cfg] in
theorem am8 {σ β ρ : Type} {id t n : Nat} {IN : σ → BT → AS → Prop} {B : β → PE} {HB : β → PH} {Pn : PH} {IR : ρ → ag1} {b : β} (_hq : nilG E (HB b ++ Pn) (B b) = some (t,n,none)) (hs : lk E t = some (.c .nils))
  (h : VG (.exit id) L f ((t,.c (.v (.sl n []))) :: E) H (bb5 id IN (fun b=>Inv L f (B b) (HB b ++ Pn)) IR (.brk b))) : VG (.exit id) L f E H (bb5 id IN (fun b=>Inv L f (B b) (HB b ++ Pn)) IR (.brk b)):=cB6 hs h
theorem cd9 {σ β ρ : Type} {c : BC} {body : σ → Option (Ctl σ β ρ)} {k : Out β ρ → Option γ} {z : γ} {s0 : σ} {I : σ → PE} {HI : σ → PH} {B : β → PE} {HB : β → PH} {t n : Nat} {e : TypeId} (_h : (Loop body s0).bind k = some z) [bf8 body I HI B HB] (_hq : nilG E (HI s0 ++ pinL H) (I s0) = some (t,n,some e)) (hs : lk E t = some (.c .nils)) (hb : (bndE (9000000 + t) E && bndH (9000000 + t) H) = true)
  (h : VC P (.loop c) L f ((t,.c (.k (9000000 + t))) :: E) ((9000000 + t,.own false [] (.gs n e [])) :: H) Φ) : VC P (.loop c) L f E H Φ:=vc_nilK _ hs hb h
end
open Go.RowKit
section
variable [Cfg] {P : Program} {L : Nat} {f : Fr} {E : PE} {H : PH} {Φ : ag1} {m : Option (List (Nat × Nat))} {acc : AAcc} {r : List BI} {d : Nat} {γ : Type}
class MiC (t : TypeId) (M : List V) (v : outParam V) : Prop where
 eq : V.ifc t true M = v
theorem t_miK {α : Type} {x : X} {t : TypeId} {id i n : Nat} {up : Bool} {ks : List Nat} {e : TypeId} {c : α → List V} {es : List α} {v : V} (hx : od E x = some (.agg [.k id])) (hH : fnd H id = some (i,.own up ks (.gs n e (es.map c)))) [hm : MiC t [.sl n (es.map c)] v] : VS P L f E H d .none (.mi t x) af0 (.c (.v v)):=.mk fun w E' A' h1 h2 T S hT hS=>by
 obtain ⟨a,k1,k2⟩:=h1.opd hx
 unfold PT.r at k2
 obtain ⟨ys,rfl,b,t',rfl,k3,k4⟩:=k2
 cases k4
 have k3 : b = w id:=k3
 subst k3
 exact ((s_miN k1 (M:=[.sl n (es.map c)]) (v:=v) (by unfold ab1; exact ⟨_,[],rfl,RelA.nrm (ownA h2 hS hH),by unfold ab1; rfl⟩) hm.eq).mono fun u hu=>(PT.af8 (w:=w) (x:=.v v)).2 hu) T S hT hS
class ExpM (M : List V) (M' : outParam (List V)) : Prop where
 eq : M = M'
def adrX : BO → Option X
 | .ld1 x=>some x
 | .ldn _ x=>some x
 | .fa _ x=>some x
 | _=>none
theorem cF7 {t : Nat} {M M' : List V} {o : BO} {dd : Option Nat} {g : Option (Nat × Bool)} {bf : BF} (_ha : adrX o = some (.t t)) (hx : lk E t = some (.ref M)) [he : ExpM M M'] (k : VO P m acc (⟨dd,g,bf,o⟩ :: r) L f ((t,.ref M') :: E) H Φ) : VO P m acc (⟨dd,g,bf,o⟩ :: r) L f E H Φ:=.mk fun w E' A' h1 h2 c T S hc hT hS=>by
 obtain ⟨a,k1,k2⟩:=h1.look hx
 rw [he.eq] at k2
 exact k.ok w ((t,a) :: E') A' ⟨a,E',rfl,k2,h1⟩ h2 c T S hc (b04 k1 hT) hS
end
open Go.RowKit
class IntL (k : IntKind) (es : List (List V)) (l : outParam (List Int)) : Prop where
 eq : es = l.map (aD9 k)
instance {k : IntKind} : IntL k [] []:=⟨rfl⟩
instance {k : IntKind} {l : List Int} : IntL k (l.map (aD9 k)) l:=⟨rfl⟩
instance {k : IntKind} {a : Int} {es : List (List V)} {l : List Int} [h : IntL k es l] : IntL k ([V.int k a] :: es) (a :: l):=⟨by rw [h.eq]; rfl⟩
def a4c (k : IntKind) (a : A4) : List PC:=[.v (.int k a.x0),.v (.int k a.x1),.v (.int k a.x2),.v (.int k a.x3)]
theorem a4_dec {cs : List PC} {o : Nat} {c0 c1 c2 c3 : PC} (h0 : cs[o]? = some c0) (h1 : cs[o + 1]? = some c1) (h2 : cs[o + 2]? = some c2) (h3 : cs[o + 3]? = some c3) : cs = cs.take o ++ (c0 :: c1 :: c2 :: c3 :: cs.drop (o + 4)):=by
 have g : ∀ {i : Nat} {c : PC},cs[i]? = some c → cs.drop i = c :: cs.drop (i + 1):=fun {i c} h=>by
  obtain ⟨hl,he⟩:=List.getElem?_eq_some_iff.1 h
  rw [List.drop_eq_getElem_cons hl,he]
 rw [show o + 4 = o + 3 + 1 from rfl,← g h3,show o + 3 = o + 2 + 1 from rfl,← g h2,show o + 2 = o + 1 + 1 from rfl,← g h1,← g h0,List.take_append_drop]
theorem a4_spl {cs : List PC} {o : Nat} {k : IntKind} {x0 x1 x2 x3 z j : Int} {u : Unit} (h0 : cs[o]? = some (.v (.int k x0))) (h1 : cs[o + 1]? = some (.v (.int k x1))) (h2 : cs[o + 2]? = some (.v (.int k x2))) (h3 : cs[o + 3]? = some (.v (.int k x3))) (hj : G.chk 4 j = some u) : at1 cs (o + j.toNat * 1) [.v (.int k z)] = at1 cs o (a4c k (A4.set ⟨x0,x1,x2,x3⟩ j z)):=by
 have hd:=a4_dec h0 h1 h2 h3
 have hl : (cs.take o).length = o:=by
  obtain ⟨hl,_⟩:=List.getElem?_eq_some_iff.1 h0
  rw [List.length_take]; omega
 generalize cs.take o = A at hd hl
 generalize cs.drop (o + 4) = B at hd
 subst hd
 subst hl
 refine A4.cases (P:=fun j=>at1 (A ++ (PC.v (.int k x0) :: .v (.int k x1) :: .v (.int k x2) :: .v (.int k x3) :: B)) (A.length + j.toNat * 1) [.v (.int k z)] = at1 (A ++ (PC.v (.int k x0) :: .v (.int k x1) :: .v (.int k x2) :: .v (.int k x3) :: B)) A.length (a4c k (A4.set ⟨x0,x1,x2,x3⟩ j z))) ?_ ?_ ?_ ?_ hj <;>
  (unfold at1; simp [a4c,A4.set,List.take_append,List.drop_append,List.take_of_length_le,List.drop_of_length_le]; try (rw [List.drop_eq_nil_of_le (by omega),List.nil_append]; simp only [Nat.add_assoc,Nat.add_sub_cancel_left]; rfl))
section
variable [Cfg] {P : Program} {L : Nat} {f : Fr} {E : PE} {H : PH} {Φ : ag1} {m : Option (List (Nat × Nat))} {acc : AAcc} {r : List BI} {d : Nat} {γ : Type}
theorem t_iaa {len n : Nat} {x i : X} {id o : Nat} {k : IntKind} {j : Int} {u : Unit} (hj : G.chk len j = some u) (hx : od E x = some (.loc id o)) (hi : od E i = some (.c (.v (.int k j)))) : VS P L f E H d .none (.iaa len n x i) af0 (.loc id (o + j.toNat * n)):=.mk fun w E' A' h1 _=>by
 obtain ⟨p,g,k1,k2⟩:=bO1 h1 hx
 exact (s_iaa k2 (az3 h1 hi) hj).mono fun v hv=>by subst hv; unfold PT.r; exact ⟨p,g,k1,rfl⟩
theorem t_ldA {x : X} {id o i : Nat} {up : Bool} {ks : List Nat} {dd : Option Nat} {t : TypeId} {cs : List PC} {k : IntKind} {x0 x1 x2 x3 j : Int} {u : Unit} (hx : od E x = some (.loc id (o + j.toNat * 1))) (hH : fnd H id = some (i,.cel up ks dd t cs)) (h0 : cs[o]? = some (.v (.int k x0))) (h1 : cs[o + 1]? = some (.v (.int k x1))) (h2 : cs[o + 2]? = some (.v (.int k x2))) (h3 : cs[o + 3]? = some (.v (.int k x3))) (hj : G.chk 4 j = some u) : VS P L f E H d (.at x) (.ld1 x) (ldF dd ks) (.c (.v (.int k (A4.get ⟨x0,x1,x2,x3⟩ j)))) :=
 t_ld hx hH (c:=.v (.int k (A4.get ⟨x0,x1,x2,x3⟩ j))) (A4.cases (P:=fun j=>cs[o + j.toNat * 1]? = some (.v (.int k (A4.get ⟨x0,x1,x2,x3⟩ j)))) h0 h1 h2 h3 hj)
theorem v_stA {x v : X} {id o i : Nat} {up : Bool} {ks : List Nat} {dd : Option Nat} {t : TypeId} {cs : List PC} {k : IntKind} {x0 x1 x2 x3 z j : Int} {u : Unit} (hx : od E x = some (.loc id (o + j.toNat * 1))) (hv : od E v = some (.c (.v (.int k z)))) (hH : fnd H id = some (i,.cel up ks dd t cs)) (h0 : cs[o]? = some (.v (.int k x0))) (h1 : cs[o + 1]? = some (.v (.int k x1))) (h2 : cs[o + 2]? = some (.v (.int k x2))) (h3 : cs[o + 3]? = some (.v (.int k x3))) (hj : G.chk 4 j = some u)
  (h : VO P m (accP acc (match dd with | some k=>(some [k],some [k]) | none=>(some (0 :: ks),some (0 :: ks)))) r L f E (H.set i (id,.cel up ks dd t (at1 cs o (a4c k (A4.set ⟨x0,x1,x2,x3⟩ j z))))) Φ) (hro : f.ro = false ∨ up = false:=by first | exact .inl rfl | exact .inr rfl) : VO P m acc (⟨none,none,.at x,.st 1 x v⟩ :: r) L f E H Φ:=by
 have hle : Nat.ble (o + j.toNat * 1 + 1) cs.length = true:=A4.cases (P:=fun j=>Nat.ble (o + j.toNat * 1 + 1) cs.length = true)
  (Nat.ble_eq_true_of_le (List.getElem?_eq_some_iff.1 h0).1) (Nat.ble_eq_true_of_le (List.getElem?_eq_some_iff.1 h1).1) (Nat.ble_eq_true_of_le (List.getElem?_eq_some_iff.1 h2).1) (Nat.ble_eq_true_of_le (List.getElem?_eq_some_iff.1 h3).1) hj
 rw [← a4_spl h0 h1 h2 h3 hj] at h
 exact v_st hx hv rfl hH rfl rfl hle h hro
end
open Go.RowKit
def Rd (S : AS) (n : Nat) (e : TypeId) (es : List (List V)) (a : AV) : Prop :=
 (∃ sp ys,a = .list sp n ys ∧ ab8 es ys) ∨ ∃ q h ys zs sp,a = .row sp q h (ys.length + zs.length) 0 ys.length n ∧ ab8 es ys ∧ (∀ y ∈ es,y.length = n) ∧ (∀ z ∈ zs,z.length = n) ∧ S.get q = some (.row h (ys.length + zs.length) n e (ys ++ zs).flatten)
theorem bE0 {n : Nat} : ∀ {ys : List (List AV)} {zs : List AV},(∀ y ∈ ys,y.length = n) → chunks n ys.length (ys.flatten ++ zs) = ys
 | [],_,_=>rfl
 | y :: r,zs,h=>by
  have hy:=h y (List.mem_cons_self ..)
  rw [List.length_cons,List.flatten_cons,List.append_assoc]
  unfold chunks
  rw [List.take_left' hy,List.drop_left' hy,bE0 fun z hz=>h z (List.mem_cons_of_mem _ hz)]
theorem Rd.elems {S : AS} {n : Nat} {e : TypeId} {es : List (List V)} {a : AV} (h : Rd S n e es a) : ∃ ys,al2 S n a = some ys ∧ ab8 es ys:=by
 rcases h with ⟨sp,ys,rfl,h⟩ | ⟨q,k,ys,zs,sp,rfl,h,hl,hz,hq⟩
 ·exact ⟨ys,aK4 n sp ys,h⟩
 ·have hy:=h.lens hl
  have hyz : ∀ z ∈ ys ++ zs,z.length = n:=fun z hz'=>(List.mem_append.1 hz').elim (hy z) (hz z)
  refine ⟨ys,?_,h⟩
  unfold al2 AS.ai0
  simp only [hq,and_self,if_true]
  rw [if_pos ⟨trivial,by rw [bp9 hyz,List.length_append,Nat.zero_add]; exact Nat.mul_le_mul_right n (by omega)⟩,List.drop_zero,List.flatten_append,bE0 hy]
theorem Rd.nrm {S : AS} {n : Nat} {e : TypeId} {es : List (List V)} {a : AV} (h : Rd S n e es a) : Rd S n e es a.ac1:=by
 rcases h with ⟨sp,ys,rfl,h⟩ | ⟨q,k,ys,zs,sp,rfl,h⟩
 ·exact .inl ⟨_,_,rfl,h⟩
 ·exact .inr ⟨q,k,ys,zs,_,rfl,h⟩
theorem Rd.mono {S S' : AS} {n : Nat} {e : TypeId} {es : List (List V)} {a : AV} (h : Rd S n e es a) (hq : ∀ q s,S.get q = some s → S'.get q = some s) : Rd S' n e es a:=by
 rcases h with h | ⟨q,k,ys,zs,sp,h1,h2,h3,h4,h5⟩
 ·exact .inl h
 ·exact .inr ⟨q,k,ys,zs,sp,h1,h2,h3,h4,hq _ _ h5⟩
section
variable [Cfg] {P : Program}
theorem aop_nilR {S : AS} {ρ : Operand → AV} {d : Option Tmp} {x y : Operand} {t e yt ty : TypeId} {pos : String} {aft : Array Edge} {g : Option (Nat × Bool)} {n : Nat} {e0 : TypeId} {es : List (List V)} {a : AV} (hu : P.underlying t = some (.slice e)) (hx : ρ x = a) (ha : Rd S n e0 es a) (hy : ρ y = .lit (.slice none 0 0)) :
  aop P S ρ ⟨d,.binOp .eql t x y yt,ty,pos,aft,g⟩ = some (.val (.lit (.bool false))):=by
 rcases ha with ⟨sp,ys,rfl,_⟩ | ⟨q,k,ys,zs,sp,rfl,_⟩ <;> simp only [aop,hx,hy,acmp,ax7,hu,aM4,if_true,Option.map_some,an7]
theorem bO8 {f : FuncId} {e n by' t tb : Nat} (hl : ∀ d,Cfg.live f d = true) (hu : P.underlying t = some (.slice e)) (hb : by' ≤ 100000) {S : AS} {a : AV} {es : List (List V)} (ha : Rd S n e es a) (hne : es ≠ []) (hlen : es.length ≤ 1000000000) (hq0 : ∀ q,(∃ sp h N o l,a = .row sp q h N o l n) → q.l ≤ S.lvl) :
  ∃ ys T',ab8 es ys ∧ an3 P (a15 e n by' t tb).code (aC5 [a]) (S.enter f) = some (.ret,T',((S.enter f).set ⟨S.lvl + 1,5,0⟩ (.row ((S.enter f).fresh ⟨S.lvl + 1,5,0⟩) 0 n e [])).set ⟨S.lvl + 1,5,0⟩ (.row ((S.enter f).fresh ⟨S.lvl + 1,5,0⟩) ys.length n e ys.flatten)) ∧
   T' 2 = .row .room ⟨S.lvl + 1,5,0⟩ ((S.enter f).fresh ⟨S.lvl + 1,5,0⟩) ys.length 0 ys.length n:=by
 obtain ⟨ys,h1,h2⟩:=ha.elems
 have hyl : ys.length = es.length:=h2.length
 have hpos : 0 < ys.length:=by rw [hyl]; exact List.length_pos_iff.2 hne
 have hone:=bi2 h2
 let S0:=S.enter f
 let p : Loc:=⟨S.lvl + 1,5,0⟩
 let T1 : BT:=(aC5 [a]).put (some 2) (.lit (.slice none 0 0))
 let T2 : BT:=(T1.put (some 3) a).put (some 4) (.lit (.bool false))
 let T3 : BT:=(T2.put (some 5) (.row .room p (S0.fresh p) 0 0 0 n)).put (some 6) a
 let T4 : BT:=(T3.put (some 7) (.row .room p (S0.fresh p) ys.length 0 ys.length n)).put (some 2) (.row .room p (S0.fresh p) ys.length 0 ys.length n)
 let S1:=S0.set p (.row (S0.fresh p) 0 n e [])
 have hS1 : S1.get p = some (.row (S0.fresh p) 0 n e []):=AS.get_set_same ..
 have hRd : al2 S1 n a = some ys:=by
  have hne' : ∀ q s,S.get q = some s → q ≠ p → S1.get q = some s:=fun q s hq hne=>(AS.ad6 _ _ hne).trans hq
  rcases ha with ⟨sp,zs,rfl,_⟩ | ⟨q,k,zs,ws,sp,rfl,_,_,_,hq⟩
  ·exact h1
  ·have hqp : q ≠ p:=fun e=>by
    have:=hq0 q ⟨_,_,_,_,_,rfl⟩
    rw [e] at this
    simp only [p] at this
    omega
   have hc : ∀ N,S1.ai0 q k N = S.ai0 q k N:=fun N=>by unfold AS.ai0; rw [hne' q _ hq hqp,hq]
   rw [← h1]
   simp only [al2,hc]
 have hop4 : bop P S0 (T1.put (some 3) a) (some 4) (.gen (.binOp .eql t (.tmp 3) (.const (.slice none 0 0)) t) tb) = some (.val (.lit (.bool false))):=by
  refine aop_nilR hu (a:=a) rfl (ha.mono (S':=S0) fun q s h=>h) rfl
 have hop5 : bop P S0 T2 (some 5) (.bsl e n []) = some (.chg (.row .room p (S0.fresh p) 0 0 0 n) p (.row (S0.fresh p) 0 n e [])):=by
  simp only [bop,List.all_nil,and_self,if_true]
  rw [if_pos (show Cfg.live S0.fn 5 = true from hl 5)]
  rfl
 have hop7 : bop P S1 T3 (some 7) (.ap e n by' (.t 5) (.t 6)) = some (.chg (.row .room p (S0.fresh p) (0 + ys.length) 0 (0 + ys.length) n) p (.row (S0.fresh p) (0 + ys.length) n e ([] ++ ys.flatten))):=by
  have e5 : X.at T3 (.t 5) = .row .room p (S0.fresh p) 0 0 0 n:=rfl
  have e6 : X.at T3 (.t 6) = a:=rfl
  simp only [bop,e5,e6,hRd]
  unfold appB
  rw [if_pos hone,if_neg (by omega)]
  simp only [hS1]
  rw [if_pos ⟨trivial,trivial,trivial,trivial,trivial,trivial,by simp⟩,if_neg (by omega)]
  have hbig:=b80 hb (show 0 + ys.length ≤ 1000000000 by omega)
  rw [if_pos ⟨trivial,hbig⟩]
 refine ⟨ys,T4,h2,?_,rfl⟩
 have g2 : T2 4 = .lit (.bool false):=rfl
 unfold a15
 simp only [aq1,aC4]
 rw [b_mv,cj4,aw4,aq6,aq1,aq1,aC4,b_mv,af5]
 rw [show bop P (S.enter f) (((aC5 [a]).put (some 2) (X.at (aC5 [a]) (.c (.lit (.slice none 0 0))))).put (some 3) (X.at ((aC5 [a]).put (some 2) (X.at (aC5 [a]) (.c (.lit (.slice none 0 0))))) (.t 0))) (some 4) (.gen (.binOp .eql t (.tmp 3) (.const (.slice none 0 0)) t) tb) = some (.val (.lit (.bool false))) from hop4]
 rw [bo4,cj4,aw4,aq6,bQ0]
 change seqB _ (an3 P .skip T2 S0) = _
 rw [bs4,aq6,aq1,aC4,af5]
 rw [show bop P S0 T2 (some 5) (.bsl e n []) = _ from hop5]
 rw [show (BO.bsl e n []).w = true from rfl,bq5,b_mv,af5]
 have hop7' : bop P (S0.set p (.row (S0.fresh p) 0 n e [])) ((T2.put (some 5) (.row .room p (S0.fresh p) 0 0 0 n)).put (some 6) (X.at (T2.put (some 5) (.row .room p (S0.fresh p) 0 0 0 n)) (.t 0))) (some 7) (.ap e n by' (.t 5) (.t 6)) = _:=hop7
 rw [hop7',show (BO.ap e n by' (.t 5) (.t 6)).w = true from rfl,bq5,b_mv,cj4,aw4,aq6,bC9]
 simp only [Nat.zero_add,List.nil_append]
 rfl
theorem cD4 {f : FuncId} {e n by' t tb : Nat} (hg : Cfg.given f = none) (hf : ak2 P f = some (a15 e n by' t tb)) (hl : ∀ d,Cfg.live f d = true) (hu : P.underlying t = some (.slice e)) (hb : by' ≤ 100000) {S : AS} {a : AV} {es : List (List V)} (hup : Cfg.up f S.fn = false) (ha : Rd S n e es a) (hne : es ≠ []) (hlen : es.length ≤ 1000000000) (hn : ∀ y ∈ es,y.length = n)
  (hq0 : ∀ q,(∃ sp h N o l,a = .row sp q h N o l n) → q.l ≤ S.lvl) : ∃ v,ah6 P f [a] S = some (.ret v,none) ∧ RelC (.sl n es) v:=by
 have ha' : Rd S n e es a.ac1:=ha.nrm
 have hq0' : ∀ q,(∃ sp h N o l,a.ac1 = .row sp q h N o l n) → q.l ≤ S.lvl:=fun q ⟨sp,h,N,o,l,e1⟩=>by
  rcases ha with ⟨sp,ys,rfl,_⟩ | ⟨q1,k,ys,zs,sp1,rfl,_⟩
  ·cases e1
  ·exact hq0 q ⟨sp,h,N,o,l,e1⟩
 obtain ⟨ys,T',h1,h2,h3⟩:=bO8 (P:=P) (f:=f) (tb:=tb) hl hu hb ha' hne hlen hq0'
 have hcl : AV.ah3 ys = true:=h1.closed
 refine ⟨.list .no n ys,?_,?_⟩
 ·refine a97 hg hf (show [a].length ≤ 8 by simp) ?_
  rw [show aE8 f S.fn [a] = [a.ac1] from rfl,h2,bo6 rfl]
  have hfr : frz S.lvl (((S.enter f).set ⟨S.lvl + 1,5,0⟩ (.row ((S.enter f).fresh ⟨S.lvl + 1,5,0⟩) 0 n e [])).set ⟨S.lvl + 1,5,0⟩ (.row ((S.enter f).fresh ⟨S.lvl + 1,5,0⟩) ys.length n e ys.flatten)) 100000 (.row .room ⟨S.lvl + 1,5,0⟩ ((S.enter f).fresh ⟨S.lvl + 1,5,0⟩) ys.length 0 ys.length n) = some (.list .no n ys):=by
   have hlv : AV.lv S.lvl (.row .room ⟨S.lvl + 1,5,0⟩ ((S.enter f).fresh ⟨S.lvl + 1,5,0⟩) ys.length 0 ys.length n) = false:=by simp [AV.lv]
   have hyn:=h1.lens hn
   unfold frz
   rw [hlv]
   simp only [al2,AS.ai0,AS.get_set_same,and_self,if_true]
   rw [if_neg (by simp),if_pos ⟨trivial,by rw [bp9 hyn,Nat.zero_add]; exact Nat.le_refl _⟩,List.drop_zero,show ys.flatten = ys.flatten ++ [] by simp,bE0 hyn]
   have hne2 : ys ≠ []:=fun e=>by subst e; unfold ab8 at h1; cases es with | nil=>exact hne rfl | cons _ _=>obtain ⟨_,_,h,_⟩:=h1; cases h
   simp only
   cases ys with
   | nil=>exact absurd rfl hne2
   | cons y r =>
    unfold br5
    rw [if_pos (aK7 hcl _)]
    rfl
  have hout : (((S.enter f).set ⟨S.lvl + 1,5,0⟩ (.row ((S.enter f).fresh ⟨S.lvl + 1,5,0⟩) 0 n e [])).set ⟨S.lvl + 1,5,0⟩ (.row ((S.enter f).fresh ⟨S.lvl + 1,5,0⟩) ys.length n e ys.flatten)).outs S.lvl = []:=by
   refine List.eq_nil_iff_forall_not_mem.2 fun r hr=>?_
   obtain ⟨q1,q2⟩:=aw0.1 hr
   rcases ae5.1 q1 with q1 | rfl
   ·rcases ae5.1 q1 with q1 | rfl
    ·cases q1
    ·simp only at q2; omega
   ·simp only at q2; omega
  have hb2 : ∀ S2 : AS,az2 S2 T' (a15 e n by' t tb).res = some [T' 2]:=fun _=>rfl
  rw [hb2,h3]
  unfold bret
  simp only [show ao0 [AV.row .room ⟨S.lvl + 1,5,0⟩ ((S.enter f).fresh ⟨S.lvl + 1,5,0⟩) ys.length 0 ys.length n] = AV.row .room ⟨S.lvl + 1,5,0⟩ ((S.enter f).fresh ⟨S.lvl + 1,5,0⟩) ys.length 0 ys.length n from rfl]
  unfold ak3
  simp only [hup,hout,hfr]
  rfl
 ·unfold RelC
  exact .inr ⟨.no,ys,rfl,rfl,h1⟩
theorem cm2 {f : FuncId} {e n by' t tb : Nat} (hg : Cfg.given f = none) (hf : ak2 P f = some (a15 e n by' t tb)) (hl : ∀ d,Cfg.live f d = true) (hu : P.underlying t = some (.slice e)) (hb : by' ≤ 100000) {S : AS} {a : AV} {es : List (List V)} (hup : Cfg.up f S.fn = true) (ha : Rd S n e es a) (hne : es ≠ []) (hlen : es.length ≤ 1000000000) (hn : ∀ y ∈ es,y.length = n)
  (hq0 : ∀ q,(∃ sp h N o l,a = .row sp q h N o l n) → q.l ≤ S.lvl) : ∃ v u F2 J,ah6 P f [a] S = some (.ret v,u) ∧ ResO (S.after u) [.o (.rw true n e es)] v F2 ∧ av7 (S.after u) J ∧ Left S u [] ([] ++ (F2 ++ J)):=by
 have ha' : Rd S n e es a.ac1:=ha.nrm
 have hq0' : ∀ q,(∃ sp h N o l,a.ac1 = .row sp q h N o l n) → q.l ≤ S.lvl:=fun q ⟨sp,h,N,o,l,e1⟩=>by
  rcases ha with ⟨sp,ys,rfl,_⟩ | ⟨q1,k,ys,zs,sp1,rfl,_⟩
  ·cases e1
  ·exact hq0 q ⟨sp,h,N,o,l,e1⟩
 obtain ⟨ys,T',h1,h2,h3⟩:=bO8 (P:=P) (f:=f) (tb:=tb) hl hu hb ha' hne hlen hq0'
 have hb2 : ∀ S2 : AS,az2 S2 T' (a15 e n by' t tb).res = some [T' 2]:=fun _=>rfl
 have hyn:=h1.lens hn
 obtain ⟨v,u,F1',F2',J',q1,q2,q3,q4,q5⟩:=bV9 (f:=f) (S:=S) (ins:=[]) (outs:=[]) (args:=[]) (W:=[]) (F1:=[]) (F2:=[⟨S.lvl + 1,5,0⟩]) (J:=[]) (res:=[.o (.rw true n e es)]) (as1:=[T' 2])
  (S':=((S.enter f).set ⟨S.lvl + 1,5,0⟩ (.row ((S.enter f).fresh ⟨S.lvl + 1,5,0⟩) 0 n e [])).set ⟨S.lvl + 1,5,0⟩ (.row ((S.enter f).fresh ⟨S.lvl + 1,5,0⟩) ys.length n e ys.flatten)) hup rfl rfl ⟨rfl,rfl⟩ (fun q h=>(nomatch h)) (fun r hr hle=>by
   rcases ae5.1 hr with q1 | rfl
   ·rcases ae5.1 q1 with q1 | rfl
    ·cases q1
    ·simp only at hle; omega
   ·simp only at hle; omega) (fun r hr _=>by
   rw [AS.ad6 _ _ (fun e=>by rw [e] at hr; simp only at hr; omega),AS.ad6 _ _ (fun e=>by rw [e] at hr; simp only at hr; omega)]
   rfl) ⟨rfl,rfl⟩ ⟨T' 2,[],_,[],rfl,rfl,by
   show AtO _ _ _ _ _ _ _
   unfold AtO
   refine .inr ⟨⟨S.lvl + 1,5,0⟩,(S.enter f).fresh ⟨S.lvl + 1,5,0⟩,ys,[],h3,⟨h1,hn,rfl,fun z hz=>(nomatch hz),fun _=>rfl,hne⟩,?_,rfl⟩
   rw [List.append_nil]
   exact AS.get_set_same ..,rfl,rfl⟩ (fun q h=>(nomatch h)) (by simp) (fun q h=>(nomatch h)) (fun q h=>by
   simp only [List.nil_append,List.append_nil,List.mem_singleton] at h
   subst h
   exact .inr (Nat.lt_succ_self _))
 obtain rfl:=q2.2
 refine ⟨ao0 v,u,F2',J',?_,cj9 q3,q4,q5⟩
 refine a97 hg hf (show [a].length ≤ 8 by simp) ?_
 rw [show aE8 f S.fn [a] = [a.ac1] from rfl,h2,bo6 rfl,hb2]
 unfold bret
 simp only [q1,Option.map_some]
end
open Go.RowKit
class SpE {α : Type} (c : α → List V) (k : Nat) (Xs : List V) (el : α) (el' : outParam α) : Prop where
 ok : bR7 (c el) k Xs = c el'
def G.aN5 {α : Type} (xs : List α) : Option (List α):=if xs ≠ [] ∧ xs.length ≤ 1000000000 then some xs else none
section
variable [Cfg] {P : Program} {L : Nat} {f : Fr} {E : PE} {H : PH} {Φ : ag1} {m : Option (List (Nat × Nat))} {acc : AAcc} {r : List BI} {d : Nat} {γ : Type}
theorem v_iaR {α : Type} {x y : X} {id i n : Nat} {up xr : Bool} {ks : List Nat} {e : TypeId} {c : α → List V} {xs : List α} {kk : IntKind} {j : Int} {k : α → Option γ} {z : γ} (h : (G.idx xs j).bind k = some z) [CodT e c] (hx : od E x = some (.c (.k id))) (hH : fnd H id = some (i,.own up ks (.rw xr n e (xs.map c)))) (hi : od E y = some (.c (.v (.int kk j))))
  (hk : ∀ el,G.idx xs j = some el → k el = some z → VO P m (accP acc af0) r L f ((d,.el id n j.toNat 0) :: E) H Φ) : VO P m acc (⟨some d,none,.none,.ia n x y⟩ :: r) L f E H Φ:=by
 obtain ⟨el,he,h⟩:=b45 h
 refine .mk fun w E' A h1 h2=>?_
 obtain ⟨a,k1,k2⟩:=h1.opd hx
 have k2 : a = w id:=PT.af8.1 k2
 subst k2
 obtain ⟨it,k3,F,rfl⟩:=h2.get (ay5 hH)
 refine g_iaR k3 k1 (az3 h1 hi) he fun q g N M hq=>?_
 refine (hk el he h).ok w _ A ⟨_,E',rfl,?_,h1⟩ h2
 unfold PT.r
 exact ⟨q,g,N,M,hq,by rw [Nat.add_zero]⟩
omit [Cfg] in
theorem cz5 {w : Wit} {L : Nat} {id : Nat} {y : PI} {it : It} : ∀ {H : PH} {A : List It} {i : Nat} {x : PI},HR w L H A → H[i]? = some (id,x) → y.r w L id it → HR w L (H.set i (id,y)) (A.set i it)
 | [],_,_,_,_,h,_=>by cases h
 | (j,x) :: r,A,i,_,⟨jt,t,e,h1,h2⟩,h,hy=>by
  subst e
  cases i with
  | zero=>cases h; exact ⟨it,t,rfl,hy,h2⟩
  | succ i=>exact ⟨jt,t.set i it,rfl,h1,cz5 h2 h hy⟩
theorem v_stR {α : Type} {x v : X} {id i n j o : Nat} {up xr : Bool} {ks : List Nat} {e : TypeId} {c : α → List V} {xs : List α} {el el' : α} {V0 : V} (hx : od E x = some (.el id n j o)) (hv : od E v = some (.c (.v V0))) (hH : fnd H id = some (i,.own up ks (.rw xr n e (xs.map c)))) [CodT e c] (he : xs[j]? = some el) [hs : SpE c o [V0] el el'] (hk : Nat.ble (o + 1) n = true)
  (h : VO P m (accP acc (some (0 :: ks),some (0 :: ks))) r L f E (H.set i (id,.own up ks (.rw xr n e ((xs.set j el').map c)))) Φ) (hro : f.ro = false ∨ up = false:=by first | exact .inl rfl | exact .inr rfl) : VO P m acc (⟨none,none,.at x,.st 1 x v⟩ :: r) L f E H Φ:=by
 refine .mk fun w E' A h1 h2=>?_
 obtain ⟨a,k1,k2⟩:=h1.opd hx
 unfold PT.r at k2
 obtain ⟨q,g,N,M,k2,rfl⟩:=k2
 obtain ⟨b,q1,q2⟩:=h1.opd hv
 have q2 : RelC V0 b:=PT.af8.1 q2
 obtain ⟨it,k3,F,rfl⟩:=h2.get (ay5 hH)
 rw [k2] at k3
 refine g_stR (Xs:=[V0]) k3 k1 q1 rfl he ?_ rfl hk hs.ok h2.okO ?_ hro
 ·rw [cv7 q2]
  unfold ab1
  exact ⟨b,[],rfl,q2,by unfold ab1; rfl⟩
 ·refine h.ok w E' _ h1 (cz5 h2 (ay5 hH) ⟨F,by rw [k2]⟩)
theorem g_clE {E : Env} {A : List It} {bf : BF} {g0 : FuncId} {xs : List X} {args : List AV} {res : List OA} (hup : Cfg.up g0 f.fn = true) (hx : optL E xs = some args) (hkr : res.all OA.flat = true) (hB : (A.all (okO [])) = true) (hc : ∀ S,StA S L f A → ∃ v u F2 J,ah6 P g0 args S = some (.ret v,u) ∧ ResO (S.after u) res v F2 ∧ av7 (S.after u) J ∧ Left S u [] ([] ++ (F2 ++ J)))
  (h : ∀ v A2 J,RsV false [] res v A2 → GO1 P m (accP acc (none,some [0])) r L f ((d,v) :: E) (A2 ++ (.jnk false [] J :: A)) Φ) : GO1 P m acc (⟨some d,none,bf,.cl g0 xs⟩ :: r) L f E A Φ:=by
 intro c T S hcc hT hS
 obtain ⟨v,u,F2,J,k1,k3,k4,k5⟩:=hc S hS
 obtain ⟨A2,b1,b2,b3,b4⟩:=RsV.of (u:=false) (K:=[]) k3 hkr
 have hS' : StA (S.after u) L f ((A2 ++ [.jnk false [] J]) ++ A):=by
  refine bP9 (A1:=[]) hS rfl k5 hB (by rw [List.flatMap_append,b2,List.nil_append]; simp [It.foot]) (fun it hi=>?_) (fun hpl it hi=>?_) (.inr rfl)
  ·rcases List.mem_append.1 hi with hi | hi
   ·exact ⟨(b3 it hi).1,(b3 it hi).2.1⟩
   ·rw [List.mem_singleton.1 hi]; exact ⟨rfl,rfl⟩
  ·rcases List.mem_append.1 hi with hi | hi
   ·exact b4 (L + 1) (fun q hq=>hpl q (List.mem_append.2 (.inr (List.mem_append.2 (.inl hq))))) it hi
   ·rw [List.mem_singleton.1 hi]
    exact ⟨k4,fun q hq=>hpl q (List.mem_append.2 (.inr (List.mem_append.2 (.inr hq))))⟩
 rw [List.append_assoc,List.singleton_append] at hS'
 have hkey : okK (L + 1) (some [0]) u.kind:=by
  have hk : ∀ q ∈ ulog u,keyOf (L + 1) q ∈ [0]:=fun q hq=>by
   rcases k5.log q hq with h | h
   ·cases h
   ·rw [cm6 (.inr ⟨by rw [h.1,hS.lvl],h.2.1,h.2.2.1⟩)]
    exact List.mem_cons_self ..
  cases u with
  | none=>exact .inl rfl
  | some x=>exact .inr ⟨x.2,rfl,.inr (by simp),hk⟩
 obtain ⟨x1,T',S',q3,q4⟩:=h v A2 J b1 _ (T.put (some d) v) (S.after u) (hcc.push (a:=(none,some [0])) (f:=⟨.all,u.kind⟩) ⟨trivial,hkey⟩) (hT.put d v) hS'
 refine ⟨x1,T',S',?_,q4⟩
 rw [b_cl,br8 hT hx,hS.fn,hup,Bool.not_true,Bool.false_and,aK2,k1]
 rw [bA7]
 exact q3
end
open Go.RowKit
section
variable [Cfg]
class co8 (P : Program) (g : FuncId) (n : outParam Nat) (e : outParam TypeId) : Prop where
 ok : ∃ by' t tb,Cfg.given g = none ∧ ak2 P g = some (a15 e n by' t tb) ∧ (∀ d,Cfg.live g d = true) ∧ P.underlying t = some (.slice e) ∧ by' ≤ 100000
variable {P : Program} {L : Nat} {f : Fr} {E : PE} {H : PH} {Φ : ag1} {m : Option (List (Nat × Nat))} {acc : AAcc} {r : List BI} {d : Nat} {γ : Type}
omit [Cfg] in
theorem bu7 {α : Type} {xs ys : List α} {c : α → List V} (h : G.aN5 xs = some ys) : ys = xs ∧ xs.map c ≠ [] ∧ (xs.map c).length ≤ 1000000000:=by
 unfold G.aN5 at h
 split at h
 ·rename_i h0
  cases h
  exact ⟨rfl,fun e=>h0.1 (List.map_eq_nil_iff.1 e),by rw [List.length_map]; exact h0.2⟩
 ·cases h
omit [Cfg] in
theorem row_lv {q : Loc} {S : AS} {ks : List Nat} (hS : S.lvl = L + 1) (h : q.l ≤ L ∨ Pl (L + 1) ks q) : q.l ≤ S.lvl:=by
 rw [hS]
 rcases h with h | h | h | h <;> omega
omit [Cfg] in
theorem rw_rd {α : Type} {w : Wit} {A : List It} {S : AS} {id i n : Nat} {up xr : Bool} {ks : List Nat} {e : TypeId} {c : α → List V} {xs : List α} (h2 : HR w L H A) (hS : StA S L f A) (hH : fnd H id = some (i,.own up ks (.rw xr n e (xs.map c)))) (hne : xs.map c ≠ []) :
  Rd S n e (xs.map c) (w id) ∧ (∀ y ∈ xs.map c,y.length = n) ∧ (∀ q,(∃ sp h N o l,w id = .row sp q h N o l n) → q.l ≤ S.lvl) ∧ (w id).closed = false ∧ (w id).ac1.closed = false:=by
 obtain ⟨it,k3,F,rfl⟩:=h2.get (ay5 hH)
 obtain ⟨h1,hpl⟩:=hS.its _ (List.mem_of_getElem? k3)
 unfold AtO at h1
 rcases h1 with ⟨h0,_⟩ | ⟨q,g,ys,zs,e1,k1,k2,rfl⟩
 ·exact absurd h0 hne
 ·have hp:=hpl q (List.mem_singleton.2 rfl)
  rw [e1]
  exact ⟨.inr ⟨q,g,ys,zs,_,rfl,k1.1,k1.2.1,k1.2.2.2.1,k2⟩,k1.2.1,fun q' ⟨_,_,_,_,_,e2⟩=>by cases e2; exact row_lv hS.lvl (.inr hp),rfl,rfl⟩
theorem bQ5 {α : Type} {w : Wit} {E' : Env} {A : List It} {n nn : Nat} {e : TypeId} {c : α → List V} {xs : List α} {bf : BF} {g : FuncId} {x : X} {a : AV} (hup : Cfg.up g f.fn = true) (h1 : EnvR w E E') (h2 : HR w L H A) (k1 : opd E' x = some a) (hb : (bndE nn E && bndH nn H) = true)
  (hc : ∀ S,StA S L f A → ∃ v u F2 J,ah6 P g [a] S = some (.ret v,u) ∧ ResO (S.after u) [.o (.rw true n e (xs.map c))] v F2 ∧ av7 (S.after u) J ∧ Left S u [] ([] ++ (F2 ++ J)))
  (hk : VO P m (accP acc (none,some [0])) r L f ((d,.c (.k nn)) :: E) ((nn,.own false [] (.rw true n e (xs.map c))) :: (nn + 999,.jnk false []) :: H) Φ) : GO1 P m acc (⟨some d,none,bf,.cl g [x]⟩ :: r) L f E' A Φ:=by
 simp only [Bool.and_eq_true] at hb
 refine g_clE hup (args:=[a]) (by unfold optL; rw [k1]; rfl) rfl h2.okO hc fun v A2 J o2=>?_
 obtain ⟨w',q1,q2,q3⟩:=rsV_ok (L:=L) nn w o2 rfl
 refine hk.ok w' _ _ ⟨v,E',rfl,q2,h1.ag q1 hb.1⟩ (q3.app ⟨_,A,rfl,⟨J,rfl⟩,h2.ag q1 hb.2⟩)
theorem v_cloneK {α : Type} {g : FuncId} {x : X} {id i n : Nat} {up xr : Bool} {ks : List Nat} {e : TypeId} {c : α → List V} {xs : List α} {k : List α → Option γ} {z : γ} {nn : Nat} [Rk f d nn] (h : (G.aN5 xs).bind k = some z) [hC : co8 P g n e] [CodT e c] (hup : Cfg.up g f.fn = true) (hx : od E x = some (.c (.k id))) (hH : fnd H id = some (i,.own up ks (.rw xr n e (xs.map c)))) (hb : (bndE nn E && bndH nn H) = true)
  (hk : k xs = some z → VO P m (accP acc (none,some [0])) r L f ((d,.c (.k nn)) :: E) ((nn,.own false [] (.rw true n e (xs.map c))) :: (nn + 999,.jnk false []) :: H) Φ) : VO P m acc (⟨some d,none,.none,.cl g [x]⟩ :: r) L f E H Φ:=by
 obtain ⟨ys,he,h9⟩:=b45 h
 obtain ⟨rfl,hne,hlen⟩:=bu7 (c:=c) he
 obtain ⟨by',t,tb,c1,c2,c3,c4,c5⟩:=hC.ok
 refine .mk fun w E' A h1 h2=>?_
 obtain ⟨a,k1,k2⟩:=h1.opd hx
 have k2 : a = w id:=PT.af8.1 k2
 subst k2
 refine bQ5 hup h1 h2 k1 hb (fun S hS=>?_) (hk h9)
 obtain ⟨r1,r2,r3,_⟩:=rw_rd h2 hS hH hne
 exact cm2 c1 c2 c3 c4 c5 (by rw [hS.fn]; exact hup) r1 hne hlen r2 r3
theorem v_cloneV {α : Type} {g : FuncId} {x : X} {n : Nat} {e : TypeId} {c : α → List V} {xs : List α} {k : List α → Option γ} {z : γ} {nn : Nat} [Rk f d nn] (h : (G.aN5 xs).bind k = some z) [hC : co8 P g n e] (hup : Cfg.up g f.fn = true) (hx : od E x = some (.c (.v (.sl n (xs.map c))))) (hn : ∀ x,(c x).length = n) (hb : (bndE nn E && bndH nn H) = true)
  (hk : k xs = some z → VO P m (accP acc (none,some [0])) r L f ((d,.c (.k nn)) :: E) ((nn,.own false [] (.rw true n e (xs.map c))) :: (nn + 999,.jnk false []) :: H) Φ) : VO P m acc (⟨some d,none,.none,.cl g [x]⟩ :: r) L f E H Φ:=by
 obtain ⟨ys,he,h9⟩:=b45 h
 obtain ⟨rfl,hne,hlen⟩:=bu7 (c:=c) he
 obtain ⟨by',t,tb,c1,c2,c3,c4,c5⟩:=hC.ok
 refine .mk fun w E' A h1 h2=>?_
 obtain ⟨a,k1,k2⟩:=h1.opd hx
 have k2 : RelC (.sl n (ys.map c)) a:=PT.af8.1 k2
 refine bQ5 hup h1 h2 k1 hb (fun S hS=>?_) (hk h9)
 unfold RelC at k2
 rcases k2 with ⟨h0,_⟩ | ⟨sp,zs,rfl,_,k2⟩
 ·exact absurd h0 hne
 ·exact cm2 c1 c2 c3 c4 c5 (by rw [hS.fn]; exact hup) (.inl ⟨sp,zs,rfl,k2⟩) hne hlen (fun y hy=>by obtain ⟨x,_,rfl⟩:=List.mem_map.1 hy; exact hn x) (fun q ⟨_,_,_,_,_,e2⟩=>by cases e2)
theorem t_cloneR {α : Type} {g : FuncId} {x : X} {id i n : Nat} {up xr : Bool} {ks : List Nat} {e : TypeId} {c : α → List V} {xs ys : List α} (he : G.aN5 xs = some ys) [hC : co8 P g n e] [CodT e c] (hup : Cfg.up g f.fn = false) (hx : od E x = some (.c (.k id))) (hH : fnd H id = some (i,.own up ks (.rw xr n e (xs.map c)))) : VS P L f E H d .none (.cl g [x]) (none,some []) (.c (.v (.sl n (ys.map c)))):=.mk fun w E' A h1 h2 T S hT hS=>by
 obtain ⟨rfl,hne,hlen⟩:=bu7 (c:=c) he
 obtain ⟨by',t,tb,c1,c2,c3,c4,c5⟩:=hC.ok
 obtain ⟨a,k1,k2⟩:=h1.opd hx
 have k2 : a = w id:=PT.af8.1 k2
 subst k2
 obtain ⟨r1,r2,r3,r4,r5⟩:=rw_rd h2 hS hH hne
 obtain ⟨v,q1,q2⟩:=cD4 c1 c2 c3 c4 c5 (S:=S) (by rw [hS.fn]; exact hup) r1 hne hlen r2 r3
 have hb : bop P S T (some d) (.cl g [x]) = some (.call g [w id]):=by simp only [bop]; rw [br8 hT (xs:=[x]) (as1:=[w id]) (by unfold optL; rw [k1]; rfl)]
 exact ⟨v,⟨.all,Upd.kind none⟩,PT.af8.2 q2,⟨trivial,.inl rfl⟩,fun c r=>by rw [af5,hb,show (BO.cl g [x]).w = true from rfl,bX0,hS.fn,hup,show AV.ac4 ([w id].map AV.ac1) = false by simp [AV.ac4,r5],Bool.not_false,Bool.true_and,aK2,q1,bA7]; rfl⟩
theorem t_mf {g : FuncId} {xs : List X} : VS P L f E H d .none (.mf g xs) af0 .any:=.mk fun w E' A h1 h2 =>
 (aN7 (Q:=fun _=>True) fun T S hT=>⟨_,rfl,trivial⟩).mono fun u _=>by unfold PT.r; trivial
theorem v_cd {x : X} {xs : List X} {g : FuncId} {b : BFn} {dd : Option Nat} {gd : Option (Nat × Bool)} (hx : od E x = some (.c (.v (.fnv g [])))) (hf : ak2 P g = some b) (h : VO P m acc (⟨dd,gd,.none,.cl g xs⟩ :: r) L f E H Φ) : VO P m acc (⟨dd,gd,.none,.cd x xs⟩ :: r) L f E H Φ:=.mk fun w E' A h1 h2 c T S hc hT hS=>by
 obtain ⟨a,k1,k2⟩:=h1.opd hx
 have k2 : RelC (.fnv g []) a:=PT.af8.1 k2
 unfold RelC at k2
 obtain ⟨ys,k2,k3⟩:=k2
 unfold ab1 at k2
 subst k2
 have hbod : bv3 P g = true:=by
  obtain ⟨fn,c,q1,q2,_⟩:=bG3 hf
  unfold bv3
  rw [q1]
  simp only [q2]
  rfl
 obtain ⟨x1,T',S',q1,q2⟩:=h.ok w E' A h1 h2 c T S hc hT hS
 refine ⟨x1,T',S',?_,q2⟩
 rw [← q1]
 have hbo : bop P S T dd (.cd x xs) = bop P S T dd (.cl g xs):=by
  have hca : aC8 a = some (g,[]):=by
   rcases k3 with rfl | ⟨_,rfl⟩ <;> rfl
  simp only [bop,hT.at k1,hca]
  rw [if_pos hbod,List.append_nil]
 congr 1
 unfold aa8
 simp only [hbo]
 rfl
theorem v_mkM {K W : Type} {κ : K → Value} {χ : W → V} {t ty : TypeId} {nn : Nat} [Rk f d nn] (hf : bp7 d H = true) (hb : (bndE nn E && bndH nn H) = true) (h : VO P m (accP acc (some [d],some [d])) r L f ((d,.c (.k nn)) :: E) ((nn,.own false [d] (Mp.o κ χ [])) :: H) Φ) : VO P m acc (⟨some d,none,.here,.gen (.makeMap t none) ty⟩ :: r) L f E H Φ:=.mk fun w E' A h1 h2=>by
 simp only [Bool.and_eq_true] at hb
 refine g_mkM (κ:=κ) (χ:=χ) (h2.free hf) fun g=>h.ok (updW w nn (.mref ⟨L + 1,d,0⟩ g)) _ _ ⟨_,E',rfl,PT.af8.2 (as3 ..).symm,h1.ag (ar4 _ _ _) hb.1⟩ ⟨_,A,rfl,⟨_,by rw [as3]⟩,h2.ag (ar4 _ _ _) hb.2⟩
end
open Go.RowKit
section
variable [Cfg] {P : Program} {L : Nat} {f : Fr} {E : PE} {H : PH} {Φ : ag1} {m : Option (List (Nat × Nat))} {acc : AAcc} {r : List BI} {d : Nat} {γ : Type}
theorem aop_nilQ {S : AS} {ρ : Operand → AV} {d : Option Tmp} {op : BinOp} {ne : Bool} {x y : Operand} {t e yt ty : TypeId} {pos : String} {aft : Array Edge} {g : Option (Nat × Bool)} (hn : neOp op = some ne) (hu : P.underlying t = some (.pointer e)) (hx : ρ x = .lit (.pointer none)) (hy : ρ y = .lit (.pointer none)) :
  aop P S ρ ⟨d,.binOp op t x y yt,ty,pos,aft,g⟩ = some (.val (.lit (.bool (true != ne)))):=by
 refine ba1 (v:=.bool (true != ne)) (a:=.pointer none) (b:=.pointer none) (by rw [hx]; rfl) (by rw [hy]; rfl) (aI9 ?_) ?_ ?_
 ·rw [hx,hy]; unfold ax7; rw [hu]; rfl
 ·unfold eqGuard; split <;> rfl
 ·refine aA8 hn (by simp) (by simp) (by simp) (by simp) ?_
  show aa3 P (Op.equalIn (9999 + 1) t (.pointer none) (.pointer none)) = _
  unfold Op.equalIn
  rw [aa7,ah9 hu]
  simp [ah0]
class PtrI (P : Program) (t : TypeId) : Prop where
 ok : ∃ e,P.underlying t = some (.pointer e)
theorem t_np {α : Type} {x : Operand} {t yt ty : TypeId} {op : BinOp} {ne : Bool} {c : α → List V} {o : Option α} (hn : neOp op = some ne) (hx : od E (af1 x) = some (.c (.v (vref c o)))) [hu : PtrI P t] : VS P L f E H d .none (.gen (.binOp op t x (.const (.pointer none)) yt) ty) af0 (.c (.v (.bool (o.isNone != ne)))):=.mk fun w E' A h1 h2=>by
 obtain ⟨e,hu⟩:=hu.ok
 obtain ⟨a,k1,k2⟩:=h1.opd hx
 refine aN7 fun T S hT=>?_
 have hxa : aevF T x = a:=hT.at k1
 have hy : aevF T (.const (.pointer none)) = .lit (.pointer none):=rfl
 cases o with
 | none =>
  have k2 : RelC .nilp a:=PT.af8.1 k2
  unfold RelC at k2
  subst k2
  exact ⟨_,by simp only [bop]; exact aop_nilQ hn hu hxa hy,aR0⟩
 | some el =>
  have k2 : RelC (.ref (c el)) a:=PT.af8.1 k2
  unfold RelC at k2
  obtain ⟨ys,zs,rfl,_⟩:=k2
  refine ⟨.lit (.bool (false != ne)),?_,aR0⟩
  rcases bb4 hn with ⟨rfl,rfl⟩ | ⟨rfl,rfl⟩ <;> simp only [bop,aop,hxa,hy,acmp,ax7,hu,aM4,if_true,Option.map_some,an7] <;> rfl
def RetPtr (L : Nat) (n : Nat) (M : List V) : ag1:=fun x T S=>(x = .ret ∨ x = .normal) ∧ S.dfr = [] ∧ S.outs L = [] ∧ ∃ p g t cs,T n = .ptr p g 0 0 ∧ L < p.l ∧ S.get p = some (.obj g t cs) ∧ aF4 (L + 1) M cs
theorem v_funP {f : FuncId} {b : BFn} {args : List AV} {rsA : List RV} {M : List V} {n : Nat} (hg : Cfg.given f = none) (hf : ak2 P f = some b) (hup : ∀ h,Cfg.up f h = false) (hn : Nat.ble rsA.length b.nt = true) (hsz : Nat.ble (M.length + 5) 100000 = true) (hb : b.res = [.t n])
  (h : ∀ L,VC P b.code L f (rvE 0 rsA) [] (RetPtr L n M)) (ha : RVN rsA args) : cg5 P f args (ResC [.v (.ref M)]):=by
 obtain ⟨x,T',S',h1,h2,h3,h4,p,g,t,cs,h5,h6,h7,h8⟩:=(h 0).ok (fun _=>.lit undef) _ [] (cI5 0 ha) rfl (aC5 (args.map AV.ac1)) (AS.bare.enter f) (Ag.args _) ⟨rfl,rfl,rfl,FrOk.enter f (.inl rfl),fun _ hi=>(nomatch hi),RegA.none rfl⟩
 have hsz:=ag3 hsz
 obtain ⟨bs,k1,k2⟩:=aF4.frz (l:=0) S' 99999 h8 (by omega)
 have hfr : frz 0 S' 100000 (.ptr p g 0 0) = some (.cref bs):=by
  have hlv : AV.lv 0 (.ptr p g 0 0) = false:=by simp [AV.lv]; omega
  have hce : S'.ai0 p g 0 = some cs:=by
   unfold AS.ai0
   rw [h7]
   simp
  rw [show (100000 : Nat) = 99999 + 1 from rfl]
  unfold frz
  rw [hlv]
  simp only [hce,List.drop_zero,k1]
  rfl
 have hl : args.length = rsA.length:=by have:=ha.len; rwa [List.length_map] at this
 refine ⟨.cref bs,a97 hg hf (by rw [List.length_map,hl]; exact ag3 hn) ?_,?_⟩
 ·rw [bt4 (hup _),List.map_map,show AV.ac1 ∘ AV.ac1 = AV.ac1 from funext ce6,h1,bU6 h2 h3,hb]
  have : az2 S' T' [.t n] = some [.ptr p g 0 0]:=by rw [an9,bG2,h5]; rfl
  rw [this]
  unfold bret
  simp only
  rw [aM3 (hup _) h4,show ao0 [AV.ptr p g 0 0] = AV.ptr p g 0 0 from rfl,show AS.bare.lvl = 0 from rfl,hfr]
  rfl
 ·show RelC (.ref M) _
  unfold RelC
  exact ⟨bs,[],by rw [List.append_nil],k2,rfl⟩
omit [Cfg] in
theorem v_fitP {x : AX} {n id i : Nat} {up : Bool} {ks : List Nat} {k : Nat} {t : TypeId} {cs : List PC} {M : List V} (hx : lk E n = some (.loc id 0)) (hH : fnd H id = some (i,.cel up ks (some k) t cs)) (hM : vsS H cs M = some M) (hW : f.W = [] ∨ f.ro = true:=by first | exact .inl rfl | exact .inr rfl) (hxx : x = .ret ∨ x = .normal:=by first | exact .inl rfl | exact .inr rfl) : VG x L f E H (RetPtr L n M):=.mk fun w E' A h1 h2 T S hT hS=>by
 obtain ⟨a,k1,k2⟩:=h1.look hx
 unfold PT.r at k2
 obtain ⟨p,g,k3,rfl⟩:=k2
 obtain ⟨p',g',ys,c1,c2,c3,c4⟩:=aF6 h2 hH
 rw [k3] at c2
 injection c2 with e1 e2
 subst e1 e2
 have hit:=hS.its _ (List.mem_of_getElem? c1)
 exact ⟨hxx,hS.dfr,hW.elim hS.out.outs hS.out.outs',p,g,t,ys,hT n _ k1,by rw [c3 k rfl]; exact Nat.lt_succ_self L,hit.1,cq9 h2 hT hS hM c4.pcs⟩
end
open Go.RowKit
theorem Co.lv {l : Nat} {a : AV} (h : Co l a) : a.lv l = true:=by
 cases h with
 | c h=>exact av6 h l
 | p h=>simp [AV.lv,h]
 | t h h'=>simp [AV.lv,ap1.lv,aK7 h l,h']
 | r h=>simp [AV.lv,h]
 | m h=>simp [AV.lv,h]
def BC.keeps (t : Nat) : BC → Bool
 | .ops l=>l.all fun i=>!(i.d == some t)
 | .draw l _=>l.all fun i=>!(i.d == some t)
 | .seq a b=>a.keeps t && b.keeps t
 | .cond _ a b=>a.keeps t && b.keeps t
 | .block _ b=>b.keeps t
 | .loop b=>b.keeps t
 | _=>true
theorem put_ne {T : BT} {d : Option Nat} {v : AV} {t : Nat} (h : (!(d == some t)) = true) : T.put d v t = T t:=by
 cases d with
 | none=>rfl
 | some d =>
  unfold BT.put
  simp only
  rw [if_neg]
  intro e
  subst e
  simp at h
section
variable [Cfg] {P : Program} {Δ : af4}
theorem aZ2 {t : Nat} : ∀ (l : List BI) (acc acc' : Acc) (T T' : BT) (S S' : AS) (x : Option AV),(l.all fun i=>!(i.d == some t)) = true → aa8 P Δ acc l T S = some (acc',T',S',x) → T' t = T t
 | [],acc,acc',T,T',S,S',x,_,h=>by cases h; rfl
 | i :: r,acc,acc',T,T',S,S',x,hk,h=>by
  simp only [List.all_cons,Bool.and_eq_true] at hk
  have go : ∀ {acc1 : Acc} {v : AV} {S1 : AS},aa8 P Δ acc1 r (T.put i.d v) S1 = some (acc',T',S',x) → T' t = T t:=fun {acc1 v S1} h=>(aZ2 r acc1 acc' _ T' S1 S' x hk.2 h).trans (put_ne hk.1)
  unfold aa8 at h
  split at h
  ·split at h
   ·exact go h
   ·split at h
    ·exact go h
    ·cases h
   ·split at h
    ·split at h
     ·split at h
      ·exact go h
      ·cases h; rfl
      ·cases h
     ·split at h
      ·exact go h
      ·cases h; rfl
      ·cases h
    ·cases h
   ·cases h; rfl
   ·split at h
    ·exact go h
    ·cases h
   ·cases h
  ·exact go h
theorem aw6 {t n : Nat} : ∀ (c : BC) (T T' : BT) (S S' : AS) (x : AX),c.keeps t = true → af6 P Δ n c T S = some (x,T',S') → T' t = T t
 | .skip,T,T',S,S',x,_,h=>by cases h; rfl
 | .ops l,T,T',S,S',x,hk,h=>by
  simp only [af6] at h
  cases hs : aa8 P Δ none l T S with
  | none=>rw [hs] at h; cases h
  | some r =>
   obtain ⟨a,T1,S1,v⟩:=r
   rw [hs] at h
   have:=aZ2 l _ _ _ _ _ _ _ hk hs
   cases v <;> (cases h; exact this)
 | .draw l L,T,T',S,S',x,hk,h=>by
  simp only [af6] at h
  cases hs : aa8 P Δ (acc0 L) l T S with
  | none=>rw [hs] at h; cases h
  | some r =>
   obtain ⟨a,T1,S1,v⟩:=r
   rw [hs] at h
   have:=aZ2 l _ _ _ _ _ _ _ hk hs
   cases v with
   | some v=>cases h
   | none =>
    simp only [bx9] at h
    split at h
    ·cases h; exact this
    ·split at h
     ·cases h; exact this
     ·cases h
    ·cases h
 | .seq a b,T,T',S,S',x,hk,h=>by
  simp only [BC.keeps,Bool.and_eq_true] at hk
  simp only [af6] at h
  cases ha : af6 P Δ n a T S with
  | none=>rw [ha] at h; cases h
  | some r =>
   obtain ⟨x1,T1,S1⟩:=r
   rw [ha] at h
   have k1:=aw6 a _ _ _ _ _ hk.1 ha
   cases x1 with
   | normal=>exact (aw6 b _ _ _ _ _ hk.2 h).trans k1
   | _=>cases h; exact k1
 | .cond c a b,T,T',S,S',x,hk,h=>by
  simp only [BC.keeps,Bool.and_eq_true] at hk
  simp only [af6] at h
  split at h
  ·split at h
   ·exact aw6 a _ _ _ _ _ hk.1 h
   ·exact aw6 b _ _ _ _ _ hk.2 h
  ·cases h
 | .block id b,T,T',S,S',x,hk,h=>by
  simp only [af6] at h
  cases hb : af6 P Δ n b T S with
  | none=>rw [hb] at h; cases h
  | some r =>
   obtain ⟨x1,T1,S1⟩:=r
   rw [hb] at h
   have k1:=aw6 b _ _ _ _ _ hk hb
   cases x1 with
   | exit j =>
    simp only at h
    split at h <;> (cases h; exact k1)
   | _=>cases h; exact k1
 | .loop b,T,T',S,S',x,hk,h=>by
  simp only [af6] at h
  have : ∀ k T S,bl4 (af6 P Δ n b) k T S = some (x,T',S') → T' t = T t:=by
   intro k
   induction k with
   | zero=>intro T S h; cases h
   | succ k ih =>
    intro T S h
    unfold bl4 at h
    cases hb : af6 P Δ n b T S with
    | none=>rw [hb] at h; cases h
    | some r =>
     obtain ⟨x1,T1,S1⟩:=r
     rw [hb] at h
     have k1:=aw6 b _ _ _ _ _ hk hb
     cases x1 with
     | normal=>exact (ih T1 S1 h).trans k1
     | _=>cases h; exact k1
  exact this n T S h
 | .exit id,T,T',S,S',x,_,h=>by cases h; rfl
 | .ret,T,T',S,S',x,_,h=>by cases h; rfl
 | .bad,_,_,_,_,_,_,h=>by cases h
theorem cd7 {t : Nat} {c : BC} (hc : c.keeps t = true) {T T' : BT} {S S' : AS} {x : AX} (h : an3 P c T S = some (x,T',S')) : T' t = T t:=by
 obtain ⟨n,h⟩:=ac2.1 h
 exact aw6 c _ _ _ _ _ hc h
theorem cc0 (hG : bv2) {c : BC} (hc : c.aK3 = true) {T T' : BT} {S S' : AS} {x : AX} (h : an3 P c T S = some (x,T',S')) : S'.dfr = S.dfr:=by
 have e:=cm7 hG (ds:=S.dfr) hc h
 have e0 : S.wd S.dfr = S:=rfl
 rw [e0,h] at e
 have e:=(Option.some.inj e)
 have e:=congrArg (fun y=>y.2.2.dfr) e
 exact e
def cu9 (o1 o2 : Nat) : BFn:=⟨11,[],.ops [⟨some 3,none,.at (.t 2),.ld1 (.t 2)⟩,⟨some 4,none,.at (.t 2),.ld1 (.t 2)⟩,⟨some 5,none,.at (.t 0),.ld1 (.t 0)⟩,⟨some 6,none,.at (.t 1),.ld1 (.t 1)⟩,⟨some 7,none,.none,.nc (.t 3)⟩,⟨some 8,none,.none,.fa o1 (.t 7)⟩,⟨none,none,.at (.t 8),.st 1 (.t 8) (.t 5)⟩,⟨some 9,none,.none,.nc (.t 4)⟩,⟨some 10,none,.none,.fa o2 (.t 9)⟩,⟨none,none,.at (.t 10),.st 1 (.t 10) (.t 6)⟩]⟩
def Leave (g : FuncId) (o1 o2 : Nat) (cs : List AV) (S : AS) (u : Upd) : Prop:=∃ y Tg Sg v,an3 P (cu9 o1 o2).code (aC5 cs) (S.enter g) = some (y,Tg,Sg) ∧ (y = .ret ∨ y = .normal) ∧ Sg.dfr = [] ∧ ak3 g S Sg (.tup []) = some (v,u)
theorem cF0 {g : FuncId} {o1 o2 : Nat} {S : AS} {q0 q1 q2 p : Loc} {g0 g1 g2 gp : Nat} {t0 t1 t2 t : TypeId} {v1 v2 : AV} {cs : List AV} (hup : Cfg.up g S.fn = false) (h0 : S.get q0 = some (.obj g0 t0 [v1])) (h1 : S.get q1 = some (.obj g1 t1 [v2])) (h2 : S.get q2 = some (.obj g2 t2 [.ptr p gp 0 0])) (hp : S.get p = some (.obj gp t cs)) (hlv : p.l ≤ S.lvl)
  (c1 : v1.cells = [v1] ∧ v1.one = true ∧ v1.lv S.lvl = true) (c2 : v2.cells = [v2] ∧ v2.one = true ∧ v2.lv S.lvl = true) (hc : ∀ a ∈ cs,a.lv S.lvl = true) (hl1 : o1 + 1 ≤ cs.length) (hl2 : o2 + 1 ≤ cs.length) (hlen : cs.length ≤ 1000) :
  ∃ u,Leave (P:=P) g o1 o2 [.ptr q0 g0 0 0,.ptr q1 g1 0 0,.ptr q2 g2 0 0] S u ∧ S.after u = S.set p (.obj gp t (splice (splice cs o1 [v1]) o2 [v2])):=by
 let S0:=S.enter g
 let s1 : ab3:=.obj gp t (splice cs o1 [v1])
 let s2 : ab3:=.obj gp t (splice (splice cs o1 [v1]) o2 [v2])
 let S1:=S0.set p s1
 let S2:=S1.set p s2
 let T0 : BT:=aC5 [.ptr q0 g0 0 0,.ptr q1 g1 0 0,.ptr q2 g2 0 0]
 let T1:=T0.put (some 3) (.ptr p gp 0 0)
 let T2:=T1.put (some 4) (.ptr p gp 0 0)
 let T3:=T2.put (some 5) v1
 let T4:=T3.put (some 6) v2
 let T5:=T4.put (some 7) (.ptr p gp 0 0)
 let T6:=T5.put (some 8) (.ptr p gp 0 (0 + o1))
 let T7:=T6.put (some 9) (.ptr p gp 0 0)
 let T8:=T7.put (some 10) (.ptr p gp 0 (0 + o2))
 have hsl : (splice cs o1 [v1]).length = cs.length:=by
  unfold splice
  simp only [List.length_append,List.length_take,List.length_drop,List.length_cons,List.length_nil]
  omega
 have e1 : ld1V S0 (.ptr q2 g2 0 0) = some (.ptr p gp 0 0):=bj7 (show S0.get q2 = _ from h2) rfl
 have e2 : ld1V S0 (.ptr q0 g0 0 0) = some v1:=bj7 (show S0.get q0 = _ from h0) rfl
 have e3 : ld1V S0 (.ptr q1 g1 0 0) = some v2:=bj7 (show S0.get q1 = _ from h1) rfl
 have e4 : stV 1 S0 v1.cells (.ptr p gp 0 (0 + o1)) = some (p,s1):=by
  rw [c1.1,Nat.zero_add]
  exact bu8 (show S0.get p = _ from hp) rfl hl1 (by simp [c1.2.1])
 have e5 : stV 1 S1 v2.cells (.ptr p gp 0 (0 + o2)) = some (p,s2):=by
  rw [c2.1,Nat.zero_add]
  exact bu8 (show S1.get p = _ from AS.get_set_same ..) rfl (by rw [hsl]; exact hl2) (by simp [c2.2.1])
 have hx : an3 P (cu9 o1 o2).code T0 S0 = some (.normal,T8,S2):=by
  unfold cu9
  rw [aC4]
  rw [cy6,show ld1V S0 (X.at T0 (.t 2)) = _ from e1,bj1,cy6,show ld1V S0 (X.at T1 (.t 2)) = _ from e1,bj1,cy6,show ld1V S0 (X.at T2 (.t 0)) = _ from e2,bj1,cy6,show ld1V S0 (X.at T3 (.t 1)) = _ from e3,bj1]
  rw [b_nc,bz6 (show X.at T4 (.t 3) = .ptr p gp 0 0 from rfl),bo4,b_fa,show offV o1 (X.at T5 (.t 7)) = some (.ptr p gp 0 (0 + o1)) from rfl,bj1]
  rw [b_st,show stV 1 S0 (X.at T6 (.t 5)).cells (X.at T6 (.t 8)) = _ from e4,Option.map_some,cg3]
  have hpn : ∀ (T : BT) (v : AV),T.put none v = T:=fun _ _=>rfl
  rw [hpn]
  rw [b_nc,bz6 (show X.at T6 (.t 4) = .ptr p gp 0 0 from rfl),bo4,b_fa,show offV o2 (X.at T7 (.t 9)) = some (.ptr p gp 0 (0 + o2)) from rfl,bj1]
  rw [b_st,show stV 1 S1 (X.at T8 (.t 6)).cells (X.at T8 (.t 10)) = _ from e5,Option.map_some,cg3,cj4,aw4]
  rfl
 have hlv2 : ∀ a ∈ splice (splice cs o1 [v1]) o2 [v2],a.lv S.lvl = true:=fun a ha=>by
  rcases aE9 ha with ha | ha
  ·rcases aE9 ha with ha | ha
   ·exact hc a ha
   ·rw [List.mem_singleton.1 ha]; exact c1.2.2
  ·rw [List.mem_singleton.1 ha]; exact c2.2.2
 have hfz : ∀ (k : Nat) (l : List AV),(∀ a ∈ l,a.lv S.lvl = true) → l.length + 2 ≤ k → frzL S.lvl S2 k l = some l:=by
  intro k l
  induction l generalizing k with
  | nil=>intro _ hk; obtain ⟨k,rfl⟩ : ∃ j,k = j + 1:=⟨k - 1,by omega⟩; rfl
  | cons a r ih =>
   intro hl hk
   obtain ⟨k,rfl⟩ : ∃ j,k = j + 2:=⟨k - 2,by simp only [List.length_cons] at hk; omega⟩
   simp only [List.length_cons] at hk
   unfold frzL
   rw [ad1 (hl a (List.mem_cons_self ..)),ih (k + 1) (fun x hx=>hl x (List.mem_cons_of_mem _ hx)) (by omega)]
 have hl2' : (splice (splice cs o1 [v1]) o2 [v2]).length = cs.length:=by
  rw [← hsl]
  unfold splice
  simp only [List.length_append,List.length_take,List.length_drop,List.length_cons,List.length_nil]
  omega
 have hg2 : S2.get p = some s2:=AS.get_set_same ..
 have hout : S2.outs S.lvl = [p]:=by
  have : S2.log = [p]:=by
   show ap9 (ap9 [] p) p = [p]
   simp [ap9]
  unfold AS.outs
  rw [this]
  simp [hlv]
 have hh : ak3 g S S2 (.tup []) = some (.tup [],some (S.tab.put p s2,[p])):=by
  unfold ak3
  simp only [hup,hout,show frz S.lvl S2 100000 (.tup []) = some (.tup []) from rfl]
  unfold ax8 ax8
  simp only [hg2]
  have : frzS S.lvl S2 100000 s2 = some s2:=by
   show (frzL S.lvl S2 100000 _).map _ = _
   rw [hfz 100000 _ hlv2 (by omega)]
   rfl
  simp only [this]
  rfl
 refine ⟨some (S.tab.put p s2,[p]),⟨_,_,_,_,hx,.inr rfl,rfl,hh⟩,?_⟩
 rfl
end
open Go.RowKit
section
variable [Cfg] {P : Program}
class GivenWI : Prop where
 ok : bv2
def cl6 (P : Program) (f : Fr) (L : Nat) (g : FuncId) (o1 o2 b0 b1 b2 : Nat) (args : List AV) (br : List BR) (outs res : List OA) : ag1:=fun x T S=>(x = .ret ∨ x = .normal) ∧ S.dfr = [] ∧ ∃ u,Leave (P:=P) g o1 o2 [T b0,T b1,T b2] S u ∧ RetO f L false args br outs res x T (S.after u)
omit [Cfg] in
theorem b54 {k : BT → AS → XB} {y : XB} {r : AX × BT × AS} (h : seqB k y = some r) (hr : r.1 ≠ .ret → r.1 = .normal) (hx : ∀ T S,y = some (.ret,T,S) → False) (hn : ∀ T S,y = some (.normal,T,S) → k T S = some r → True) : (∃ T S,y = some (.normal,T,S) ∧ k T S = some r):=by
 cases y with
 | none=>cases h
 | some z =>
  obtain ⟨x,T,S⟩:=z
  cases x with
  | normal=>exact ⟨T,S,rfl,h⟩
  | ret=>exact (hx T S rfl).elim
  | exit i=>cases h; have:=hr (by simp); cases this
  | pan v=>cases h; have:=hr (by simp); cases this
def BC.noRet : BC → Bool
 | .ops _=>true
 | .draw _ _=>true
 | _=>false
theorem cp7 {c : BC} (hc : c.noRet = true) {T T' : BT} {S S' : AS} : an3 P c T S ≠ some (.ret,T',S'):=by
 intro h
 obtain ⟨n,h⟩:=ac2.1 h
 cases c with
 | ops l =>
  simp only [af6] at h
  cases hs : aa8 P (ah6 P) none l T S with
  | none=>rw [hs] at h; cases h
  | some r=>obtain ⟨a,T1,S1,v⟩:=r; rw [hs] at h; cases v <;> cases h
 | draw l L =>
  simp only [af6] at h
  cases hs : aa8 P (ah6 P) (acc0 L) l T S with
  | none=>rw [hs] at h; cases h
  | some r =>
   obtain ⟨a,T1,S1,v⟩:=r
   rw [hs] at h
   cases v with
   | some v=>cases h
   | none =>
    simp only [bx9] at h
    split at h
    ·cases h
    ·split at h <;> cases h
    ·cases h
 | _=>cases hc
theorem cu6 {id : Nat} {c : BC} (T : BT) (S : AS) : an3 P (.block id (.seq c (.loop c))) T S = an3 P (.block id (.loop c)) T S:=by
 rw [aN4,aN4,aq1,bO6 c T S]
theorem v_funD [hG : GivenWI] {f g : FuncId} {nt : Nat} {a b c : BC} {dm b0 b1 b2 o1 o2 : Nat} {ins outs res : List OA} (hg : Cfg.given f = none) (hf : ak2 P f = some ⟨nt,[],.seq a (.seq b (.seq (.ops [⟨some dm,none,.none,.mf g [.t b0,.t b1,.t b2]⟩,⟨none,none,.none,.gen (.defer ⟨.value (.tmp dm),#[],#[]⟩) 0⟩]) (.block 0 (.loop c))))⟩)
  (hgf : ak2 P g = some (cu9 o1 o2)) (hab : (a.aK3 && b.aK3 && c.aK3 && a.noRet && b.noRet) = true) (hk : (c.keeps b0 && c.keeps b1 && c.keeps b2 && !(dm == b0) && !(dm == b1) && !(dm == b2)) = true) (hn : Nat.ble ins.length nt = true) (hki : ins.all OA.given = true) (hkr : res.all OA.keep = true)
  (h : ∀ L S0 F args,VC P (.seq a (.seq b (.seq (.ops [⟨some dm,none,.none,.mf g [.t b0,.t b1,.t b2]⟩]) (.block 0 (.seq c (.loop c)))))) L ⟨f,F,S0,true,false⟩ (insE 0 ins) (insH 0 ins ++ [(ins.length,.pin (ins.map isOb) args)]) (cl6 P ⟨f,F,S0,true,false⟩ L g o1 o2 b0 b1 b2 args [] outs res)) : cD2 P f ins false outs res:=by
 intro S args F hup hat hnd hlv
 simp only [Bool.and_eq_true] at hab hk
 obtain ⟨⟨⟨⟨na,nb⟩,nc⟩,ra⟩,rb⟩:=hab
 obtain ⟨⟨⟨⟨⟨kc0,kc1⟩,kc2⟩,kd0⟩,kd1⟩,kd2⟩:=hk
 obtain ⟨A,k1,k2,k3,k4⟩:=InI.of hat hki
 have hv:=(h S.lvl S F (args.map AV.ac1))
 obtain ⟨j1,j2,j3⟩:=b83 (L:=S.lvl) (fun i=>((args.map AV.ac1)[i]?).getD (.lit undef)) 0 k1 fun i a ha=>by
  show ((args.map AV.ac1)[0 + i]?).getD _ = a
  rw [Nat.zero_add,ha]
  rfl
 have hst : StA (S.enter f) S.lvl ⟨f,F,S,true,false⟩ A:=⟨rfl,rfl,rfl,FrOk.enter f (.inr rfl),k4 _ _ (fun _=>rfl) (fun q hq=>by have:=hlv q hq; omega),by
   refine ⟨by rw [k2]; exact hnd,fun it hi q hq _=>⟨k3 it hi,?_⟩,fun q hq=>?_,hlv⟩
   ·rw [← k2]; exact List.mem_flatMap.2 ⟨it,hi,hq⟩
   ·have hq : q ∈ F:=hq
    rw [← k2] at hq
    obtain ⟨it,h1,h2⟩:=ao3 hq
    exact ⟨it,h1,k3 it h1,h2⟩⟩
 obtain ⟨_,rfl,hst'⟩:=Mv.newJ _ hst
 obtain ⟨x,T',S',e1,e2,e3,u,⟨y,Tg,Sg,v0,l1,l2,l3,l4⟩,m1,m3,m4,as1,F1,F2,J,m5,_,m7,m8,m9,m10,m11,m12⟩:=hv.ok _ _ (A ++ [.jnk false [] []]) j1 (j2.app ⟨_,[],rfl,⟨rfl,j3⟩,rfl⟩) (aC5 (args.map AV.ac1)) (S.enter f) (Ag.args _) (hst'.perm (List.perm_append_comm (l₁:=[It.jnk false [] []])))
 -- the parts
 have xr : x ≠ .ret → x = .normal:=fun hx=>by rcases e2 with e2 | e2; exact absurd e2 hx; exact e2
 rw [aq1] at e1
 obtain ⟨T1,S1,p1,e1⟩:=b54 e1 xr (fun T S h=>cp7 ra h) (fun _ _ _ _=>trivial)
 rw [aq1] at e1
 obtain ⟨T2,S2,p2,e1⟩:=b54 e1 xr (fun T S h=>cp7 rb h) (fun _ _ _ _=>trivial)
 rw [aq1,aC4] at e1
 have hmf : bop P S2 T2 (some dm) (.mf g [.t b0,.t b1,.t b2]) = some (.val (.fn g [T2 b0,T2 b1,T2 b2])):=rfl
 rw [af5,hmf,bo4,cj4,aw4,aq6,cu6] at e1
 have d2 : S2.dfr = []:=(cc0 hG.ok nb p2).trans (cc0 hG.ok na p1)
 have e1':=cm7 hG.ok (ds:=[(g,[T2 b0,T2 b1,T2 b2])]) (c:=.block 0 (.loop c)) nc e1
 have q0 : ∀ t,c.keeps t = true → (!(dm == t)) = true → T' t = T2 t:=fun t h1 h2=>(cd7 (c:=.block 0 (.loop c)) h1 e1).trans (put_ne (by simpa using h2))
 have ef : (T2.put (some dm) (.fn g [T2 b0,T2 b1,T2 b2])) dm = .fn g [T2 b0,T2 b1,T2 b2]:=by
  show (if dm = dm then _ else _) = _
  rw [if_pos rfl]
 have hdf : bop P S2 (T2.put (some dm) (.fn g [T2 b0,T2 b1,T2 b2])) none (.gen (.defer ⟨.value (.tmp dm),#[],#[]⟩) 0) = some (.dfr g [T2 b0,T2 b1,T2 b2]):=by
  show aop P S2 (aevF _) ⟨none, .defer ⟨.value (.tmp dm), #[], #[]⟩, 0, "", #[], none⟩ = _
  simp only [aop,show aevF (T2.put (some dm) (.fn g [T2 b0,T2 b1,T2 b2])) (.tmp dm) = .fn g [T2 b0,T2 b1,T2 b2] from ef,aC8]
  rfl
 have hxr : an3 P (.seq a (.seq b (.seq (.ops [⟨some dm,none,.none,.mf g [.t b0,.t b1,.t b2]⟩,⟨none,none,.none,.gen (.defer ⟨.value (.tmp dm),#[],#[]⟩) 0⟩]) (.block 0 (.loop c))))) (aC5 (args.map AV.ac1)) (S.enter f) = some (x,T',S'.wd [(g,[T2 b0,T2 b1,T2 b2])]):=by
  rw [aq1,p1,aq6,aq1,p2,aq6,aq1,aC4,af5,hmf,bo4,af5,hdf,show (BO.gen (.defer ⟨.value (.tmp dm),#[],#[]⟩) 0).w = true from rfl,kr_dfr,cj4,aw4,aq6,d2]
  exact e1'
 have hwd : (S'.wd [(g,[T2 b0,T2 b1,T2 b2])]).wd [] = S':=by
  have : S'.wd S'.dfr = S':=rfl
  rw [e3] at this
  exact this
 rw [q0 b0 kc0 kd0,q0 b1 kc1 kd1,q0 b2 kc2 kd2] at l1
 have hun : ∀ r,r.l ≤ S.lvl → r ∉ (S'.after u).log → (S'.after u).get r = S.get r:=by
  rcases m4.un with h | h
  ·cases h
  ·exact h
 obtain ⟨v,u2,G1,G2,J',q1,q2,q3,q4,q5⟩:=bV9 (f:=f) (S:=S) (S':=S'.after u) hup (bO9 hki) hkr hat hlv (fun r h1 h2=>(m4.log r h1 h2).1) hun m7 m8 m9 m10 m11 m12
 have hlen : args.length = ins.length:=by rw [← List.length_map (f:=AV.ac1),hat.length]
 refine ⟨ao0 v,u2,G1,G2,J',?_,q2,cj9 q3,q4,q5⟩
 refine cy7 (b:=⟨nt,[],_⟩) (bg:=cu9 o1 o2) (cs:=[T2 b0,T2 b1,T2 b2]) (S0:=S'.wd [(g,[T2 b0,T2 b1,T2 b2])]) (r:=(ao0 v,u2)) hg hf hgf rfl rfl (by rw [hlen]; exact ag3 hn) (by rw [cH6 hup]; exact hxr) e2 rfl (show 3 ≤ 11 by omega) (y:=y) (Tg:=Tg) (Sg:=Sg) (v:=v0) (u:=u) (by rw [hwd]; exact l1) l2 l3 (by rw [hwd]; exact l4) (vs:=as1) (by rw [hwd]; exact m5 rfl) (by rw [hwd]; exact q1)
end
open Go.RowKit
section
variable [Cfg] {P : Program} {L : Nat} {f : Fr} {E : PE} {H : PH}
omit [Cfg] in
theorem cJ4 {w : Wit} {E' : Env} {A : List It} {T : BT} {S : AS} (h1 : EnvR w E E') (h2 : HR w L H A) (hT : Ag E' T) (hS : StA S L f A) {b id i : Nat} {u : Bool} {ks : List Nat} {dd : Option Nat} {t : TypeId} {c : PC} (hx : lk E b = some (.loc id 0)) (hH : fnd H id = some (i,.cel u ks dd t [c])) :
  ∃ q g v,T b = .ptr q g 0 0 ∧ S.get q = some (.obj g t [v]) ∧ c.r w v:=by
 obtain ⟨a,k1,k2⟩:=h1.look hx
 unfold PT.r at k2
 obtain ⟨p,g,k3,rfl⟩:=k2
 obtain ⟨p',g',ys,c1,c2,c3,c4⟩:=aF6 h2 hH
 rw [k3] at c2
 injection c2 with e1 e2
 subst e1 e2
 have hit:=hS.its _ (List.mem_of_getElem? c1)
 have hl:=c4.len
 obtain ⟨y,y1,y2⟩:=c4.get (show [c][0]? = some c from rfl)
 have : ys = [y]:=by
  cases ys with
  | nil=>cases y1
  | cons a r =>
   cases r with
   | nil=>simpa using y1
   | cons b r=>simp at hl
 subst this
 exact ⟨p,g,y,hT b _ k1,hit.1,y2.r⟩
theorem v_leave {x : AX} {g : FuncId} {o1 o2 b0 b1 b2 : Nat} {args : List AV} {br : List BR} {outs res : List OA} {id0 id1 id2 im i0 i1 i2 i : Nat} {u0 u1 u2 up : Bool} {ks0 ks1 ks2 ks : List Nat} {d0 d1 d2 dd : Option Nat} {t0 t1 t2 t : TypeId} {c1 c2 : PC} {cs : List PC} (hup : Cfg.up g f.fn = false)
  (h0 : lk E b0 = some (.loc id0 0)) (H0 : fnd H id0 = some (i0,.cel u0 ks0 d0 t0 [c1])) (h1 : lk E b1 = some (.loc id1 0)) (H1 : fnd H id1 = some (i1,.cel u1 ks1 d1 t1 [c2])) (h2 : lk E b2 = some (.loc id2 0)) (H2 : fnd H id2 = some (i2,.cel u2 ks2 d2 t2 [.k im])) (Hm : fnd H im = some (i,.cel up ks dd t cs))
  (s1 : stC H c1 = true) (s2 : stC H c2 = true) (hl1 : Nat.ble (o1 + 1) cs.length = true) (hl2 : Nat.ble (o2 + 1) cs.length = true) (hlen : Nat.ble cs.length 1000 = true)
  (k : VG x L f E (H.set i (im,.cel up ks dd t (at1 (at1 cs o1 [c1]) o2 [c2]))) (RetO f L false args br outs res)) (hx : x = .ret ∨ x = .normal:=by first | exact .inl rfl | exact .inr rfl) (hro : f.ro = false ∨ up = false:=by first | exact .inl rfl | exact .inr rfl) : VG x L f E H (cl6 P f L g o1 o2 b0 b1 b2 args br outs res):=.mk fun w E' A hE hA T S hT hS=>by
 obtain ⟨q0,g0,v1,a1,a2,a3⟩:=cJ4 hE hA hT hS h0 H0
 obtain ⟨q1,g1,v2,a4,a5,a6⟩:=cJ4 hE hA hT hS h1 H1
 obtain ⟨q2,g2,v3,a7,a8,a9⟩:=cJ4 hE hA hT hS h2 H2
 have a9 : v3 = w im:=a9
 subst a9
 obtain ⟨p,gp,ys,k3,k4,k5,k6⟩:=aF6 hA Hm
 have hit:=hS.its _ (List.mem_of_getElem? k3)
 obtain ⟨j1,j2,j3⟩:=bl5 hA s1 a3 hS
 obtain ⟨j4,j5,j6⟩:=bl5 hA s2 a6 hS
 have hlv : p.l ≤ S.lvl:=row_lv hS.lvl (.inr hit.2.1)
 have hy:=k6.len
 have l1:=ag3 hl1
 have l2:=ag3 hl2
 rw [k4] at a8
 obtain ⟨u,b1',b2'⟩:=cF0 (P:=P) (g:=g) (o1:=o1) (o2:=o2) (by rw [hS.fn]; exact hup) a2 a5 a8 hit.1 hlv ⟨j1,j2,by rw [hS.lvl]; exact j3.lv⟩ ⟨j4,j5,by rw [hS.lvl]; exact j6.lv⟩ (fun a ha=>by rw [hS.lvl]; exact (hit.2.2 a ha).lv) (by rw [hy]; exact l1) (by rw [hy]; exact l2) (by rw [hy]; exact ag3 hlen)
 have p1 : PCs w [c1] [v1]:=⟨v1,[],rfl,a3,rfl⟩
 have p2 : PCs w [c2] [v2]:=⟨v2,[],rfl,a6,rfl⟩
 have r1:=k6.spl p1 (by rw [List.all_cons,bp5 s1]; rfl) (by simpa using l1)
 have hlc : (at1 cs o1 [c1]).length = cs.length:=by
  unfold at1
  simp only [List.length_append,List.length_take,List.length_drop,List.length_cons,List.length_nil]
  omega
 have r2:=r1.spl p2 (by rw [List.all_cons,bp5 s2]; rfl) (by rw [hlc]; simpa using l2)
 have hset : HR w L (H.set i (im,.cel up ks dd t (at1 (at1 cs o1 [c1]) o2 [c2]))) (A.set i (.cel up ks p gp t (splice (splice ys o1 [v1]) o2 [v2]))) :=
  cz5 hA (ay5 Hm) ⟨p,gp,_,rfl,k4,k5,r2⟩
 have hS' : StA (S.set p (.obj gp t (splice (splice ys o1 [v1]) o2 [v2]))) L f (A.set i (.cel up ks p gp t (splice (splice ys o1 [v1]) o2 [v2]))) :=
  hS.setI k3 (p:=p) (List.mem_singleton.2 rfl) (it:=.cel up ks p gp t (splice (splice ys o1 [v1]) o2 [v2])) ⟨AS.get_set_same ..,hit.2.1,fun a ha=>by
   rcases aE9 ha with ha | ha
   ·rcases aE9 ha with ha | ha
    ·exact hit.2.2 a ha
    ·rw [List.mem_singleton.1 ha]; exact j3
   ·rw [List.mem_singleton.1 ha]; exact j6⟩ rfl rfl hA.okO (hro.imp id .inl)
 refine ⟨hx,hS.dfr,u,by rw [a1,a4,a7]; exact b1',?_⟩
 rw [b2']
 exact k.ok w E' _ hE hset T _ hT hS'
end
open Go.RowKit
def nilB : V → Option Bool
 | .nili=>some true
 | .ifc _ _ _=>some false
 | _=>none
class NilC (v : V) (b : outParam Bool) : Prop where
 ok : nilB v = some b
class MapI (t : TypeId) {K W : outParam Type} (κ : outParam (K → Value)) (χ : outParam (W → V)) : Prop where
section
variable [Cfg] {P : Program} {L : Nat} {f : Fr} {E : PE} {H : PH} {Φ : ag1} {m : Option (List (Nat × Nat))} {acc : AAcc} {r : List BI} {d : Nat} {γ : Type}
class IfcI (P : Program) (t : TypeId) : Prop where
 ok : ∃ m,P.underlying t = some (.interface m)
theorem v_mkN {K W : Type} {κ : K → Value} {χ : W → V} {t ty : TypeId} {nn : Nat} [MapI t κ χ] [Rk f d nn] (hf : bp7 d H = true) (hb : (bndE nn E && bndH nn H) = true) (h : VO P m (accP acc (some [d],some [d])) r L f ((d,.c (.k nn)) :: E) ((nn,.own false [d] (Mp.o κ χ [])) :: H) Φ) : VO P m acc (⟨some d,none,.here,.gen (.makeMap t none) ty⟩ :: r) L f E H Φ:=v_mkM hf hb h
theorem aop_nilI {S : AS} {ρ : Operand → AV} {d : Option Tmp} {op : BinOp} {ne : Bool} {x : Operand} {t yt ty : TypeId} {m : Array (String × TypeId)} {pos : String} {aft : Array Edge} {g : Option (Nat × Bool)} (hn : neOp op = some ne) (hu : P.underlying t = some (.interface m)) (hx : ρ x = .lit .nilIface) (hy : ρ (.const .nilIface) = .lit .nilIface) :
  aop P S ρ ⟨d,.binOp op t x (.const .nilIface) yt,ty,pos,aft,g⟩ = some (.val (.lit (.bool (true != ne)))):=by
 refine ba1 (v:=.bool (true != ne)) (a:=.nilIface) (b:=.nilIface) (by rw [hx]; rfl) (by rw [hy]; rfl) (aI9 ?_) ?_ ?_
 ·rw [hx,hy]; unfold ax7; rw [hu]; rfl
 ·unfold eqGuard; split <;> first | rfl | (simp only [Bool.or_true,if_true,Bool.not_true,Bool.false_eq_true,if_false]; rfl) | (simp; rfl)
 ·refine aA8 hn (by simp) (by simp) (by simp) (by simp) ?_
  show aa3 P (Op.equalIn (9999 + 1) t .nilIface .nilIface) = _
  unfold Op.equalIn
  rw [aa7,ah9 hu]
  simp [ah0]
theorem t_ni {x : Operand} {t yt ty : TypeId} {op : BinOp} {ne b : Bool} {v : V} (hn : neOp op = some ne) (hx : od E (af1 x) = some (.c (.v v))) [hv : NilC v b] [hu : IfcI P t] : VS P L f E H d .none (.gen (.binOp op t x (.const .nilIface) yt) ty) af0 (.c (.v (.bool (b != ne)))):=.mk fun w E' A h1 h2=>by
 obtain ⟨e,hu⟩:=hu.ok
 obtain ⟨a,k1,k2⟩:=h1.opd hx
 have k2 : RelC v a:=PT.af8.1 k2
 have hv:=hv.ok
 refine aN7 fun T S hT=>?_
 have hxa : aevF T x = a:=hT.at k1
 have hy : aevF T (.const .nilIface) = .lit .nilIface:=rfl
 cases v with
 | nili =>
  cases hv
  unfold RelC at k2
  subst k2
  exact ⟨_,by simp only [bop]; exact aop_nilI hn hu hxa hy,aR0⟩
 | ifc tt bb cs =>
  cases hv
  unfold RelC at k2
  obtain ⟨ys,_,k2⟩:=k2
  refine ⟨.lit (.bool (false != ne)),?_,aR0⟩
  rcases k2 with ⟨_,rfl⟩ | ⟨_,y,_,rfl⟩ <;> rcases bb4 hn with ⟨rfl,rfl⟩ | ⟨rfl,rfl⟩ <;> simp only [bop,aop,hxa,hy,acmp,ax7,hu,aM4,if_true,Option.map_some,an7] <;> rfl
 | _=>cases hv
omit [Cfg] in
theorem normA_sp {x : AV} {sp : ap1} {n : Nat} {ys : List (List AV)} (h : x.ac1 = .list sp n ys) : sp = .no:=by
 cases x <;> (first | (cases h; rfl) | cases h)
theorem rep_args {g : FuncId} {args : List AV} (ha : RVN [.sl 1 (([-1] : List Int).map (aD9 .i64)),.int .i64 2] args) (hc : ∃ v,ah6 P g [.list .no 1 [[.lit (.int .i64 (-1))]],.lit (.int .i64 2)] .bare = some (.ret v,none) ∧ RelC (.sl 1 [[.int .i64 (-1)],[.int .i64 (-1)]]) v) : cg5 P g args (ResC [.sl 1 (([-1,-1] : List Int).map (aD9 .i64))]):=by
 obtain ⟨a,t,e1,h1,b,t2,e2,h2,e3⟩:=ha
 have e3 : t2 = []:=e3
 subst e3 e2
 have h2 : b = .lit (.int .i64 2):=h2
 subst h2
 have h1 : RelC (.sl 1 [[.int .i64 (-1)]]) a:=h1
 unfold RelC at h1
 rcases h1 with ⟨h,_⟩ | ⟨sp,ys,rfl,_,h1⟩
 ·cases h
 ·unfold ab8 at h1
  obtain ⟨y,t,rfl,h3,h4⟩:=h1
  unfold ab8 at h4
  subst h4
  unfold ab1 at h3
  obtain ⟨z,t,rfl,h5,h6⟩:=h3
  unfold ab1 at h6
  subst h6
  have h5 : z = .lit (.int .i64 (-1)):=by unfold RelC at h5; exact h5
  subst h5
  have hsp : sp = .no:=by
   cases args with
   | nil=>cases e1
   | cons x r=>rw [List.map_cons] at e1; exact normA_sp (List.cons.inj e1).1
  subst hsp
  obtain ⟨v,q1,q2⟩:=hc
  exact ⟨v,by rw [e1]; exact q1,q2⟩
theorem v_opnL {x : AX} {g : FuncId} {o1 o2 b0 b1 b2 : Nat} {args : List AV} {br : List BR} {outs res : List OA} {id2 im i2 i : Nat} {u2 up : Bool} {ks2 ks : List Nat} {d2 : Option Nat} {t2 t : TypeId} {os : List OV} (_h2 : lk E b2 = some (.loc id2 0)) (_H2 : fnd H id2 = some (i2,.cel u2 ks2 d2 t2 [.k im])) (h : fnd H im = some (i,.own up ks (.ptr t os))) (hb : (bndE 900000 E && bndH 900000 H) = true)
  (k : VG x L f E ((im,.cel up ks none t (opP up ks 900000 os).1) :: ((opP up ks 900000 os).2 ++ H.eraseIdx i)) (cl6 P f L g o1 o2 b0 b1 b2 args br outs res)) : VG x L f E H (cl6 P f L g o1 o2 b0 b1 b2 args br outs res):=.mk fun w E' A h1 h2 T S hT hS=>by
 obtain ⟨w',A2,q1,q2,q3⟩:=mv_opn 900000 h hb w E' A S h1 h2 hS
 exact k.ok w' E' A2 q1 q2 T S hT q3
end
end Go.Proofs.YtdcfkmgnkhkoeaaGreatDoor
