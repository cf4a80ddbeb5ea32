/-
  A part of the proof: packed by a program.
-/
import Derived.Test.YtdcfkmgnkhkoeaaGreatDoorQM1
import Derived.Recover
import Derived.IntWalk
import Derived.Laws.Strings
import Derived.Below
import Derived.Test.YtdcfkmgnkhkoeaaGreatDoorProg
import Derived.KernelRfl
import Derived.Shelf.Strings.Builder1
import Derived.Shelf.SlMaps.Clone
set_option maxRecDepth 100000
set_option maxHeartbeats 4000000
set_option linter.unusedVariables false
set_option linter.unusedSimpArgs false
namespace Go.Proofs.YtdcfkmgnkhkoeaaGreatDoor
open Go.RowKit
section
variable {P : Program} {G : Gh} {S : AS} {w : World} {B : Nat → Nat}
def AE.rel (G : Gh) : AE → Ending → Prop
 | .ret v,e=>∃ u,e = .returned u ∧ VRel G v u
 | .pan v,e=>∃ u,e = .panicked [{ v:=u,recovered:=false }] ∧ VRel G v u
def bA3 [Cfg] (P : Program) (Δ : af4) : Prop:=∀ f args S x r,Δ f args S = some (x,r) → (∀ args' w,(callFunc f args').run P w = .ok (.enter f args') w) ∧
 ∀ G w B args',WRel G S w B → CRel G args args' → Calls P f args'.toArray w fun e w'=>∃ G',AE.rel G' x e ∧ WRel G' (S.after r) w' B ∧ Mod G S w G' (S.after r) w'
def Gh.bare (G : Gh) : Gh:={ own:=fun _ _ _=>none,imm:=G.imm,far:=G.far }
def Gh.over (G G' : Gh) : Gh:={ own:=G.own,imm:=G'.imm,far:=G'.far }
theorem WRel.bare [Cfg] (h : WRel G S w B) : WRel G.bare .bare w (fun _=>G.far):=by
 refine ⟨h.imm,fun p s hp=>?_,fun p s hp=>?_,fun p q s t hp=>?_,fun p g n x ho=>?_,fun p g n b c ho=>?_,fun l m _ _=>Nat.le_refl _,fun l _=>Nat.le_trans h.far.1 (h.fits 0 (Nat.zero_le _)),Nat.le_refl _,h.far.2⟩
 ·cases hp
 ·cases hp
 ·cases hp
 ·cases ho
 ·cases ho
theorem WRel.frame [Cfg] {G' : Gh} {w' : World} {C : Nat → Nat} (h : WRel G S w B) (h' : WRel G' .bare w' C) (hm : Mod G.bare .bare w G' .bare w') :
  G'.le (G.over G') ∧ WRel (G.over G') S w' B ∧ Mod G S w (G.over G') S w':=by
 have hno : ∀ p g n x,G'.own p g n ≠ some x:=fun p g n x ho=>by
  obtain ⟨_,s,hs,_⟩:=h'.dom p g n x ho
  cases hs
 have himm : ∀ b o v,G.imm b o = some v → G'.imm b o = some v:=fun b o v hi=>hm.le.imm b o v hi
 have hle : G.le (G.over G'):=⟨fun _ _ _ _ e=>e,himm,hm.le.far⟩
 obtain ⟨nl,_,b1,_,i1⟩:=hm.log
 have hold : ∀ b o v,G'.imm b o = some v → b < w.heap.size → G.imm b o = some v:=fun b o v hi hb=>by
  rcases i1 b o v hi with k | k | ⟨p,_,g,n,c,ho⟩
  ·exact k
  ·omega
  ·exact absurd ho (hno p g n _)
 have hheap : ∀ b,b < w.heap.size → w'.heap[b]? = w.heap[b]? ∨ bm0 G' w.heap[b]? w'.heap[b]? b:=fun b hb=>by
  rcases b1 b hb with k | k | ⟨p,_,g,n,c,ho⟩
  ·exact .inl k
  ·exact .inr k
  ·exact absurd ho (hno p g n _)
 have hnone : ∀ b o,b < w.heap.size → G.imm b o = none → G'.imm b o = none:=fun b o hb hn=>by
  cases hi : G'.imm b o with
  | none=>rfl
  | some v=>rw [hold b o v hi hb] at hn; cases hn
 refine ⟨⟨fun p g n x ho=>absurd ho (hno p g n x),fun _ _ _ e=>e,rfl⟩,⟨h'.imm,fun p s hp hl b c ho=>?_,h.lvs,h.apart,h.dom,fun p g n b c ho=>?_,h.mono,fun l hl=>Nat.le_trans (h.fits l hl) hm.size,by rw [show (G.over G').far = G.far from hm.le.far]; exact h.far.1,fun x hx=>(h.far.2 x hx).imp fun _ k=>⟨himm _ _ _ k.1,k.2⟩⟩,
  ⟨hle,rfl,rfl,⟨fun _=>False,fun p=>by simp,fun b hb=>?_,fun p _ _=>⟨rfl,fun _ _=>rfl⟩,fun b o v hi=>?_⟩,hm.os,hm.tape,hm.output,hm.size⟩⟩
 ·have hb:=(h.base p _ _ b c ho).2
  have hs:=h.slot p s hp hl b c ho
  cases s with
  | obj g t cs =>
   obtain ⟨k1,vs,fr,k2,k3,k4⟩:=hs
   have hn:=fun o=>hnone b o hb (k1 o)
   rcases hheap b hb with e | ⟨_,_,_,_,_,_,⟨o,v,e⟩,_,_⟩
   ·exact ⟨hn,vs,fr,by rw [e]; exact k2,k3,k4.mono hle⟩
   ·rw [hn o] at e; cases e
  | tok g n sz e =>
   obtain ⟨k1,vs,fr,k2,k3,k4,k5⟩:=hs
   have hn:=fun o ho=>hnone b o hb (k1 o ho)
   rcases hheap b hb with e' | ⟨vs',t',fr1,fr2,e1,e2,_,_,e4⟩
   ·exact ⟨hn,vs,fr,by rw [e']; exact k2,k3,k4,k5⟩
   ·rw [k2] at e1
    cases e1
    refine ⟨hn,vs,fr2,e2,k3,k4,Nat.le_of_not_lt fun hgt=>?_⟩
    rcases e4 (n * sz) hgt with m1 | ⟨o',v,m1,m2⟩
    ·omega
    ·rw [hn o' m1] at m2; cases m2
  | row g n sz e cs =>
   obtain ⟨k1,vs,fr,k2,k3,k4,k5,k6,k7⟩:=hs
   have hn:=fun o=>hnone b o hb (k1 o)
   rcases hheap b hb with e' | ⟨_,_,_,_,_,_,⟨o,v,e'⟩,_,_⟩
   ·exact ⟨hn,vs,fr,by rw [e']; exact k2,k3,k4,k5,k6,k7.mono hle⟩
   ·rw [hn o] at e'; cases e'
  | map g es ck =>
   obtain ⟨ents,k1,k2⟩:=hs
   rcases hheap b hb with e' | ⟨_,_,_,_,e',_⟩
   ·exact ⟨ents,by rw [e']; exact k1,k2.mono hle⟩
   ·rw [k1] at e'; cases e'
  | iter g s pos =>
   rcases hheap b hb with e' | ⟨_,_,_,_,e',_⟩
   ·show w'.heap[b]? = _
    rw [e']; exact hs
   ·rw [show w.heap[b]? = _ from hs] at e'; cases e'
  | dead g n=>cases hl
 ·obtain ⟨k1,k2⟩:=h.base p g n b c ho
  exact ⟨k1,Nat.lt_of_lt_of_le k2 hm.size⟩
 ·rcases hheap b hb with k | k
  ·exact .inl k
  ·exact .inr (.inl k)
 ·rcases Nat.lt_or_ge b w.heap.size with hb | hb
  ·exact .inl (hold b o v hi hb)
  ·exact .inr (.inl hb)
theorem AE.rel.mono {G H : Gh} (h : G.le H) {x : AE} {e : Ending} (k : x.rel G e) : x.rel H e:=by
 cases x with
 | ret v=>obtain ⟨u,h1,h2⟩:=k; exact ⟨u,h1,h2.mono h⟩
 | pan v=>obtain ⟨u,h1,h2⟩:=k; exact ⟨u,h1,h2.mono h⟩
theorem bA3.closed [Cfg] {Δ : af4} (hΔ : bA3 P Δ) {f : FuncId} {args : List AV} {x : AE} (h : Δ f args .bare = some (x,none)) (hc : AV.ac4 args = true) (hW : WRel G S w B) {args' : List Value} (ha : CRel G args args') :
  Calls P f args'.toArray w fun e w'=>∃ G',AE.rel G' x e ∧ WRel G' S w' B ∧ Mod G S w G' S w':=by
 have ha' : CRel G.bare args args':=⟨ha.1,fun i a v h1 h2=>(ha.2 i a v h1 h2).closed (G:=G) (H:=G.bare) (fun _ _ _ e=>e) (AV.aw1 hc h1)⟩
 refine ((hΔ f args .bare x none h).2 G.bare w _ args' hW.bare ha').mono ?_
 rintro e w' ⟨G',h1,h2,h3⟩
 obtain ⟨k1,k2,k3⟩:=hW.frame h2 h3
 exact ⟨_,h1.mono k1,k2,k3⟩
theorem AS.cF3 (S : AS) (r : Upd) : (S.after r).dfr = S.dfr:=by cases r <;> rfl
theorem bE8 [Cfg] (hC : bp6 P) {Δ : af4} (hΔ : bA3 P Δ) {ops : Array Oper} {o : Oper} {T T' : TM} {S' : AS} {f : Foot} {x : Option AV} {a : Act} (h : ai8 P Δ ops o T S = some (f,T',S',x)) (hW : WRel G S w B) (hT : TRel G S T a)
  {K : Act → World → Prop} {Q : Exit → Act → World → Prop} (hK : x = none → ∀ G' a' w',WRel G' S' w' B → TRel G' S' T' a' → Mod G S w G' S' w' → K a' w')
  (hQ : ∀ v,x = some v → ∀ G' a' w' u,VRel G' v u → WRel G' S' w' B → TRel G' S' T' a' → Mod G S w G' S' w' → Q (.panic [{ v:=u,recovered:=false }]) a' w') :
  if Region.wanted o (Go.yielded ops a.tmps) then o.wp P a w K Q else K (a.put o.dst undef) w:=by
 unfold ai8 at h
 rw [hT.yielded]
 split at h
 ·rename_i hw
  rw [if_pos hw]
  cases hx : aop P S (aev T) o with
  | none=>simp [hx] at h
  | some y =>
   have hs:=cE3 hC hW hT hx
   unfold Oper.wp
   rw [hx] at h
   cases y with
   | val v =>
    simp only [Option.some.injEq,Prod.mk.injEq] at h
    obtain ⟨_,rfl,rfl,rfl⟩:=h
    obtain ⟨G',w',u,hr,hv,k1,k2⟩:=hs
    rcases hr with hr | ⟨hr,rfl⟩
    ·rw [hr]; exact hK rfl G' _ w' k1 ((hT.mono k2.le rfl).put o.dst hv) k2
    ·rw [hr]; exact hK rfl G' _ w' k1 ((hT.mono k2.le rfl).put o.dst hv) k2
   | chg v p s =>
    simp only [Option.ite_none_right_eq_some,Option.some.injEq,Prod.mk.injEq] at h
    obtain ⟨_,_,rfl,rfl,rfl⟩:=h
    obtain ⟨G',w',u,hr,hv,k1,k2⟩:=hs
    rcases hr with hr | ⟨hr,rfl⟩
    ·rw [hr]; exact hK rfl G' _ w' k1 ((hT.mono k2.le (S':=S.set p s) rfl).put o.dst hv) k2
    ·rw [hr]; exact hK rfl G' _ w' k1 ((hT.mono k2.le (S':=S.set p s) rfl).put o.dst hv) k2
   | pan v =>
    simp only [Option.some.injEq,Prod.mk.injEq] at h
    obtain ⟨_,rfl,rfl,rfl⟩:=h
    obtain ⟨u,hv,hr⟩:=hs
    rw [hr,Oper.upon_panic]
    exact hQ v rfl G a w u hv hW hT (Mod.refl G S w)
   | dfr g args =>
    simp only [Option.ite_none_right_eq_some,Option.some.injEq,Prod.mk.injEq] at h
    obtain ⟨_,_,rfl,rfl,rfl⟩:=h
    obtain ⟨d,hr,cap,k1,k2⟩:=hs
    rw [hr,Oper.upon_defer]
    refine hK rfl G _ w ⟨hW.imm,hW.slot,hW.lvs,hW.apart,hW.dom,hW.base,hW.mono,hW.fits,hW.far⟩ (TRel.put (S:={ S with dfr:=(g,args) :: S.dfr }) (a:={ a with defers:=d :: a.defers }) ⟨hT.1,⟨cap,k1,k2⟩,hT.2⟩ o.dst (.lit _))
     ⟨Gh.le.refl G,rfl,rfl,⟨fun _=>False,fun _=>by simp,fun _ _=>.inl rfl,fun _ _ _=>⟨rfl,fun _ _=>rfl⟩,fun _ _ _ h=>.inl h⟩,rfl,rfl,rfl,Nat.le_refl _⟩
   | call g args =>
    obtain ⟨args',hargs,hr⟩:=hs
    simp only [Option.ite_none_right_eq_some] at h
    replace h:=h.2
    rw [hr]
    have main : ∃ (y : AE) (S1 : AS),S1.dfr = S.dfr ∧ (∀ args' w,(callFunc g args').run P w = .ok (.enter g args') w) ∧ (Calls P g args'.toArray w fun e w'=>∃ G',AE.rel G' y e ∧ WRel G' S1 w' B ∧ Mod G S w G' S1 w') ∧
      S' = S1 ∧ (match y with | .ret v=>T' = T.put o.dst v ∧ x = none | .pan v=>T' = T ∧ x = some v):=by
     split at h
     ·rename_i hc
      simp only [Bool.and_eq_true] at hc
      cases hd : Δ g (args.map AV.ac1) .bare with
      | none=>simp [hd] at h
      | some z =>
       obtain ⟨y,r⟩:=z
       rw [hd] at h
       cases r with
       | some u=>cases y <;> cases h
       | none =>
        refine ⟨y,S,rfl,(hΔ g (args.map AV.ac1) .bare y none hd).1,hΔ.closed hd hc.2 hW hargs.ac1,?_⟩
        cases y with
        | ret v =>
         simp only [Option.some.injEq,Prod.mk.injEq] at h
         exact ⟨h.2.2.1.symm,h.2.1.symm,h.2.2.2.symm⟩
        | pan v =>
         simp only [Option.some.injEq,Prod.mk.injEq] at h
         exact ⟨h.2.2.1.symm,h.2.1.symm,h.2.2.2.symm⟩
     ·cases hd : Δ g args S with
      | none=>simp [hd] at h
      | some z =>
       obtain ⟨y,r⟩:=z
       rw [hd] at h
       refine ⟨y,S.after r,AS.cF3 S r,(hΔ g args S y r hd).1,(hΔ g args S y r hd).2 G w B args' hW hargs,?_⟩
       cases y with
       | ret v =>
        simp only [Option.some.injEq,Prod.mk.injEq] at h
        exact ⟨h.2.2.1.symm,h.2.1.symm,h.2.2.2.symm⟩
       | pan v =>
        simp only [Option.some.injEq,Prod.mk.injEq] at h
        exact ⟨h.2.2.1.symm,h.2.1.symm,h.2.2.2.symm⟩
    obtain ⟨y,S1,hdf,k1,k2,rfl,k3⟩:=main
    rw [k1]
    simp only [Oper.upon]
    refine k2.mono ?_
    rintro e w' ⟨G',hrel,m1,m2⟩
    cases y with
    | ret v =>
     obtain ⟨rfl,rfl⟩:=k3
     obtain ⟨u,rfl,hv⟩:=hrel
     exact hK rfl G' _ w' m1 ((hT.mono m2.le hdf).put o.dst hv) m2
    | pan v =>
     obtain ⟨rfl,rfl⟩:=k3
     obtain ⟨u,rfl,hv⟩:=hrel
     exact hQ v rfl G' _ w' u hv m1 (hT.mono m2.le hdf) m2
 ·rename_i hw
  rw [if_neg hw]
  simp only [Option.some.injEq,Prod.mk.injEq] at h
  obtain ⟨_,rfl,rfl,rfl⟩:=h
  exact hK rfl G _ w hW (hT.put o.dst (.lit _)) (Mod.refl G S w)
def XRel (G : Gh) : AX → Exit → Prop
 | .normal,.normal=>True
 | .exit i,.exit j=>i = j
 | .ret,.ret=>True
 | .pan v,e=>∃ u,e = .panic [{ v:=u,recovered:=false }] ∧ VRel G v u
 | _,_=>False
def Reached [Cfg] (G : Gh) (S : AS) (w : World) (B : Nat → Nat) (x : AX) (T' : TM) (S' : AS) (e : Exit) (a' : Act) (w' : World) : Prop :=
 ∃ G',XRel G' x e ∧ WRel G' S' w' B ∧ TRel G' S' T' a' ∧ Mod G S w G' S' w'
theorem Reached.trans [Cfg] {H : Gh} {T1 : AS} {v w' : World} {x : AX} {T' : TM} {S' : AS} {e : Exit} {a' : Act} (hm : Mod H T1 v G S w) (h : Reached G S w B x T' S' e a' w') : Reached H T1 v B x T' S' e a' w':=by
 obtain ⟨G',h1,h2,h3,h4⟩:=h
 exact ⟨G',h1,h2,h3,hm.trans h4⟩
def endOf : Option AV → AX
 | none=>.normal
 | some v=>.pan v
theorem aI0 [Cfg] (hC : bp6 P) {Δ : af4} (hΔ : bA3 P Δ) {ops : Array Oper} {Q : Exit → Act → World → Prop} : ∀ (l : List Oper) (pi : List Nat) (T T' : TM) (S S' : AS) (fs : List Foot) (x : Option AV) (G : Gh) (a : Act) (w : World),pi.map (ops[·]?) = l.map some →
  aj8 P Δ ops l T S = some (fs,T',S',x) → WRel G S w B → TRel G S T a → (∀ e a' w',Reached G S w B (endOf x) T' S' e a' w' → Q e a' w') → wpOps P ops Q pi a w
 | [],[],T,T',S,S',fs,x,G,a,w,_,h,hW,hT,hQ=>by
  simp only [aj8,Option.some.injEq,Prod.mk.injEq] at h
  obtain ⟨_,rfl,rfl,rfl⟩:=h
  exact hQ _ a w ⟨G,trivial,hW,hT,Mod.refl G S w⟩
 | o :: l,i :: pi,T,T',S,S',fs,x,G,a,w,hp,h,hW,hT,hQ=>by
  simp only [List.map_cons,List.cons.injEq] at hp
  unfold aj8 at h
  cases hs : ai8 P Δ ops o T S with
  | none=>simp [hs] at h
  | some y =>
   obtain ⟨f,T1,S1,y⟩:=y
   rw [hs] at h
   have key : if Region.wanted o (Go.yielded ops a.tmps) then o.wp P a w (wpOps P ops Q pi) Q else wpOps P ops Q pi (a.put o.dst undef) w:=by
    refine bE8 hC hΔ hs hW hT ?_ ?_
    ·rintro rfl G' a' w' h1 h2 h3
     simp only at h
     cases hr : aj8 P Δ ops l T1 S1 with
     | none=>simp [hr] at h
     | some z =>
      obtain ⟨fs',T2,S2,z⟩:=z
      simp only [hr,Option.some.injEq,Prod.mk.injEq] at h
      obtain ⟨_,rfl,rfl,rfl⟩:=h
      exact aI0 hC hΔ l pi T1 T2 S1 S2 fs' z G' a' w' hp.2 hr h1 h2 fun e a'' w'' k=>hQ e a'' w'' (k.trans h3)
    ·rintro v rfl G' a' w' u hv h1 h2 h3
     simp only [Option.some.injEq,Prod.mk.injEq] at h
     obtain ⟨_,rfl,rfl,rfl⟩:=h
     exact hQ _ a' w' ⟨G',⟨u,rfl,hv⟩,h1,h2,h3⟩
   unfold wpOps
   rw [hp.1]
   simp only
   split
   ·rename_i hw; rw [if_pos hw] at key; exact .inl key
   ·rename_i hw; rw [if_neg hw] at key; exact key
 | [],_ :: _,_,_,_,_,_,_,_,_,_,hp,_,_,_,_=>by simp at hp
 | _ :: _,[],_,_,_,_,_,_,_,_,_,hp,_,_,_,_=>by simp at hp
end
open Go.RowKit
section
variable {P : Program}
theorem bv9 {ρ ρ' : Operand → AV} (o : Oper) (h : ∀ x ∈ o.op.operands,ρ x = ρ' x) : aD3 P ρ o = aD3 P ρ' o:=by
 unfold aD3
 have e1 : o.op.operands.all (fun x=>(ρ x).toV.isSome) = o.op.operands.all (fun x=>(ρ' x).toV.isSome):=by
  rw [Bool.eq_iff_iff,Array.all_eq_true_iff_forall_mem,Array.all_eq_true_iff_forall_mem]
  exact ⟨fun k x hx=>by rw [← h x hx]; exact k x hx,fun k x hx=>by rw [h x hx]; exact k x hx⟩
 rw [e1]
 split
 ·rename_i hc
  simp only [Bool.and_eq_true] at hc
  rw [execOp_congr (ρ:=fun x=>((ρ x).toV).getD undef) (ρ':=fun x=>((ρ' x).toV).getD undef) o (fun cs b e=>by rw [e] at hc; simp [aJ0] at hc) fun x hx=>by rw [h x hx]]
 ·rfl
theorem b42 {ρ ρ' : Operand → AV} {r r' : Option AR} (o : Oper) (h : ∀ x ∈ o.op.operands,ρ x = ρ' x) (hr : r = r') : an7 r P ρ o = an7 r' P ρ' o:=by
 unfold an7
 rw [hr,bv9 o h]
set_option maxHeartbeats 4000000 in
theorem bD2 [Cfg] {S : AS} {ρ ρ' : Operand → AV} (o : Oper) (h : ∀ x ∈ o.op.operands,ρ x = ρ' x) : aop P S ρ o = aop P S ρ' o ∧ aA6 S ρ o = aA6 S ρ' o:=by
 have hp:=bv9 (P:=P) o h
 have ho : ∀ {r r' : Option AR},r = r' → an7 r P ρ o = an7 r' P ρ' o:=fun e=>b42 o h e
 obtain ⟨dst,op,type,pos,after,guard⟩:=o
 have parts : ∀ ps : Array (Nat × Operand),(∀ x ∈ ps.map (·.2),ρ x = ρ' x) → (ps.toList.map fun (i,x)=>(i,ρ x)) = (ps.toList.map fun (i,x)=>(i,ρ' x)):=fun ps k =>
  List.map_congr_left fun p hm=>by
   obtain ⟨i,x⟩:=p
   simp only [k x (Array.mem_map.2 ⟨(i,x),Array.mem_toList_iff.1 hm,rfl⟩)]
 cases op <;> simp only [Op.operands] at h <;> simp only [aop,aA6]
 case build t ps=>exact ⟨by rw [parts ps fun x hx=>h x (by simpa using hx)],trivial⟩
 case buildSlice t n ps=>exact ⟨by rw [parts ps fun x hx=>h x (by simpa using hx)],trivial⟩
 case makeFunc fn first captured =>
  refine ⟨?_,trivial⟩
  rw [List.map_congr_left (l:=captured.toList) (f:=ρ) (g:=ρ') fun x hx=>h x (by simp; exact .inr (Array.mem_toList_iff.1 hx))]
 case slice t x lo hi mx =>
  refine ⟨ho ?_,trivial⟩
  cases lo <;> cases hi <;> cases mx <;> simp_all
 case call c =>
  have hargs : ∀ x ∈ c.args.toList,ρ x = ρ' x:=fun x hx=>h x (by simp [Call.operands]; exact .inr (Array.mem_toList_iff.1 hx))
  cases hc : c.callee with
  | value f =>
   have hf : ρ f = ρ' f:=h f (by simp [Call.operands,hc])
   simp only [hf,List.map_congr_left hargs]
   rw [hp]
   exact ⟨by first | rfl | trivial,by first | rfl | trivial⟩
  | invoke r m=>exact ⟨by first | rfl | trivial,by first | rfl | trivial⟩
  | builtin b =>
   cases b
   case append=>exact ⟨by simp only [List.map_congr_left hargs],by simp only [List.map_congr_left hargs]⟩
   case len=>exact ⟨ho (by rw [List.map_congr_left hargs]),by simp only [List.map_congr_left hargs]⟩
   case copy=>exact ⟨by simp only [List.map_congr_left hargs],rfl⟩
   all_goals first | exact ⟨hp,rfl⟩ | exact ⟨rfl,rfl⟩
 case defer c =>
  have hargs : ∀ x ∈ c.args.toList,ρ x = ρ' x:=fun x hx=>h x (by simp [Call.operands]; exact .inr (Array.mem_toList_iff.1 hx))
  cases hc : c.callee with
  | value f =>
   have hf : ρ f = ρ' f:=h f (by simp [Call.operands,hc])
   simp only [hf,List.map_congr_left hargs]
   exact ⟨by first | rfl | trivial,by first | rfl | trivial⟩
  | invoke r m=>exact ⟨by first | rfl | trivial,by first | rfl | trivial⟩
  | builtin b=>exact ⟨by first | rfl | trivial,by first | rfl | trivial⟩
 case makeMap t r=>exact ⟨by first | rfl | trivial,by first | rfl | trivial⟩
 all_goals first
  | exact ⟨rfl,rfl⟩
  | exact ⟨hp,rfl⟩
  | (refine ⟨?_,?_⟩ <;> simp_all; done)
  | (refine ⟨ho ?_,?_⟩ <;> simp_all; done)
def ae9 : FK → AS → AS → Prop
 | .none,_,_=>True
 | .slots L,S,S'=>∀ p ∈ L,S.get p = S'.get p
 | .all,S,S'=>S' = S
theorem ae9.with {S S' : AS} {a b : FK} (h : ae9 (a.with b) S S') : ae9 a S S' ∧ ae9 b S S':=by
 cases a with
 | none=>cases b <;> exact ⟨trivial,h⟩
 | slots L=>cases b with
  | none=>exact ⟨h,trivial⟩
  | slots M=>exact ⟨fun p hp=>h p (List.mem_append_left _ hp),fun p hp=>h p (List.mem_append_right _ hp)⟩
  | all=>have h : S' = S:=h; subst h; exact ⟨fun _ _=>rfl,rfl⟩
 | all=>have h : S' = S:=(by cases b <;> exact h); subst h; exact ⟨rfl,by cases b <;> simp [ae9]⟩
section
variable {S S' : AS}
theorem aL4 {p : Loc} (h : S.get p = S'.get p) (g n : Nat) : S.ai0 p g n = S'.ai0 p g n:=by simp only [AS.ai0,h]
theorem ch0 {a : AV} (h : ae9 (ae8 a) S S') : bg7 S a = bg7 S' a:=by
 cases a <;> first | rfl | skip
 simp only [bg7,aL4 (h _ (List.mem_singleton.2 rfl))]
theorem aZ1 {sz : Nat} {a : AV} (h : ae9 (ae8 a) S S') : al2 S sz a = al2 S' sz a:=by
 cases a with
 | row sp p g n off len sz'=>simp only [al2,aL4 (h _ (List.mem_singleton.2 rfl))]
 | lit v=>cases v <;> first | rfl | (rename_i a n c; cases a <;> cases n <;> cases c <;> rfl)
 | _=>rfl
theorem ci0 {p : Loc} (h : S.get p = S'.get p) (g n off : Nat) (ys : List AV) : S.write p g n off ys = S'.write p g n off ys:=by simp only [AS.write,aL4 h,h]
theorem bA9 {p : Loc} (h : S.get p = S'.get p) : S.fresh p = S'.fresh p:=by simp only [AS.fresh,h]
theorem br7 (hl : S.lvl = S'.lvl) (d : Tmp) : S.here d = S'.here d:=by simp only [AS.here,hl]
theorem bW8 [Cfg] (hl : S.lvl = S'.lvl) (hf : S.fn = S'.fn) {d : Option Tmp} {t : TypeId} {s x : AV} (h : ae9 (aC9 S d [s,x]) S S') : aI5 P S d t s x = aI5 P S' d t s x:=by
 have hx : ae9 (ae8 x) S S':=by
  unfold aC9 at h
  split at h
  ·rename_i e; cases e
   split at h
   ·exact h.with.2
   ·exact h.with.2
   ·exact h.with.2
  ·rename_i hn; exact absurd rfl (hn _ _)
 have hel : ∀ sz,al2 S sz x = al2 S' sz x:=fun sz=>aZ1 hx
 cases d with
 | none=>unfold aI5; generalize P.underlying t = u; cases u with
  | none=>rfl
  | some dd=>cases dd <;> rfl
 | some d =>
  have hnew : ae9 (aH2 S (some d)) S S' → ∀ e sz es,ay3 S d e sz es = ay3 S' d e sz es:=fun k e sz es=>by
   have k:=bA9 (k _ (List.mem_singleton.2 rfl))
   rw [br7 hl] at k
   simp only [ay3,hf,br7 hl,k]
  have hs : (∀ sp sz es,s ≠ .list sp sz es) ∨ ∃ sp sz es,s = .list sp sz es:=by
   cases s <;> first | exact .inr ⟨_,_,_,rfl⟩ | exact .inl (fun _ _ _ e=>by cases e)
  unfold aI5
  cases P.underlying t with
  | none=>rfl
  | some dd =>
   cases dd <;> first | rfl | skip
   rename_i e
   simp only
   cases P.info? e with
   | none=>rfl
   | some i =>
    simp only
    cases i.zero with
    | none=>rfl
    | some z =>
     simp only [hel]
     cases al2 S' i.size x with
     | none=>rfl
     | some news =>
      simp only
      unfold aC9 at h
      simp only at h
      cases s with
      | list sp sz es =>
       cases sp with
       | own p g=>simp only [h.with.1 p (List.mem_singleton.2 rfl)]
       | no=>rfl
       | full=>simp only [hnew h.with.1.with.1]
      | row sp p g n off len sz =>
       cases sp with
       | room=>simp only [h.with.1 p (List.mem_singleton.2 rfl)]
       | no=>rfl
       | full=>simp only [hnew h.with.1.with.1,aZ1 h.with.1.with.2]
      | lit v=>cases v <;> first | rfl | (rename_i a n c; cases a <;> cases n <;> cases c <;> first | rfl | simp only [hnew h.with.1.with.1])
      | _=>rfl
set_option maxHeartbeats 4000000 in
theorem cI8 [Cfg] {ρ : Operand → AV} (o : Oper) (hl : S.lvl = S'.lvl) (hf : S.fn = S'.fn) (hg : ae9 (aA6 S ρ o) S S') : aop P S ρ o = aop P S' ρ o ∧ aA6 S ρ o = aA6 S' ρ o:=by
 obtain ⟨dst,op,type,pos,after,guard⟩:=o
 have hhere : ∀ d,S.here d = S'.here d:=br7 hl
 have hfr : ∀ d,dst = some d → ae9 (aH2 S dst) S S' → S.fresh (S'.here d) = S'.fresh (S'.here d):=fun d hd k=>by
  subst hd
  have:=bA9 (k _ (List.mem_singleton.2 rfl))
  rw [hhere] at this
  exact this
 have hhs : aH2 S dst = aH2 S' dst:=by cases dst <;> simp only [aH2,hhere]
 cases op <;> simp only [aA6] at hg <;> simp only [aop,aA6] <;> first | exact ⟨trivial,trivial⟩ | skip
 case alloc elem =>
  refine ⟨?_,hhs⟩
  cases dst with
  | none=>rfl
  | some d =>
   generalize (P.info? elem).bind _ = z
   cases z with
   | none=>rfl
   | some z=>simp only [hhere,hfr d rfl hg]
 case box elem x =>
  refine ⟨?_,hhs⟩
  cases dst with
  | none=>rfl
  | some d=>simp only [hhere,hfr d rfl hg]
 case buildSlice t n ps =>
  refine ⟨?_,hhs⟩
  cases dst with
  | none=>unfold az8; generalize P.underlying t = u; cases u with
   | none=>rfl
   | some dd=>cases dd <;> rfl
  | some d=>unfold az8; generalize P.underlying t = u; cases u with
   | none=>rfl
   | some dd=>cases dd <;> first | rfl | simp only [hf,hhere,hfr d rfl hg]
 case makeMap t r =>
  refine ⟨?_,hhs⟩
  cases dst with
  | none=>rfl
  | some d=>cases r <;> first | rfl | simp only [hhere,hfr d rfl hg]
 case makeSlice t l c =>
  refine ⟨?_,hhs⟩
  cases dst with
  | none=>unfold aI7; generalize P.underlying t = u; cases u with
   | none=>rfl
   | some dd=>cases dd <;> rfl
  | some d =>
   have k:=hfr d rfl hg
   unfold aI7
   split
   ·rename_i e d1 _ _ _ _ hd _ _
    cases hd
    simp only [hf,hhere,k]
   ·rfl
 case range t x =>
  refine ⟨?_,hhs⟩
  cases dst with
  | none=>split <;> first | rfl | (rename_i hd; cases hd)
  | some d =>
   have k:=hfr d rfl hg
   split
   ·rename_i d1 _ _ hd
    cases hd
    simp only [hhere,k]
   ·rfl
 case load t x =>
  refine ⟨?_,trivial⟩
  simp only [bV1,ch0 hg]
 case store t x v =>
  refine ⟨?_,trivial⟩
  unfold bR4
  split
  ·rename_i p g n off i hx hi
   rw [hx] at hg
   rw [ci0 (hg p (List.mem_singleton.2 rfl))]
  ·rfl
 case lookup t m k ok =>
  refine ⟨?_,trivial⟩
  unfold aM5
  generalize ρ m = a at hg
  cases a with
  | mref p g=>simp only [hg p (List.mem_singleton.2 rfl)]
  | lit v=>cases v <;> first | rfl | (rename_i b; cases b <;> rfl)
  | _=>rfl
 case mapUpdate t m k x =>
  refine ⟨?_,trivial⟩
  unfold aJ8
  generalize ρ m = a at hg
  have hgm : ∀ p g,a = .mref p g → S.get p = S'.get p:=fun p g e=>by subst e; exact hg p (List.mem_singleton.2 rfl)
  split
  ·simp only [hgm _ _ rfl]
  ·rfl
 case insert t m k x =>
  refine ⟨?_,trivial⟩
  unfold aJ8
  generalize ρ m = a at hg
  have hgm : ∀ p g,a = .mref p g → S.get p = S'.get p:=fun p g e=>by subst e; exact hg p (List.mem_singleton.2 rfl)
  split
  ·simp only [hgm _ _ rfl]
  ·rfl
 case mapEntry t m k =>
  refine ⟨?_,trivial⟩
  unfold ay9
  generalize ρ m = a at hg
  have hgm : ∀ p g,a = .mref p g → S.get p = S'.get p:=fun p g e=>by subst e; exact hg p (List.mem_singleton.2 rfl)
  split
  ·simp only [hgm _ _ rfl]
  ·rfl
 case entryStore t m st x =>
  refine ⟨?_,trivial⟩
  unfold aM9
  generalize ρ m = a at hg
  have hgm : ∀ p g,a = .mref p g → S.get p = S'.get p:=fun p g e=>by subst e; exact hg p (List.mem_singleton.2 rfl)
  split
  ·simp only [hgm _ _ rfl]
  ·rfl
 case next it s =>
  refine ⟨?_,trivial⟩
  unfold anext
  generalize ρ it = a at hg
  cases s with
  | false=>rfl
  | true =>
   simp only [if_true]
   split
   ·rename_i p g; simp only [hg p (List.mem_singleton.2 rfl)]
   ·rfl
 case convert src dst' x =>
  refine ⟨?_,trivial⟩
  have : aE5 P S src dst' (ρ x) = aE5 P S' src dst' (ρ x):=by
   unfold aE5
   simp only [aZ1 hg]
  have that : aE1 P S src dst' (ρ x) = aE1 P S' src dst' (ρ x):=by
   generalize ρ x = a at hg
   cases a with
   | ptr p g n off =>
    have hp:=hg p (List.mem_singleton.2 rfl)
    unfold aE1
    split <;> first | rfl | (rename_i e; cases e; simp only [hp])
   | _=>unfold aE1; split <;> first | rfl | (rename_i e; cases e)
  rw [this,that]
 case call c =>
  cases hc : c.callee with
  | value f=>exact ⟨rfl,rfl⟩
  | invoke r m=>exact ⟨by first | rfl | trivial,by first | rfl | trivial⟩
  | builtin b =>
   cases b
   case append =>
    simp only [hc] at hg
    generalize c.args.toList.map ρ = args at hg
    generalize c.argTypes.toList = tys
    refine ⟨?_,?_⟩
    ·simp only
     unfold br6
     split
     ·simp only [bW8 hl hf hg]
     ·rfl
    ·simp only
     unfold aC9
     simp only [hhs]
   case len =>
    simp only [hc] at hg
    generalize c.args.toList.map ρ = args at hg
    generalize c.argTypes.toList = tys
    refine ⟨?_,rfl⟩
    have : b26 P S args tys = b26 P S' args tys:=by
     unfold b26
     split
     ·rename_i x t
      simp only at hg
      unfold alen
      have hgm : ∀ p g,x = .mref p g → S.get p = S'.get p:=fun p g e=>by subst e; exact hg p (List.mem_singleton.2 rfl)
      split <;> first | rfl | simp only [hgm _ _ rfl]
     ·rfl
    simp only [this]
   case copy =>
    simp only [hc] at hg
    have hg : S' = S:=hg
    subst hg
    exact ⟨rfl,rfl⟩
   all_goals exact ⟨rfl,rfl⟩
end
end
open Go.RowKit
section
variable {P : Program}
inductive Eff where
 | id
 | set (p : Loc) (s : ab3)
 | upd (t : Tab) (l : List Loc)
 | dfr (f : FuncId) (args : List AV)
def Eff.app : Eff → AS → AS
 | .id,S=>S
 | .set p s,S=>S.set p s
 | .upd t l,S=>S.after (some (t,l))
 | .dfr f args,S=>{ S with dfr:=(f,args) :: S.dfr }
def Eff.kind : Eff → FK
 | .id=>.none
 | .set p _=>.slot p
 | .upd _ l=>.slots l
 | .dfr _ _=>.all
def Eff.local : Eff → AS → Prop
 | .upd t l,S=>∀ p,p ∉ l → t.get p = S.tab.get p
 | _,_=>True
theorem Eff.lvl (E : Eff) (S : AS) : (E.app S).lvl = S.lvl:=by cases E <;> rfl
theorem Eff.fn (E : Eff) (S : AS) : (E.app S).fn = S.fn:=by cases E <;> rfl
def Local (Δ : af4) : Prop:=∀ f args S x t l,Δ f args S = some (x,some (t,l)) → ∀ p,p ∉ l → t.get p = S.tab.get p
theorem ae9.cm3 {E : Eff} {k : FK} (h : E.kind.clear k = true) (S : AS) (hl : E.local S) : ae9 k (E.app S) S ∧ ae9 k S (E.app S):=by
 cases k with
 | none=>exact ⟨trivial,trivial⟩
 | slots L =>
  cases E with
  | id=>exact ⟨fun _ _=>rfl,fun _ _=>rfl⟩
  | set q s =>
   have hq : q ∉ L:=by simpa [Eff.kind,FK.slot,FK.clear] using h
   have hne : ∀ p ∈ L,p ≠ q:=fun p hp e=>hq (by rw [← e]; exact hp)
   exact ⟨fun p hp=>AS.ad6 S s (hne p hp),fun p hp=>(AS.ad6 S s (hne p hp)).symm⟩
  | upd t l =>
   have hq : ∀ x ∈ l,x ∉ L:=by simpa [Eff.kind,FK.clear] using h
   have key : ∀ p ∈ L,t.get p = S.tab.get p:=fun p hp=>hl p fun hm=>hq p hm hp
   exact ⟨fun p hp=>key p hp,fun p hp=>(key p hp).symm⟩
  | dfr f args=>cases h
 | all=>cases E with
  | id=>exact ⟨rfl,rfl⟩
  | set q s=>cases h
  | upd t l=>cases h
  | dfr f args=>cases h
variable {Δ : af4} {ops : Array Oper}
theorem av2 [Cfg] (hL : Local Δ) {o : Oper} {T T' : TM} {S S' : AS} {f : Foot} (h : ai8 P Δ ops o T S = some (f,T',S',none)) :
  ∃ (v : AV) (E : Eff),f.wr = E.kind ∧ E.local S ∧ (∀ t l,E = .upd t l → f.rd = .all) ∧ T' = T.put o.dst v ∧ S' = E.app S ∧ (mayW o = false → f.wr = .none) ∧ (mayR o = false → f.rd = .none) ∧
   ∀ T0 S0,(∀ x ∈ o.op.operands,aev T x = aev T0 x) → Region.wanted o (ao1 ops T0) = Region.wanted o (ao1 ops T) → S.lvl = S0.lvl → S.fn = S0.fn → ae9 f.rd S S0 →
    ai8 P Δ ops o T0 S0 = some (f,T0.put o.dst v,E.app S0,none):=by
 unfold ai8 at h
 split at h
 ·rename_i hw
  have hR : mayR o = false → aA6 S (aev T) o = .none:=by
   intro hm
   unfold mayR at hm
   unfold mayW at hm
   unfold aA6
   split <;> simp_all
   split at hm <;> simp_all
   all_goals (split <;> simp_all)
  have hRW : mayW o = true → mayR o = true:=by
   intro hm
   unfold mayR
   split <;> first | rfl | exact hm | (split <;> first | rfl | exact hm)
  cases hx : aop P S (aev T) o with
  | none=>simp [hx] at h
  | some x =>
   rw [hx] at h
   have move : ∀ T0 S0,(∀ x ∈ o.op.operands,aev T x = aev T0 x) → S.lvl = S0.lvl → S.fn = S0.fn → ae9 (aA6 S (aev T) o) S S0 → aop P S0 (aev T0) o = some x ∧ aA6 S0 (aev T0) o = aA6 S (aev T) o:=by
    intro T0 S0 h1 h2 h2' h3
    have k:=bD2 (P:=P) (S:=S) o h1
    have k':=cI8 (P:=P) (S:=S) (S':=S0) (ρ:=aev T0) o h2 h2' (by rw [← k.2]; exact h3)
    exact ⟨by rw [← k'.1,← k.1]; exact hx,by rw [← k'.2,← k.2]⟩
   cases x with
   | val v =>
    simp only [Option.some.injEq,Prod.mk.injEq,and_true] at h
    obtain ⟨rfl,rfl,rfl⟩:=h
    refine ⟨v,.id,rfl,trivial,(fun _ _ e=>by cases e),rfl,rfl,fun _=>rfl,hR,fun T0 S0 h1 h2 h3 h3' h4=>?_⟩
    obtain ⟨k1,k2⟩:=move T0 S0 h1 h3 h3' h4
    simp only [ai8,h2,hw,if_true,k1,k2]
    rfl
   | chg v p s =>
    simp only [Option.ite_none_right_eq_some,Option.some.injEq,Prod.mk.injEq,and_true] at h
    obtain ⟨hmw,rfl,rfl,rfl⟩:=h
    refine ⟨v,.set p s,rfl,trivial,(fun _ _ e=>by cases e),rfl,rfl,fun hm=>absurd (hmw.symm.trans hm) (by simp),hR,fun T0 S0 h1 h2 h3 h3' h4=>?_⟩
    obtain ⟨k1,k2⟩:=move T0 S0 h1 h3 h3' h4
    simp only [ai8,h2,hw,if_true,k1,k2,hmw]
    rfl
   | pan v=>simp at h
   | dfr g args =>
    simp only [Option.ite_none_right_eq_some,Option.some.injEq,Prod.mk.injEq,and_true] at h
    obtain ⟨hmw,rfl,rfl,rfl⟩:=h
    refine ⟨.lit undef,.dfr g args,rfl,trivial,(fun _ _ e=>by cases e),rfl,rfl,fun hm=>absurd (hmw.symm.trans hm) (by simp),fun hm=>absurd ((hRW hmw).symm.trans hm) (by simp),fun T0 S0 h1 h2 h3 h3' h4=>?_⟩
    have h4' : S0 = S:=h4
    subst h4'
    have k1 : aop P S0 (aev T0) o = some (.dfr g args):=by rw [← (bD2 (P:=P) (S:=S0) o h1).1]; exact hx
    simp only [ai8,h2,hw,if_true,k1,hmw]
    rfl
   | call g args =>
    simp only [Option.ite_none_right_eq_some] at h
    obtain ⟨hcall,h⟩:=h
    have hmr : mayR o = true:=hRW hcall
    have hmw : mayW o ≠ false:=by rw [hcall]; simp
    have same : ∀ T0 S0,(∀ x ∈ o.op.operands,aev T x = aev T0 x) → S.lvl = S0.lvl → S.fn = S0.fn → ae9 (aA6 S (aev T) o) S S0 → aop P S0 (aev T0) o = some (.call g args):=fun T0 S0 h1 h2 h3 h4=>(move T0 S0 h1 h2 h3 h4).1
    split at h
    ·rename_i hc
     cases hd : Δ g (args.map AV.ac1) .bare with
     | none=>simp [hd] at h
     | some y =>
      obtain ⟨y,r⟩:=y
      rw [hd] at h
      cases y with
      | pan v=>cases r <;> simp at h
      | ret v=>cases r with
       | some u=>cases h
       | none =>
        simp only [Option.some.injEq,Prod.mk.injEq,and_true] at h
        obtain ⟨rfl,rfl,rfl⟩:=h
        refine ⟨v,.id,rfl,trivial,(fun _ _ e=>by cases e),rfl,rfl,fun _=>rfl,fun e=>absurd (hmr.symm.trans e) (by simp),fun T0 S0 h1 h2 h3 h3' h4=>?_⟩
        have k1:=same T0 S0 h1 h3 h3' h4
        have k2:=(move T0 S0 h1 h3 h3' h4).2
        rw [h3'] at hc
        simp only [ai8,h2,hw,if_true,k1,k2,hd,hcall,hc]
        rfl
    ·rename_i hc
     cases hd : Δ g args S with
     | none=>simp [hd] at h
     | some y =>
      obtain ⟨y,r⟩:=y
      rw [hd] at h
      cases y with
      | pan v=>simp at h
      | ret v =>
       simp only [Option.some.injEq,Prod.mk.injEq,and_true] at h
       obtain ⟨rfl,rfl,rfl⟩:=h
       have hE : ∃ E : Eff,Upd.kind r = E.kind ∧ E.local S ∧ ∀ S1 : AS,S1.after r = E.app S1:=by
        cases r with
        | none=>exact ⟨.id,rfl,trivial,fun _=>rfl⟩
        | some u=>exact ⟨.upd u.1 u.2,rfl,hL g args S _ _ _ hd,fun _=>rfl⟩
       obtain ⟨E,e1,e2,e3⟩:=hE
       refine ⟨v,E,e1,e2,(fun _ _ _=>rfl),rfl,e3 S,fun e=>absurd e hmw,fun e=>absurd (hmr.symm.trans e) (by simp),fun T0 S0 h1 h2 h3 h3' h4=>?_⟩
       have h4' : S0 = S:=h4
       subst h4'
       have k1 : aop P S0 (aev T0) o = some (.call g args):=by rw [← (bD2 (P:=P) (S:=S0) o h1).1]; exact hx
       simp only [ai8,h2,hw,if_true,k1,hd,hcall,hc]
       rw [← e3]
       rfl
 ·rename_i hw
  simp only [Option.some.injEq,Prod.mk.injEq,and_true] at h
  obtain ⟨rfl,rfl,rfl⟩:=h
  refine ⟨.lit undef,.id,rfl,trivial,(fun _ _ e=>by cases e),rfl,rfl,fun _=>rfl,fun _=>rfl,fun T0 S0 h1 h2 h3 h3' h4=>?_⟩
  simp only [ai8,h2,hw]
  rfl
end
open Go.RowKit
section
variable {P : Program} {Δ : af4} {ops : Array Oper}
theorem aev_put {T : TM} {dst : Option Tmp} {v : AV} {x : Operand} (h : ∀ d,dst = some d → x ≠ .tmp d) : aev (T.put dst v) x = aev T x:=by
 cases dst with
 | none=>rfl
 | some d =>
  cases x with
  | tmp t =>
   have hne : d ≠ t:=fun e=>h d rfl (e ▸ rfl)
   simp only [aev,TM.put,List.getD_eq_getElem?_getD,List.getElem?_set_ne hne]
  | _=>rfl
theorem bz5 {o : Oper} {T : TM} {dst : Option Tmp} {v : AV} (h : ∀ d,dst = some d → d ∉ o.looksAt ops) : ∀ x ∈ o.op.operands,aev (T.put dst v) x = aev T x:=fun x hx =>
 aev_put fun d hd hxd=>h d hd (by
  subst hxd
  exact List.mem_append_left _ (List.mem_filterMap.2 ⟨.tmp d,by simpa using hx,rfl⟩))
theorem aL1 {o : Oper} {T : TM} {dst : Option Tmp} {v : AV} (h : ∀ d,dst = some d → d ∉ o.looksAt ops) : Region.wanted o (ao1 ops (T.put dst v)) = Region.wanted o (ao1 ops T):=by
 cases dst with
 | none=>rfl
 | some d =>
  unfold Region.wanted
  cases hg : o.guard with
  | none=>rfl
  | some g =>
   obtain ⟨g,want⟩:=g
   have hd:=h d rfl
   unfold Oper.looksAt at hd
   rw [hg] at hd
   simp only [List.mem_append,not_or] at hd
   have : ao1 ops (T.put (some d) v) g = ao1 ops T g:=by
    unfold ao1
    cases he : (ops[g]?).bind (·.dst) with
    | none=>rfl
    | some e =>
     have hne : d ≠ e:=fun h=>hd.2 (by simp [he,h])
     simp only [Option.bind_some,TM.put,List.getElem?_set_ne hne]
   simp only [this]
theorem TM.put_comm (T : TM) {x y : Option Tmp} (v u : AV) (h : ∀ d,x = some d → y ≠ some d) : (T.put x v).put y u = (T.put y u).put x v:=by
 cases x with
 | none=>rfl
 | some d =>
  cases y with
  | none=>rfl
  | some e =>
   have hne : d ≠ e:=fun he=>h d rfl (he ▸ rfl)
   simp only [TM.put]
   exact List.set_comm _ _ hne
theorem bO5 {kt : TypeId} {k : Value} {ks : List Value} {r r' : Option Nat} (h : bx8 P kt ks.isEmpty k ks = some r) (h' : bx8 P kt false k ks = some r') : r = r':=by
 cases ks with
 | cons x xs=>rw [List.isEmpty_cons,h'] at h; simpa using h.symm
 | nil =>
  unfold bx8 at h h'
  split at h
  ·rename_i r1 _ e1
   split at h'
   ·rename_i r2 _ e2
    simp only [List.map_nil] at e1 e2
    rw [e1] at e2
    cases e2
    rw [h] at h'
    simpa using h'
   ·cases h'
  ·cases h
theorem ca9 {S : AS} {t : TypeId} {a b v u : AV} {p : Loc} {s : ab3} (h : aM5 P S t a b false = some v) (h' : ay9 P S t a b = some (.chg u p s)) : aM5 P (S.set p s) t a b false = some v:=by
 unfold ay9 at h'
 split at h'
 case h_2=>cases h'
 rename_i kt vt p0 g k ht hk
 unfold aM5 at h ⊢
 rw [ht] at h ⊢
 rw [hk] at h ⊢
 simp only at h ⊢
 split at h'
 case h_2=>cases h'
 rename_i g' es ck z hs hz
 split at h'
 case isFalse=>cases h'
 rename_i hg
 subst hg
 rw [hs] at h
 simp only [if_true] at h
 have hmap : (es.map fun x=>x.key) = List.map ah8.key es:=rfl
 rw [hz] at h ⊢
 have hflag : ∀ (l : List ah8),l.isEmpty = (l.map ah8.key).isEmpty:=fun l=>by cases l <;> rfl
 split at h'
 ·rename_i i hf
  split at h'
  case h_2=>cases h'
  rename_i e hei
  split at h'
  case isFalse=>cases h'
  split at h'
  case isFalse=>cases h'
  rename_i hchk
  simp only [Option.some.injEq,AR.chg.injEq] at h'
  obtain ⟨_,rfl,rfl⟩:=h'
  rw [AS.get_set_same]
  simp only [if_true]
  have hlt:=(List.getElem?_eq_some_iff.1 hei).1
  have hne : (es.set i ⟨k,e.val,e.born⟩).isEmpty = false:=by
   cases es with
   | nil=>simp at hlt
   | cons x xs=>cases i <;> rfl
  rw [hne,hchk]
  simp only
  rw [hflag] at h
  cases hr : bx8 P kt (es.map ah8.key).isEmpty k (es.map ah8.key) with
  | none=>rw [hr] at h; cases h
  | some r =>
   have:=bO5 hr hf
   subst this
   rw [hr] at h
   simp only [hei,Option.map_some] at h
   simp only [List.getElem?_set_self hlt,Option.map_some]
   exact h
 ·rename_i hf
  split at h'
  case isFalse=>cases h'
  rename_i hchk
  simp only [Option.some.injEq,AR.chg.injEq] at h'
  obtain ⟨_,rfl,rfl⟩:=h'
  rw [AS.get_set_same]
  simp only [if_true]
  have hne : (es ++ [(⟨k,AV.ofV1 z,ck⟩ : ah8)]).isEmpty = false:=by simp
  rw [hne,hchk]
  simp only
  rw [hflag] at h
  cases hr : bx8 P kt (es.map ah8.key).isEmpty k (es.map ah8.key) with
  | none=>rw [hr] at h; cases h
  | some r =>
   have:=bO5 hr hf
   subst this
   rw [hr] at h
   simp only [Bool.false_eq_true,if_false] at h ⊢
   simpa using h
 ·cases h'
theorem ae9.refl (k : FK) (S : AS) : ae9 k S S:=by cases k <;> simp [ae9]
theorem Eff.of_none {E : Eff} (h : E.kind = .none) : E = .id:=by cases E <;> simp [Eff.kind,FK.slot] at h ⊢
theorem cB7 [Cfg] (hL : Local Δ) {oj oi : Oper} {fj fi : Foot} {T T1 T2 : TM} {S S1 S2 : AS} (hap : oj.apart ops oi = true) (hind : fj.b64 fi = true) (h1 : ai8 P Δ ops oj T S = some (fj,T1,S1,none)) (h2 : ai8 P Δ ops oi T1 S1 = some (fi,T2,S2,none)) :
  ∃ T' S',ai8 P Δ ops oi T S = some (fi,T',S',none) ∧ ai8 P Δ ops oj T' S' = some (fj,T2,S2,none):=by
 obtain ⟨a1,a2,a3⟩:=Oper.apart_spec hap
 obtain ⟨vj,Ej,hkj,lj,uj,rfl,rfl,_,_,trj⟩:=av2 hL h1
 obtain ⟨vi,Ei,hki,li,ui,rfl,rfl,_,_,tri⟩:=av2 hL h2
 simp only [Foot.b64,Bool.and_eq_true] at hind
 obtain ⟨⟨c1,c2⟩,c3⟩:=hind
 rw [hkj] at c1 c2
 rw [hki] at c2 c3
 have li' : Ei.local S:=by
  cases Ei with
  | upd t l=>cases Ej with
   | id=>exact li
   | set p s=>rw [ui t l rfl] at c1; cases c1
   | upd t' l'=>rw [ui t l rfl] at c1; cases c1
   | dfr f args=>simp [Eff.kind,FK.clear] at c2
  | _=>trivial
 refine ⟨T.put oi.dst vi,Ei.app S,tri T S (fun x hx=>bz5 (o:=oi) a1 x hx) (aL1 (o:=oi) a1).symm (Ej.lvl S) (Ej.fn S) (ae9.cm3 c1 S lj).1,?_⟩
 have:=trj (T.put oi.dst vi) (Ei.app S) (fun x hx=>(bz5 (o:=oj) a3 x hx).symm) (aL1 (o:=oj) a3) (Ei.lvl S).symm (Ei.fn S).symm (ae9.cm3 c3 S li').2
 rw [this,TM.put_comm T vj vi a2]
 congr 4
 cases Ej with
 | id=>rfl
 | set p s=>cases Ei with
  | id=>rfl
  | set q t =>
   have : p ≠ q:=by simpa [Eff.kind,FK.slot,FK.clear] using c2
   exact (AS.set_comm S s t this).symm
  | upd t l=>rw [ui t l rfl] at c1; cases c1
  | dfr f args=>simp [Eff.kind,FK.slot,FK.clear] at c2
 | upd t l=>cases Ei with
  | id=>rfl
  | set q s=>rw [uj t l rfl] at c3; cases c3
  | upd t' l'=>rw [uj t l rfl] at c3; cases c3
  | dfr f args=>simp [Eff.kind,FK.clear] at c2
 | dfr f args=>cases Ei with
  | id=>rfl
  | _=>simp [Eff.kind,FK.slot,FK.clear] at c2
theorem cs7 [Cfg] (hL : Local Δ) {oj oi : Oper} {fj fi : Foot} {t : TypeId} {m k : Tmp} {T T1 T2 : TM} {S S1 S2 : AS} (hap : oj.apart ops oi = true) (hj : oj.op = .lookup t (.tmp m) (.tmp k) false) (hi : oi.op = .mapEntry t (.tmp m) (.tmp k))
  (h1 : ai8 P Δ ops oj T S = some (fj,T1,S1,none)) (h2 : ai8 P Δ ops oi T1 S1 = some (fi,T2,S2,none)) :
  ∃ T' S',ai8 P Δ ops oi T S = some (fi,T',S',none) ∧ ai8 P Δ ops oj T' S' = some (fj,T2,S2,none):=by
 obtain ⟨a1,a2,a3⟩:=Oper.apart_spec hap
 obtain ⟨vj,Ej,hkj,lj,uj,e1,e2,wj,_,trj⟩:=av2 hL h1
 have hidj : Ej = .id:=Eff.of_none (hkj ▸ wj (by simp [mayW,hj]))
 subst hidj
 have e2 : S1 = S:=e2
 subst e1 e2
 obtain ⟨vi,Ei,hki,li,ui,rfl,rfl,_,_,tri⟩:=av2 hL h2
 have hti : ai8 P Δ ops oi T S1 = some (fi,T.put oi.dst vi,Ei.app S1,none):=tri T S1 (fun x hx=>bz5 (o:=oi) a1 x hx) (aL1 (o:=oi) a1).symm rfl rfl (ae9.refl _ _)
 refine ⟨T.put oi.dst vi,Ei.app S1,hti,?_⟩
 have hev : ∀ x ∈ oj.op.operands,aev (T.put oi.dst vi) x = aev T x:=fun x hx=>bz5 (o:=oj) a3 x hx
 have hwj : Region.wanted oj (ao1 ops (T.put oi.dst vi)) = Region.wanted oj (ao1 ops T):=aL1 (o:=oj) a3
 have fin : ae9 fj.rd S1 (Ei.app S1) → ai8 P Δ ops oj (T.put oi.dst vi) (Ei.app S1) = some (fj,(T.put oj.dst vj).put oi.dst vi,Ei.app S1,none):=fun hr=>by
  have:=trj (T.put oi.dst vi) (Ei.app S1) (fun x hx=>(hev x hx).symm) hwj (Ei.lvl S1).symm (Ei.fn S1).symm hr
  rw [this,TM.put_comm T vj vi a2]
  rfl
 cases hw : Region.wanted oj (ao1 ops T) with
 | false =>
  refine fin ?_
  unfold ai8 at h1
  rw [hw] at h1
  simp only [Bool.false_eq_true,if_false,Option.some.injEq,Prod.mk.injEq] at h1
  rw [← h1.1]
  trivial
 | true =>
  cases hwi : Region.wanted oi (ao1 ops T) with
  | false =>
   unfold ai8 at hti
   rw [hwi] at hti
   simp only [Bool.false_eq_true,if_false,Option.some.injEq,Prod.mk.injEq] at hti
   have hE : Ei = .id:=Eff.of_none (by rw [← hki,← hti.1])
   subst hE
   exact fin (ae9.refl _ _)
  | true =>
   -- both
   have hxj : aop P S1 (aev T) oj = (aM5 P S1 t (aev T (.tmp m)) (aev T (.tmp k)) false).map .val:=by simp only [aop,hj]
   have hxi : aop P S1 (aev T) oi = ay9 P S1 t (aev T (.tmp m)) (aev T (.tmp k)):=by simp only [aop,hi]
   unfold ai8 at h1 hti
   rw [hw,hxj] at h1
   rw [hwi,hxi] at hti
   simp only [if_true] at h1 hti
   cases hl : aM5 P S1 t (aev T (.tmp m)) (aev T (.tmp k)) false with
   | none=>rw [hl] at h1; cases h1
   | some v =>
    rw [hl] at h1
    simp only [Option.map_some,Option.some.injEq,Prod.mk.injEq,and_true] at h1
    cases hm : ay9 P S1 t (aev T (.tmp m)) (aev T (.tmp k)) with
    | none=>rw [hm] at hti; cases hti
    | some y =>
     rw [hm] at hti
     have hy : ∃ u p s,y = .chg u p s:=by
      unfold ay9 at hm
      split at hm
      ·split at hm
       ·split at hm
        ·split at hm
         ·split at hm
          ·split at hm
           ·split at hm
            ·cases hm; exact ⟨_,_,_,rfl⟩
            ·cases hm
           ·cases hm
          ·cases hm
         ·split at hm
          ·cases hm; exact ⟨_,_,_,rfl⟩
          ·cases hm
         ·cases hm
        ·cases hm
       ·cases hm
      ·cases hm
     obtain ⟨u,p,s,rfl⟩:=hy
     simp only [Option.ite_none_right_eq_some,Option.some.injEq,Prod.mk.injEq,and_true] at hti
     obtain ⟨hmw,hf,hT,hS⟩:=hti
     have hl2:=ca9 hl hm
     rw [hS] at hl2
     have em : aev (T.put oi.dst vi) (.tmp m) = aev T (.tmp m):=hev _ (by rw [hj]; simp [Op.operands])
     have ek : aev (T.put oi.dst vi) (.tmp k) = aev T (.tmp k):=hev _ (by rw [hj]; simp [Op.operands])
     have hxj2 : aop P (Ei.app S1) (aev (T.put oi.dst vi)) oj = some (.val v):=by
      simp only [aop,hj]
      rw [em,ek,hl2]
      rfl
     unfold ai8
     rw [hwj,hw,hxj2]
     simp only [if_true]
     have hfoot : aA6 (Ei.app S1) (aev (T.put oi.dst vi)) oj = aA6 S1 (aev T) oj:=by
      simp only [aA6,hj]
      rw [em]
     rw [hfoot,h1.1]
     have : (T.put oi.dst vi).put oj.dst v = (T.put oj.dst vj).put oi.dst vi:=by
      rw [← h1.2,TM.put_comm T v vi a2]
     rw [this]
end
open Go.RowKit
section
variable {P : Program} {Δ : af4} {ops : Array Oper} {F : Nat → Foot}
def Runs [Cfg] (P : Program) (Δ : af4) (ops : Array Oper) (F : Nat → Foot) : List Nat → TM × AS → TM × AS → Prop
 | [],s,t=>s = t
 | i :: r,s,t=>∃ o s',ops[i]? = some o ∧ ai8 P Δ ops o s.1 s.2 = some (F i,s'.1,s'.2,none) ∧ Runs P Δ ops F r s' t
def Swap (ops : Array Oper) (F : Nat → Foot) (j i : Nat) : Prop:=(F j).b64 (F i) = true ∨ twins ops (j,i) = true
theorem cJ2 [Cfg] (hL : Local Δ) {j i : Nat} {oj oi : Oper} {T T1 T2 : TM} {S S1 S2 : AS} (hj : ops[j]? = some oj) (hi : ops[i]? = some oi) (hap : oj.apart ops oi = true) (hs : Swap ops F j i) (h1 : ai8 P Δ ops oj T S = some (F j,T1,S1,none)) (h2 : ai8 P Δ ops oi T1 S1 = some (F i,T2,S2,none)) :
  ∃ T' S',ai8 P Δ ops oi T S = some (F i,T',S',none) ∧ ai8 P Δ ops oj T' S' = some (F j,T2,S2,none):=by
 rcases hs with h | h
 ·exact cB7 hL hap h h1 h2
 ·unfold twins at h
  simp only [hj,hi] at h
  split at h
  ·rename_i t m k t' m' k' e1 e2
   simp only [Bool.and_eq_true,beq_iff_eq] at h
   obtain ⟨⟨rfl,rfl⟩,rfl⟩:=h
   exact cs7 hL hap e1 e2 h1 h2
  ·cases h
theorem bR0 [Cfg] (hL : Local Δ) {i : Nat} {C : List Nat} : ∀ (A : List Nat) (s t : TM × AS),(∀ j ∈ A,∀ oj oi,ops[j]? = some oj → ops[i]? = some oi → oj.apart ops oi = true ∧ Swap ops F j i) →
  Runs P Δ ops F (A ++ i :: C) s t → Runs P Δ ops F (i :: (A ++ C)) s t
 | [],s,t,_,h=>h
 | j :: A,s,t,hA,h=>by
  obtain ⟨oj,s1,hj,hs,hr⟩:=h
  obtain ⟨oi,s2,hi,hs2,hr2⟩:=bR0 hL A s1 t (fun k hk=>hA k (List.mem_cons_of_mem _ hk)) hr
  obtain ⟨hap,hind⟩:=hA j (List.mem_cons_self ..) oj oi hj hi
  obtain ⟨T',S',k1,k2⟩:=cJ2 hL hj hi hap hind hs hs2
  exact ⟨oi,(T',S'),hi,k1,oj,s2,hj,k2,hr2⟩
def left (n : Nat) (listed : Array Bool) : List Nat:=(List.range n).filter fun j=>!listed.getD j true
theorem bv0 {p : Nat → Bool} {i : Nat} : ∀ (k m : Nat),k ≤ i → i < k + m → p i = true →
  ∃ A C,(List.range' k m).filter p = A ++ i :: C ∧ (∀ j ∈ A,j < i) ∧ (List.range' k m).filter (fun j=>p j && decide (j ≠ i)) = A ++ C
 | k,0,h1,h2,_=>by omega
 | k,m + 1,h1,h2,hp=>by
  rw [List.range'_succ]
  by_cases hk : k = i
  ·subst hk
   refine ⟨[],(List.range' (k + 1) m).filter p,?_,fun j h=>(by cases h),?_⟩
   ·simp [List.filter_cons,hp]
   ·have : (List.range' (k + 1) m).filter (fun j=>p j && decide (j ≠ k)) = (List.range' (k + 1) m).filter p:=by
     refine List.filter_congr fun j hj=>?_
     have:=(List.mem_range'_1.1 hj).1
     have hne : j ≠ k:=by omega
     simp [hne]
    have t2:=this
    simp only [decide_not,ne_eq] at t2
    simp [List.filter_cons,t2]
  ·obtain ⟨A,C,e1,e2,e3⟩:=bv0 (p:=p) (k + 1) m (by omega) (by omega) hp
   cases hpk : p k with
   | true=>exact ⟨k :: A,C,by simp [List.filter_cons,hpk,e1],fun j hj=>by
     rcases List.mem_cons.1 hj with rfl | hj
     ·omega
     ·exact e2 j hj,by
     have e3':=e3
     simp only [List.filter_cons,hpk,Bool.true_and,decide_eq_true_eq,ne_eq,hk,not_false_eq_true,if_true,List.cons_append]
     rw [← e3']⟩
   | false=>exact ⟨A,C,by simp [List.filter_cons,hpk,e1],e2,by
     simp only [List.filter_cons,hpk,Bool.false_and]
     exact e3⟩
theorem bt3 {n i : Nat} {listed : Array Bool} (hn : listed.size = n) (hi : i < n) (hl : listed.getD i true = false) : ∃ A C,left n listed = A ++ i :: C ∧ (∀ j ∈ A,j < i) ∧ left n (listed.setIfInBounds i true) = A ++ C:=by
 obtain ⟨A,C,h1,h2,h3⟩:=bv0 (p:=fun j=>!listed.getD j true) (i:=i) 0 n (Nat.zero_le _) (by omega) (by simp [hl])
 refine ⟨A,C,by rw [left,List.range_eq_range']; exact h1,h2,?_⟩
 rw [left,List.range_eq_range',← h3]
 refine List.filter_congr fun j hj=>?_
 have hjn : j < n:=by have:=(List.mem_range'_1.1 hj).2; omega
 by_cases hij : i = j
 ·subst hij
  have : (listed.setIfInBounds i true).getD i true = true:=by
   simp [hn,hjn]
  simp [this]
 ·rw [getD_set_ne true hij]
  have : j ≠ i:=Ne.symm hij
  simp [this]
def Closed (ops : Array Oper) (listed : Array Bool) : Prop:=∀ (k : Nat) ok,ops[k]? = some ok → listed.getD k false = true → ∀ e ∈ ok.after,Region.binds .any e = true → listed.getD e.on false = true
theorem bw3 {listed : Array Bool} (hc : Closed ops listed) : ∀ (n i j : Nat),(∀ oi,ops[i]? = some oi → ∀ e ∈ oi.after,Region.binds .any e = true → listed.getD e.on false = true) → reach ops n i j = true → listed.getD j false = true
 | 0,i,j,_,h=>by simp [reach] at h
 | n + 1,i,j,hi,h=>by
  unfold reach at h
  cases ho : ops[i]? with
  | none=>simp [ho] at h
  | some oi =>
   simp only [ho] at h
   obtain ⟨e,he,hb⟩:=Array.any_eq_true'.1 h
   simp only [Bool.and_eq_true,Bool.or_eq_true,beq_iff_eq] at hb
   have hl:=hi oi ho e he hb.1
   rcases hb.2 with e1 | e1
   ·rw [← e1]; exact hl
   ·exact bw3 hc n e.on j (fun ok hk=>hc e.on ok hk hl) e1
theorem cr1 {listed : Array Bool} {i : Nat} (hc : Closed ops listed) (hi : i ∈ Region.ready .any ops listed) : Closed ops (listed.setIfInBounds i true):=by
 obtain ⟨_,oi,hoi,hall⟩:=mem_ready.1 hi
 intro k ok hk hl e he hb
 by_cases hik : i = k
 ·subst hik
  rw [hoi] at hk
  cases hk
  exact getD_set_true (hall e he hb)
 ·rw [getD_set_ne false hik] at hl
  exact getD_set_true (hc k ok hk hl e he hb)
theorem cE0 [Cfg] (hL : Local Δ) (hE : ∀ (i : Nat) oi e,ops[i]? = some oi → e ∈ oi.after → Region.binds .any e = true → e.on < i)
  (hQ : ∀ (j i : Nat) oj oi,j < i → ops[j]? = some oj → ops[i]? = some oi → reach ops 3 i j = true ∨ (oj.apart ops oi = true ∧ Swap ops F j i)) :
  ∀ (fuel t : Nat) (listed : Array Bool) (s out : TM × AS),listed.size = ops.size → Closed ops listed → (left ops.size listed).length ≤ fuel → Runs P Δ ops F (left ops.size listed) s out →
   Runs P Δ ops F (Region.linearise.go .any ops fuel t listed []) s out
 | 0,t,listed,s,out,_,_,hf,h=>by
  have : left ops.size listed = []:=List.eq_nil_of_length_eq_zero (by omega)
  rw [this] at h
  simpa [Region.linearise.go] using h
 | fuel + 1,t,listed,s,out,hsz,hcl,hf,h=>by
  simp only [Region.linearise.go]
  change Runs P Δ ops F (match (Region.ready .any ops listed)[t % (Region.ready .any ops listed).length]? with
   | some i=>Region.linearise.go .any ops fuel (t / (Region.ready .any ops listed).length) (listed.setIfInBounds i true) [i]
   | none=>[].reverse) s out
  cases hi : (Region.ready .any ops listed)[t % (Region.ready .any ops listed).length]? with
  | none =>
   have hnil : Region.ready .any ops listed = []:=by
    cases hr : Region.ready .any ops listed with
    | nil=>rfl
    | cons x xs =>
     rw [hr] at hi
     have hlt : t % (x :: xs).length < (x :: xs).length:=Nat.mod_lt _ (by simp)
     simp at hi
     simp at hlt
     omega
   have : left ops.size listed = []:=by
    cases hl : left ops.size listed with
    | nil=>rfl
    | cons u us =>
     exfalso
     have hu : u ∈ left ops.size listed:=by rw [hl]; simp
     have hu':=List.mem_filter.1 hu
     have hun : u < ops.size:=List.mem_range.1 hu'.1
     have hul : listed.getD u true = false:=by simpa using hu'.2
     have hready : u ∈ Region.ready .any ops listed:=by
      rw [mem_ready]
      refine ⟨hul,ops[u],Array.getElem?_eq_getElem hun,fun e he hb=>?_⟩
      have hlt:=hE u _ e (Array.getElem?_eq_getElem hun) he hb
      cases hx : listed.getD e.on false with
      | true=>rfl
      | false =>
       exfalso
       have he' : listed.getD e.on true = false:=getD_in (by omega) hx
       obtain ⟨A,C,k1,k2,_⟩:=bt3 hsz hun hul
       have hmem : e.on ∈ left ops.size listed:=List.mem_filter.2 ⟨List.mem_range.2 (by omega),by simp [he']⟩
       rw [hl] at k1
       have hA : A = []:=by
        cases A with
        | nil=>rfl
        | cons a A' =>
         simp only [List.cons_append,List.cons.injEq] at k1
         have:=k2 a (by simp)
         omega
       subst hA
       obtain ⟨A2,C2,m1,m2,_⟩:=bt3 hsz (show e.on < ops.size by omega) he'
       rw [hl] at m1
       cases A2 with
       | nil =>
        simp only [List.nil_append,List.cons.injEq] at m1
        omega
       | cons a A' =>
        simp only [List.cons_append,List.cons.injEq] at m1
        have:=m2 a (by simp)
        omega
     rw [hnil] at hready
     cases hready
   rw [this] at h
   simpa using h
  | some i =>
   simp only []
   rw [linearise_go_acc,List.reverse_singleton,List.singleton_append]
   have hmem:=List.mem_of_getElem? hi
   obtain ⟨hun,oi,hoi,hall⟩:=mem_ready.1 hmem
   have hin : i < ops.size:=(Array.getElem?_eq_some_iff.1 hoi).1
   obtain ⟨A,C,k1,k2,k3⟩:=bt3 hsz hin hun
   rw [k1] at h hf
   have hfront:=bR0 hL A s out (fun j hj oj oi' hoj hoi'=>by
    rw [hoi] at hoi'
    cases hoi'
    have hjl : listed.getD j true = false:=by
     have : j ∈ left ops.size listed:=by rw [k1]; exact List.mem_append_left _ hj
     simpa using (List.mem_filter.1 this).2
    rcases hQ j i oj oi (k2 j hj) hoj hoi with hw | hq
    ·exfalso
     have:=bw3 hcl 3 i j (fun ok hk=>by rw [hoi] at hk; cases hk; exact hall) hw
     rw [getD_both hjl] at this
     cases this
    ·exact hq) h
   obtain ⟨o,s1,ho,hs,hr⟩:=hfront
   refine ⟨o,s1,ho,hs,cE0 hL hE hQ fuel _ _ s1 out (by simp [hsz]) (cr1 hcl hmem) ?_ (by rw [k3]; exact hr)⟩
   rw [k3]
   simp only [List.length_append,List.length_cons] at hf ⊢
   omega
theorem aM8 [Cfg] : ∀ (l : List Oper) (k : Nat) (fs : List Foot) (T T' : TM) (S S' : AS),(∀ j,l[j]? = ops[k + j]?) → aj8 P Δ ops l T S = some (fs,T',S',none) → (∀ j f,fs[j]? = some f → F (k + j) = f) →
  fs.length = l.length ∧ Runs P Δ ops F (List.range' k l.length) (T,S) (T',S')
 | [],k,fs,T,T',S,S',_,h,_=>by
  simp only [aj8,Option.some.injEq,Prod.mk.injEq,and_true] at h
  obtain ⟨rfl,rfl,rfl⟩:=h
  exact ⟨rfl,rfl⟩
 | o :: l,k,fs,T,T',S,S',hl,h,hF=>by
  unfold aj8 at h
  cases hs : ai8 P Δ ops o T S with
  | none=>simp [hs] at h
  | some x =>
   obtain ⟨f,T1,S1,x⟩:=x
   cases x with
   | some v=>simp [hs] at h
   | none =>
   simp only [hs] at h
   cases hr : aj8 P Δ ops l T1 S1 with
   | none=>simp [hr] at h
   | some y =>
    obtain ⟨fs',T2,S2,y⟩:=y
    simp only [hr,Option.some.injEq,Prod.mk.injEq] at h
    obtain ⟨rfl,rfl,rfl,rfl⟩:=h
    obtain ⟨k1,k2⟩:=aM8 l (k + 1) fs' T1 T2 S1 S2 (fun j=>by have:=hl (j + 1); simpa [Nat.add_assoc,Nat.add_comm 1 j] using this) hr (fun j f hj=>by
     have:=hF (j + 1) f (by simpa using hj)
     rw [← this]; congr 1; omega)
    have h0:=hF 0 f rfl
    refine ⟨by simp [k1],o,(T1,S1),by simpa using (hl 0).symm,?_,k2⟩
    rw [Nat.add_zero] at h0
    rw [h0]
    exact hs
theorem bn7 [Cfg] : ∀ (pi : List Nat) (s t : TM × AS),Runs P Δ ops F pi s t → ∃ l fs,pi.map (ops[·]?) = l.map some ∧ aj8 P Δ ops l s.1 s.2 = some (fs,t.1,t.2,none)
 | [],s,t,h=>⟨[],[],rfl,by rw [show s = t from h]; rfl⟩
 | i :: pi,s,t,h=>by
  obtain ⟨o,s1,ho,hs,hr⟩:=h
  obtain ⟨l,fs,k1,k2⟩:=bn7 pi s1 t hr
  exact ⟨o :: l,F i :: fs,by simp [ho,k1],by simp [aj8,hs,k2]⟩
theorem bk5 [Cfg] (hL : Local Δ) : ∀ (l : List Oper) (fs : List Foot) (T T' : TM) (S S' : AS),aj8 P Δ ops l T S = some (fs,T',S',none) → ∀ (j : Nat) o f,l[j]? = some o → fs[j]? = some f → (mayW o = false → f.wr = .none) ∧ (mayR o = false → f.rd = .none)
 | [],fs,T,T',S,S',h,j,o,f,ho,_=>by simp at ho
 | o :: l,fs,T,T',S,S',h,j,o',f,ho,hf=>by
  unfold aj8 at h
  cases hs : ai8 P Δ ops o T S with
  | none=>simp [hs] at h
  | some x =>
   obtain ⟨f0,T1,S1,x⟩:=x
   cases x with
   | some v=>simp [hs] at h
   | none =>
   simp only [hs] at h
   cases hr : aj8 P Δ ops l T1 S1 with
   | none=>simp [hr] at h
   | some y =>
    obtain ⟨fs',T2,S2,y⟩:=y
    simp only [hr,Option.some.injEq,Prod.mk.injEq] at h
    obtain ⟨rfl,rfl,rfl,rfl⟩:=h
    cases j with
    | zero =>
     simp at ho hf
     subst ho hf
     obtain ⟨v,E,_,_,_,_,_,k1,k2,_⟩:=av2 hL hs
     exact ⟨k1,k2⟩
    | succ j=>exact bk5 hL l fs' T1 T2 S1 S2 hr j o' f (by simpa using ho) (by simpa using hf)
theorem mayR_of {o : Oper} (hm : mayW o = true) : mayR o = true:=by
 unfold mayR
 split <;> first | rfl | exact hm | (split <;> first | rfl | exact hm)
theorem bP3 (a : FK) : a.clear .none = true:=by cases a <;> rfl
theorem cr5 [Cfg] (hC : bp6 P) (hΔ : bA3 P Δ) (hL : Local Δ) (hm : P.follows .mixedOrders = true) {G : Gh} {w : World} {B : Nat → Nat} {T T' : TM} {S S' : AS} {a : Act} {Q : Exit → Act → World → Prop} {id : Nat} {x : AX} (h : ay8 P Δ ops true T S = some (x,T',S')) (hW : WRel G S w B) (hT : TRel G S T a)
  (hQ : ∀ e a' w',Reached G S w B x T' S' e a' w' → Q e a' w') : (Code.region id ops true).wp P Q a w:=by
 unfold ay8 at h
 cases hst : aj8 P Δ ops ops.toList T S with
 | none=>simp [hst] at h
 | some z =>
  obtain ⟨fs,T1,S1,y⟩:=z
  simp only [hst,if_true,Option.ite_none_right_eq_some,Option.some.injEq,Prod.mk.injEq,Bool.and_eq_true] at h
  obtain ⟨⟨⟨hnone,hstat⟩,hpairs⟩,rfl,rfl,rfl⟩:=h
  cases y with
  | some v=>cases hnone
  | none =>
  unfold bS3 at hstat
  simp only [Bool.and_eq_true] at hstat
  obtain ⟨_,hall⟩:=hstat
  have hidx : ∀ (i : Nat) oi,ops[i]? = some oi → (oi,i) ∈ ops.toList.zipIdx:=fun i oi hi=>by
   rw [List.mem_iff_getElem?]
   exact ⟨i,by simp [hi]⟩
  have hst2 : ∀ (j i : Nat) oj oi,j < i → ops[j]? = some oj → ops[i]? = some oi → (oj,j) ∈ ops.toList.zipIdx.take i:=fun j i oj oi hji hj hi=>by
   rw [List.mem_iff_getElem?]
   exact ⟨j,by rw [List.getElem?_take,if_pos hji]; simp [hj]⟩
  have hE : ∀ (i : Nat) oi e,ops[i]? = some oi → e ∈ oi.after → Region.binds .any e = true → e.on < i:=fun i oi e hi he hb=>by
   have:=List.all_eq_true.1 hall _ (hidx i oi hi)
   simp only [Bool.and_eq_true] at this
   have:=Array.all_eq_true_iff_forall_mem.1 this.1 e he
   simpa [hb] using this
  have hlen:=(aM8 (F:=fun i=>fs.getD i ⟨.none,.none⟩) ops.toList 0 fs T T1 S S1 (fun j=>by simp) hst (fun j f hj=>by simp [List.getD_eq_getElem?_getD,hj])).1
  have hQ' : ∀ (j i : Nat) oj oi,j < i → ops[j]? = some oj → ops[i]? = some oi → reach ops 3 i j = true ∨ (oj.apart ops oi = true ∧ Swap ops (fun i=>fs.getD i ⟨.none,.none⟩) j i):=fun j i oj oi hji hj hi=>by
   have h1:=List.all_eq_true.1 hall _ (hidx i oi hi)
   simp only [Bool.and_eq_true] at h1
   have h2:=List.all_eq_true.1 h1.2 _ (hst2 j i oj oi hji hj hi)
   simp only [Bool.or_eq_true] at h2
   by_cases hwt : reach ops 3 i j = true
   ·exact .inl hwt
   ·refine .inr ⟨h2.resolve_right hwt,?_⟩
    have hjn : j < fs.length:=by rw [hlen]; have:=(Array.getElem?_eq_some_iff.1 hj).1; simpa using this
    have hin : i < fs.length:=by rw [hlen]; have:=(Array.getElem?_eq_some_iff.1 hi).1; simpa using this
    have fj:=List.getElem?_eq_getElem hjn
    have fi:=List.getElem?_eq_getElem hin
    unfold Swap
    simp only [List.getD_eq_getElem?_getD,fj,fi,Option.getD_some]
    obtain ⟨wj,rj⟩:=bk5 hL ops.toList fs T T1 S S1 hst j oj _ (by simpa using hj) fj
    obtain ⟨wi,ri⟩:=bk5 hL ops.toList fs T T1 S S1 hst i oi _ (by simpa using hi) fi
    by_cases hp : ((mayW oj && mayR oi) || (mayW oi && mayR oj)) = true
    ·have hmem : (j,i) ∈ aC2 ops:=by
      unfold aC2
      rw [List.mem_flatMap]
      refine ⟨(oi,i),hidx i oi hi,?_⟩
      simp only [List.mem_filterMap]
      refine ⟨(oj,j),hst2 j i oj oi hji hj hi,?_⟩
      simp only [hp,if_true]
      rw [if_neg hwt]
     have:=List.all_eq_true.1 hpairs _ hmem
     simp only [bO7,fj,fi,Bool.or_eq_true] at this
     exact this.symm
    ·simp only [Bool.or_eq_true,Bool.and_eq_true,not_or,not_and,Bool.not_eq_true] at hp
     left
     unfold Foot.b64
     cases hwj : mayW oj with
     | true =>
      have hri:=hp.1 hwj
      have hwi : mayW oi = false:=by
       cases e : mayW oi with
       | false=>rfl
       | true=>exact absurd ((mayR_of e).symm.trans hri) (by simp)
      rw [ri hri,wi hwi]
      simp only [bP3]
      rfl
     | false =>
      rw [wj hwj]
      cases hwi : mayW oi with
      | true=>rw [rj (hp.2 hwi)]; simp only [bP3]; rfl
      | false=>rw [wi hwi]; rfl
  have hr:=(aM8 (F:=fun i=>fs.getD i ⟨.none,.none⟩) ops.toList 0 fs T T1 S S1 (fun j=>by simp) hst (fun j f hj=>by simp [List.getD_eq_getElem?_getD,hj])).2
  refine wp_region_draw fun t=>?_
  simp only [Region.schedule,hm,Bool.true_or,if_true]
  have hleft : left ops.size (Array.replicate ops.size false) = List.range' 0 ops.toList.length:=by
   rw [left,List.range_eq_range',Array.length_toList,List.filter_eq_self]
   intro j hj
   have hjn : j < ops.size:=by have:=(List.mem_range'_1.1 hj).2; omega
   simp [hjn]
  have hgo:=cE0 (P:=P) (Δ:=Δ) (ops:=ops) hL hE hQ' ops.size t (Array.replicate ops.size false) (T,S) (T1,S1) (by simp) (fun k ok _ hl=>by rw [getD_replicate_false] at hl; cases hl) (by rw [hleft]; simp) (by rw [hleft]; exact hr)
  obtain ⟨l,fs',k1,k2⟩:=bn7 _ _ _ hgo
  exact aI0 hC hΔ l _ T T1 S S1 fs' none G a _ k1 k2 hW.drew hT fun e a' w' h1=>hQ e a' w' (h1.trans (Mod.drew G S w))
end
open Go.RowKit
section
variable {P : Program}
theorem b70 (T : TM) (S : AS) (x : Option AV) : regionEnd T S x = (endOf x,T,S):=by cases x <;> rfl
theorem b56 (ops : Array Oper) : (List.range ops.size).map (ops[·]?) = ops.toList.map some:=by
 apply List.ext_getElem?
 intro j
 by_cases hj : j < ops.size
 ·simp [hj]
 ·simp [Nat.le_of_not_lt hj]
theorem as2 [Cfg] (hC : bp6 P) {Δ : af4} (hΔ : bA3 P Δ) (hL : Local Δ) (hm : P.follows .mixedOrders = true) (n : Nat) {B : Nat → Nat} : ∀ (c : Code) (T T' : TM) (S S' : AS) (x : AX) (G : Gh) (a : Act) (w : World),ae6 P Δ n c T S = some (x,T',S') → WRel G S w B → TRel G S T a →
  c.wp P (Reached G S w B x T' S') a w
 | .skip,T,T',S,S',x,G,a,w,h,hW,hT=>by
  simp only [ae6,Option.some.injEq,Prod.mk.injEq] at h
  obtain ⟨rfl,rfl,rfl⟩:=h
  exact wp_skip ⟨G,trivial,hW,hT,Mod.refl G S w⟩
 | .label l,T,T',S,S',x,G,a,w,h,hW,hT=>by
  simp only [ae6,Option.some.injEq,Prod.mk.injEq] at h
  obtain ⟨rfl,rfl,rfl⟩:=h
  exact wp_label ⟨G,trivial,hW,hT,Mod.refl G S w⟩
 | .region id ops draw,T,T',S,S',x,G,a,w,h,hW,hT=>by
  simp only [ae6] at h
  cases draw with
  | true=>exact cr5 hC hΔ hL hm h hW hT fun e a' w' h1=>h1
  | false =>
   unfold ay8 at h
   cases hst : aj8 P Δ ops ops.toList T S with
   | none=>simp [hst] at h
   | some y =>
    obtain ⟨fs,T2,S2,y⟩:=y
    simp only [hst,Bool.false_eq_true,if_false,Option.some.injEq,b70,Prod.mk.injEq] at h
    obtain ⟨rfl,rfl,rfl⟩:=h
    exact wp_region (aI0 hC hΔ ops.toList _ T T2 S S2 fs y G a w (b56 ops) hst hW hT fun e a' w' h1=>h1)
 | .seq c d,T,T',S,S',x,G,a,w,h,hW,hT=>by
  simp only [ae6] at h
  cases hc : ae6 P Δ n c T S with
  | none=>simp [hc] at h
  | some y =>
   obtain ⟨y,T1,S1⟩:=y
   have ih:=as2 hC hΔ hL hm n c T T1 S S1 y G a w hc hW hT
   refine wp_seq (wp_mono ih ?_)
   rintro e a1 w1 ⟨G1,hx,k1,k2,k3⟩
   rw [hc] at h
   cases y with
   | normal =>
    cases e <;> simp only [XRel] at hx
    refine wp_mono (as2 hC hΔ hL hm n d T1 T' S1 S' x G1 a1 w1 h k1 k2) ?_
    rintro e2 a2 w2 hr
    exact hr.trans k3
   | exit i =>
    simp only [Option.some.injEq,Prod.mk.injEq] at h
    obtain ⟨rfl,rfl,rfl⟩:=h
    cases e <;> simp only [XRel] at hx
    exact ⟨G1,hx,k1,k2,k3⟩
   | ret =>
    simp only [Option.some.injEq,Prod.mk.injEq] at h
    obtain ⟨rfl,rfl,rfl⟩:=h
    cases e <;> simp only [XRel] at hx
    exact ⟨G1,hx,k1,k2,k3⟩
   | pan v =>
    simp only [Option.some.injEq,Prod.mk.injEq] at h
    obtain ⟨rfl,rfl,rfl⟩:=h
    obtain ⟨u,rfl,hv⟩:=hx
    exact ⟨G1,⟨u,rfl,hv⟩,k1,k2,k3⟩
 | .cond c d f,T,T',S,S',x,G,a,w,h,hW,hT=>by
  simp only [ae6] at h
  have hc:=hT.eval c
  split at h
  ·rename_i t ht
   rw [ht] at hc
   have hb:=hc.al0
   refine wp_cond hb ?_
   cases t with
   | true=>exact as2 hC hΔ hL hm n d T T' S S' x G a w (by simpa using h) hW hT
   | false=>exact as2 hC hΔ hL hm n f T T' S S' x G a w (by simpa using h) hW hT
  ·cases h
 | .block id c,T,T',S,S',x,G,a,w,h,hW,hT=>by
  simp only [ae6] at h
  cases hc : ae6 P Δ n c T S with
  | none=>simp [hc] at h
  | some y =>
   obtain ⟨y,T1,S1⟩:=y
   have ih:=as2 hC hΔ hL hm n c T T1 S S1 y G a w hc hW hT
   refine wp_block (wp_mono ih ?_)
   rintro e a1 w1 ⟨G1,hx,k1,k2,k3⟩
   rw [hc] at h
   cases y with
   | normal =>
    simp only [Option.some.injEq,Prod.mk.injEq] at h
    obtain ⟨rfl,rfl,rfl⟩:=h
    cases e <;> simp only [XRel] at hx
    exact ⟨G1,trivial,k1,k2,k3⟩
   | exit i =>
    cases e <;> simp only [XRel] at hx
    subst hx
    simp only at h
    simp only [Exit.inBlock]
    split at h
    ·rename_i hi
     simp only [Option.some.injEq,Prod.mk.injEq] at h
     obtain ⟨rfl,rfl,rfl⟩:=h
     rw [if_pos hi]
     exact ⟨G1,trivial,k1,k2,k3⟩
    ·rename_i hi
     simp only [Option.some.injEq,Prod.mk.injEq] at h
     obtain ⟨rfl,rfl,rfl⟩:=h
     rw [if_neg hi]
     exact ⟨G1,rfl,k1,k2,k3⟩
   | ret =>
    simp only [Option.some.injEq,Prod.mk.injEq] at h
    obtain ⟨rfl,rfl,rfl⟩:=h
    cases e <;> simp only [XRel] at hx
    exact ⟨G1,trivial,k1,k2,k3⟩
   | pan v =>
    simp only [Option.some.injEq,Prod.mk.injEq] at h
    obtain ⟨rfl,rfl,rfl⟩:=h
    obtain ⟨u,rfl,hv⟩:=hx
    exact ⟨G1,⟨u,rfl,hv⟩,k1,k2,k3⟩
 | .loop c,T,T',S,S',x,G,a,w,h,hW,hT=>by
  simp only [ae6] at h
  have key : ∀ (m : Nat) (T1 : TM) (S1 : AS) (G1 : Gh) (a1 : Act) (w1 : World),aY6 (ae6 P Δ n c) m T1 S1 = some (x,T',S') → WRel G1 S1 w1 B → TRel G1 S1 T1 a1 → Mod G S w G1 S1 w1 →
    Code.rounds P c (Reached G S w B x T' S') m a1 w1:=by
   intro m
   induction m with
   | zero=>intro T1 S1 G1 a1 w1 h1 _ _ _; simp [aY6] at h1
   | succ m ih =>
    intro T1 S1 G1 a1 w1 h1 k1 k2 k3
    rw [rounds_succ]
    unfold aY6 at h1
    cases hc : ae6 P Δ n c T1 S1 with
    | none=>simp [hc] at h1
    | some y =>
     obtain ⟨y,T2,S2⟩:=y
     refine wp_mono (as2 hC hΔ hL hm n c T1 T2 S1 S2 y G1 a1 w1 hc k1 k2) ?_
     rintro e a2 w2 ⟨G2,hx,m1,m2,m3⟩
     rw [hc] at h1
     cases y with
     | normal =>
      cases e <;> simp only [XRel] at hx
      exact ih T2 S2 G2 a2 w2 h1 m1 m2 (k3.trans m3)
     | exit i =>
      simp only [Option.some.injEq,Prod.mk.injEq] at h1
      obtain ⟨rfl,rfl,rfl⟩:=h1
      cases e <;> simp only [XRel] at hx
      exact ⟨G2,hx,m1,m2,k3.trans m3⟩
     | ret =>
      simp only [Option.some.injEq,Prod.mk.injEq] at h1
      obtain ⟨rfl,rfl,rfl⟩:=h1
      cases e <;> simp only [XRel] at hx
      exact ⟨G2,trivial,m1,m2,k3.trans m3⟩
     | pan v =>
      simp only [Option.some.injEq,Prod.mk.injEq] at h1
      obtain ⟨rfl,rfl,rfl⟩:=h1
      obtain ⟨u,rfl,hv⟩:=hx
      exact ⟨G2,⟨u,rfl,hv⟩,m1,m2,k3.trans m3⟩
  exact wp_loop_rounds n (key n T S G a w h hW hT (Mod.refl G S w))
 | .exit id,T,T',S,S',x,G,a,w,h,hW,hT=>by
  simp only [ae6,Option.some.injEq,Prod.mk.injEq] at h
  obtain ⟨rfl,rfl,rfl⟩:=h
  exact wp_exit ⟨G,rfl,hW,hT,Mod.refl G S w⟩
 | .ret,T,T',S,S',x,G,a,w,h,hW,hT=>by
  simp only [ae6,Option.some.injEq,Prod.mk.injEq] at h
  obtain ⟨rfl,rfl,rfl⟩:=h
  exact wp_ret ⟨G,trivial,hW,hT,Mod.refl G S w⟩
 | .rangeFunc ..,_,_,_,_,_,_,_,_,h,_,_=>by simp [ae6] at h
 | .scope _,_,_,_,_,_,_,_,_,h,_,_=>by simp [ae6] at h
 | .goto _,_,_,_,_,_,_,_,_,h,_,_=>by simp [ae6] at h
 | .refuse _,_,_,_,_,_,_,_,_,h,_,_=>by simp [ae6] at h
theorem CRel.getD {G : Gh} {T : TM} {a : Act} (h : CRel G T a.tmps.toList) (t : Nat) : VRel G (T.getD t (.lit undef)) (a.tmps.getD t undef):=TRel.eval (S:=.bare) (a:={ a with defers:=[] }) ⟨h,trivial⟩ (.tmp t)
def resOf (a : Act) : ResultVar → Sem Value
 | .tmp t=>pure (a.tmps.getD t undef)
 | .cell c t=>do loadVar t (← asAddr (a.tmps.getD c undef))
theorem bS4 [Cfg] {G : Gh} {S : AS} {w : World} {B : Nat → Nat} (hW : WRel G S w B) {T : TM} {a : Act} (hT : CRel G T a.tmps.toList) {r : ResultVar} {v : AV} (h : aX8 P S T r = some v) :
  ∃ u,(resOf a r).run P w = .ok u w ∧ VRel G v u:=by
 cases r with
 | tmp t =>
  simp only [aX8,Option.some.injEq] at h
  subst h
  exact ⟨_,rfl,CRel.getD hT t⟩
 | cell c t =>
  simp only [aX8] at h
  have hv:=CRel.getD hT c
  obtain ⟨u,h1,h2⟩:=bF9 hW h hv
  have hr : ∃ cs,bg7 S (T.getD c (.lit undef)) = some cs:=by
   unfold bV1 at h
   split at h
   ·rename_i cs d i hr hu hi; exact ⟨cs,hr⟩
   ·cases h
  obtain ⟨cs,hr⟩:=hr
  obtain ⟨b,off,vs,hp,_,_⟩:=aM6 hW hr hv
  refine ⟨u,?_,h2⟩
  rw [hp] at h1
  simpa [resOf,hp,Instr.loadAt,Instr.sureAddr,asAddr] using h1
theorem bh9 [Cfg] {G : Gh} {S : AS} {w : World} {B : Nat → Nat} (hW : WRel G S w B) {T : TM} {a : Act} (hT : CRel G T a.tmps.toList) : ∀ (rs : List ResultVar) (vs : List AV),aG3 P S T rs = some vs →
  ∃ us,(rs.mapM (resOf a)).run P w = .ok us w ∧ CRel G vs us
 | [],vs,h=>by
  simp only [aG3,Option.some.injEq] at h
  subst h
  exact ⟨[],rfl,CRel.nil G⟩
 | r :: rs,vs,h=>by
  unfold aG3 at h
  cases h1 : aX8 P S T r with
  | none=>simp [h1] at h
  | some v =>
   simp only [h1] at h
   cases h2 : aG3 P S T rs with
   | none=>simp [h2] at h
   | some vs' =>
    simp only [h2,Option.some.injEq] at h
    subst h
    obtain ⟨u,k1,k2⟩:=bS4 hW hT h1
    obtain ⟨us,k3,k4⟩:=bh9 hW hT rs vs' h2
    refine ⟨u :: us,?_,CRel.cons k2 k4⟩
    rw [List.mapM_cons]
    simp only [Sem.run_bind]
    rw [k1]
    simp only [Result.andThen_ok]
    rw [k3]
    rfl
theorem bh7 [Cfg] {G : Gh} {S : AS} {w : World} {B : Nat → Nat} (hW : WRel G S w B) {T : TM} {a : Act} (hT : CRel G T a.tmps.toList) {fn : Func} {v : AV} (h : az0 P fn S T = some v) : ∃ u,(results fn a.tmps).run P w = .ok u w ∧ VRel G v u:=by
 obtain ⟨vs,h1,rfl⟩:=Option.map_eq_some_iff.1 h
 obtain ⟨us,k1,k2⟩:=bh9 hW hT _ _ h1
 have hrun : (results fn a.tmps).run P w = .ok (if h : us.toArray.size = 1 then us.toArray[0] else .tuple us.toArray) w:=by
  have e : results fn a.tmps = (do let vs ← fn.results.mapM (resOf a); pure (if h : vs.size = 1 then vs[0] else .tuple vs)):=by
   unfold results
   congr 2
  rw [e,Array.mapM_eq_mapM_toList]
  simp only [Sem.run_bind,Sem.run_map]
  rw [k1]
  rfl
 refine ⟨_,hrun,?_⟩
 match vs,us,k2 with
 | [],[],_=>exact .tup [] [] rfl (fun i a v ha=>by simp at ha)
 | [v],[u],k=>exact k.head
 | v :: v' :: vs,u :: u' :: us,k =>
  have : ¬ ((u :: u' :: us).toArray.size = 1):=by simp
  rw [dif_neg this]
  exact .tup _ _ k.1 k.2
 | [],_ :: _,k=>exact absurd k.1 (by simp)
 | _ :: _,[],k=>exact absurd k.1 (by simp)
 | [_],_ :: _ :: _,k=>exact absurd k.1 (by simp)
 | _ :: _ :: _,[_],k=>exact absurd k.1 (by simp)
theorem run_callFunc_enter {f : FuncId} {fn : Func} {c : Code} (hf : P.funcs[f]? = some fn) (hb : fn.body = some c) (hn : (fn.name == "runtime.NumGoroutine") = false) (args : Array Value) (w : World) : (callFunc f args).run P w = .ok (.enter f args) w := by
 have hn' : ¬ fn.name = "runtime.NumGoroutine" := by simpa using hn
 simp [callFunc,hf,hb,hn']
end
open Go.RowKit
section
variable {P : Program}
def MRel (G : Gh) : AM → FrameMode → Prop
 | none,u=>u = .returning
 | some (v,b),u=>∃ x,VRel G v x ∧ u = .panicking [{ v:=x,recovered:=b }]
def b92 (m : AM) (u : FrameMode) (m' : AM) (u' : FrameMode) : Prop:=(m' = m ∧ u' = u) ∨ ∃ v x,m = some (v,false) ∧ u = .panicking [{ v:=x,recovered:=false }] ∧ m' = some (v,true) ∧ u' = .panicking [{ v:=x,recovered:=true }]
theorem MRel.mono {G H : Gh} (h : G.le H) {m : AM} {u : FrameMode} (k : MRel G m u) : MRel H m u:=by
 cases m with
 | none=>exact k
 | some y=>obtain ⟨v,b⟩:=y; obtain ⟨x,k1,k2⟩:=k; exact ⟨x,k1.mono h,k2⟩
theorem MRel.step {G : Gh} {m m' : AM} {u u' : FrameMode} (k : MRel G m u) (h : b92 m u m' u') : MRel G m' u':=by
 rcases h with ⟨rfl,rfl⟩ | ⟨v,x,rfl,rfl,rfl,rfl⟩
 ·exact k
 ·obtain ⟨x',k1,k2⟩:=k
  cases k2
  exact ⟨x,k1,rfl⟩
theorem b92.trans {m1 m2 m3 : AM} {u1 u2 u3 : FrameMode} (h : b92 m1 u1 m2 u2) (k : b92 m2 u2 m3 u3) : b92 m1 u1 m3 u3:=by
 rcases h with ⟨rfl,rfl⟩ | ⟨v,x,rfl,rfl,rfl,rfl⟩
 ·exact k
 ·rcases k with ⟨rfl,rfl⟩ | ⟨v',x',h1,_⟩
  ·exact .inr ⟨v,x,rfl,rfl,rfl,rfl⟩
  ·cases h1
theorem MRel.settle {G : Gh} {m : AM} {u : FrameMode} (k : MRel G m u) : MRel G m.settle (Go.settle u):=by
 cases m with
 | none=>cases k; rfl
 | some y =>
  obtain ⟨v,b⟩:=y
  obtain ⟨x,k1,rfl⟩:=k
  cases b with
  | false=>exact ⟨x,k1,rfl⟩
  | true=>rfl
theorem MRel.ne_run {G : Gh} {m : AM} {u : FrameMode} (k : MRel G m u) : u ≠ .run:=by
 cases m with
 | none=>cases k; simp
 | some y=>obtain ⟨v,b⟩:=y; obtain ⟨x,k1,rfl⟩:=k; simp
theorem az1 [Cfg] (hC : bp6 P) {Δ : af4} (hΔ : bA3 P Δ) {B : Nat → Nat} {ops : Array Oper} {Q : Exit → Act → List Frame → World → Prop} (c₀ : Frame) (cs : List Frame) : ∀ (l : List Oper) (pi : List Nat) (T T' : TM) (S S' : AS) (m m' : AM) (x : Option AV) (G : Gh) (a : Act) (w : World) (u : FrameMode),pi.map (ops[·]?) = l.map some →
  am6 P Δ ops l T S m = some (T',S',m',x) → WRel G S w B → TRel G S T a → MRel G m u → (∀ e a' w' u',Reached G S w B (endOf x) T' S' e a' w' → b92 m u m' u' → Q e a' ({ c₀ with mode:=u' } :: cs) w') → wpOpsS P ops Q pi a ({ c₀ with mode:=u } :: cs) w
 | [],[],T,T',S,S',m,m',x,G,a,w,u,_,h,hW,hT,hM,hQ=>by
  simp only [am6,Option.some.injEq,Prod.mk.injEq] at h
  obtain ⟨rfl,rfl,rfl,rfl⟩:=h
  exact hQ _ a w u ⟨G,trivial,hW,hT,Mod.refl G S w⟩ (.inl ⟨rfl,rfl⟩)
 | o :: l,i :: pi,T,T',S,S',m,m',x,G,a,w,u,hp,h,hW,hT,hM,hQ=>by
  simp only [List.map_cons,List.cons.injEq] at hp
  unfold wpOpsS
  rw [hp.1]
  simp only
  rw [hT.yielded]
  unfold am6 at h
  split at h
  ·rename_i args tys ho
   split at h
   ·rename_i hw
    rw [if_pos hw]
    have hrun : (execOp a.eval o).run P w = .ok .recover w:=by simp [execOp,ho,resolve,invoke,builtin]
    rw [hrun]
    simp only
    split at h
    ·rename_i v
     obtain ⟨y,hv,rfl⟩:=hM
     simp only [recoverD]
     exact az1 hC hΔ c₀ cs l pi _ T' S S' _ m' x G _ w _ hp.2 h hW (hT.put o.dst hv) ⟨y,hv,rfl⟩ fun e a' w' u' k1 k2=>hQ e a' w' u' k1 (b92.trans (.inr ⟨v,y,rfl,rfl,rfl,rfl⟩) k2)
    ·rename_i hno
     have hrec : recoverD ({ c₀ with mode:=u } :: cs) = none:=by
      cases m with
      | none=>cases hM; rfl
      | some z =>
       obtain ⟨v,b⟩:=z
       obtain ⟨y,hv,rfl⟩:=hM
       cases b with
       | false=>exact absurd rfl (hno v)
       | true=>rfl
     rw [hrec]
     exact az1 hC hΔ c₀ cs l pi _ T' S S' _ m' x G _ w _ hp.2 h hW (hT.put o.dst (.lit _)) hM hQ
   ·rename_i hw
    rw [if_neg hw]
    exact az1 hC hΔ c₀ cs l pi _ T' S S' _ m' x G _ w _ hp.2 h hW (hT.put o.dst (.lit _)) hM hQ
  ·have key : if Region.wanted o (Go.yielded ops a.tmps) then o.wp P a w (fun a' w'=>wpOpsS P ops Q pi a' ({ c₀ with mode:=u } :: cs) w') (fun e a' w'=>Q e a' ({ c₀ with mode:=u } :: cs) w') else wpOpsS P ops Q pi (a.put o.dst undef) ({ c₀ with mode:=u } :: cs) w:=by
    cases hs : ai8 P Δ ops o T S with
    | none=>simp [hs] at h
    | some y =>
     obtain ⟨f,T1,S1,y⟩:=y
     rw [hs] at h
     refine bE8 hC hΔ hs hW hT ?_ ?_
     ·rintro rfl G' a' w' h1 h2 h3
      simp only at h
      exact az1 hC hΔ c₀ cs l pi T1 T' S1 S' m m' x G' a' w' u hp.2 h h1 h2 (hM.mono h3.le) fun e a'' w'' u' k1 k2=>hQ e a'' w'' u' (k1.trans h3) k2
     ·rintro v rfl G' a' w' u' hv h1 h2 h3
      simp only [Option.some.injEq,Prod.mk.injEq] at h
      obtain ⟨rfl,rfl,rfl,rfl⟩:=h
      exact hQ _ a' w' u ⟨G',⟨u',rfl,hv⟩,h1,h2,h3⟩ (.inl ⟨rfl,rfl⟩)
   rw [hT.yielded] at key
   split
   ·rename_i hw
    rw [if_pos hw] at key
    unfold Oper.wp at key
    generalize (execOp a.eval o).run P w = r at key ⊢
    split
    ·exact absurd key (by simp [Oper.upon])
    ·exact key
   ·rename_i hw
    rw [if_neg hw] at key
    exact key
 | [],_ :: _,_,_,_,_,_,_,_,_,_,_,_,hp,_,_,_,_,_=>by simp at hp
 | _ :: _,[],_,_,_,_,_,_,_,_,_,_,_,hp,_,_,_,_,_=>by simp at hp
def co1 [Cfg] (c₀ : Frame) (cs : List Frame) (m : AM) (u : FrameMode) (m' : AM) (G : Gh) (S : AS) (w : World) (B : Nat → Nat) (x : AX) (T' : TM) (S' : AS) (e : Exit) (a' : Act) (cs' : List Frame) (w' : World) : Prop :=
 ∃ u',cs' = { c₀ with mode:=u' } :: cs ∧ b92 m u m' u' ∧ Reached G S w B x T' S' e a' w'
theorem b89 [Cfg] (hC : bp6 P) {Δ : af4} (hΔ : bA3 P Δ) (hL : Local Δ) (hm : P.follows .mixedOrders = true) (n : Nat) {B : Nat → Nat} (c₀ : Frame) (cs : List Frame) : ∀ (c : Code) (T T' : TM) (S S' : AS) (m m' : AM) (x : AX) (G : Gh) (a : Act) (w : World) (u : FrameMode),
  an4 P Δ n c T S m = some (x,T',S',m') → WRel G S w B → TRel G S T a → MRel G m u → c.wpS P (co1 c₀ cs m u m' G S w B x T' S') a ({ c₀ with mode:=u } :: cs) w:=by
 have gen : ∀ (c : Code) (T T' : TM) (S S' : AS) (m m' : AM) (x : AX) (G : Gh) (a : Act) (w : World) (u : FrameMode),(ae6 P Δ n c T S).map (fun r=>(r.1,r.2.1,r.2.2,m)) = some (x,T',S',m') → WRel G S w B → TRel G S T a →
   c.wpS P (co1 c₀ cs m u m' G S w B x T' S') a ({ c₀ with mode:=u } :: cs) w:=by
  intro c T T' S S' m m' x G a w u h hW hT
  obtain ⟨⟨x1,T1,S1⟩,h1,h2⟩:=Option.map_eq_some_iff.1 h
  simp only [Prod.mk.injEq] at h2
  obtain ⟨rfl,rfl,rfl,rfl⟩:=h2
  exact wpS_of_wp (wp_mono (as2 hC hΔ hL hm n c T T1 S S1 x1 G a w h1 hW hT) fun e a' w' k=>⟨u,rfl,.inl ⟨rfl,rfl⟩,k⟩)
 intro c
 induction c with
 | region id ops draw =>
  intro T T' S S' m m' x G a w u h hW hT hM
  cases draw with
  | true=>exact gen _ _ _ _ _ _ _ _ _ _ _ _ h hW hT
  | false =>
   simp only [an4] at h
   cases hst : am6 P Δ ops ops.toList T S m with
   | none=>simp [hst] at h
   | some y =>
    obtain ⟨T1,S1,m1,y⟩:=y
    have he : T' = T1 ∧ S' = S1 ∧ m' = m1 ∧ x = endOf y:=by
     rw [hst] at h
     cases y with
     | none=>simp only [Option.some.injEq,Prod.mk.injEq] at h; exact ⟨h.2.1.symm,h.2.2.1.symm,h.2.2.2.symm,h.1.symm⟩
     | some v=>simp only [Option.some.injEq,Prod.mk.injEq] at h; exact ⟨h.2.1.symm,h.2.2.1.symm,h.2.2.2.symm,h.1.symm⟩
    obtain ⟨rfl,rfl,rfl,rfl⟩:=he
    exact wpS_region (az1 hC hΔ c₀ cs ops.toList _ T T' S S' m m' y G a w u (b56 ops) hst hW hT hM fun e a' w' u' k1 k2=>⟨u',rfl,k2,k1⟩)
 | seq c d ihc ihd =>
  intro T T' S S' m m' x G a w u h hW hT hM
  simp only [an4] at h
  cases hc : an4 P Δ n c T S m with
  | none=>simp [hc] at h
  | some y =>
   obtain ⟨y,T1,S1,m1⟩:=y
   have h1:=ihc T T1 S S1 m m1 y G a w u hc hW hT hM
   refine wpS_seq ?_
   intro b k hb hr
   obtain ⟨e,a',cs',w',⟨u',rfl,k1,G1,hx,k2,k3,k4⟩,harr⟩:=h1 b k hb hr
   refine ⟨e,a',_,w',?_,harr⟩
   rw [hc] at h
   cases y with
   | normal =>
    cases e <;> simp only [XRel] at hx
    simp only [Exit.thenS]
    intro b' k' hb' hr'
    obtain ⟨e2,a2,cs2,w2,⟨u2,rfl,q1,q2⟩,harr2⟩:=ihd T1 T' S1 S' m1 m' x G1 a' w' u' h k2 k3 ((hM.mono k4.le).step k1) b' k' hb' hr'
    exact ⟨e2,a2,_,w2,⟨u2,rfl,k1.trans q1,q2.trans k4⟩,harr2⟩
   | exit i =>
    simp only [Option.some.injEq,Prod.mk.injEq] at h
    obtain ⟨rfl,rfl,rfl,rfl⟩:=h
    cases e <;> simp only [XRel] at hx
    exact ⟨u',rfl,k1,G1,hx,k2,k3,k4⟩
   | ret =>
    simp only [Option.some.injEq,Prod.mk.injEq] at h
    obtain ⟨rfl,rfl,rfl,rfl⟩:=h
    cases e <;> simp only [XRel] at hx
    exact ⟨u',rfl,k1,G1,hx,k2,k3,k4⟩
   | pan v =>
    simp only [Option.some.injEq,Prod.mk.injEq] at h
    obtain ⟨rfl,rfl,rfl,rfl⟩:=h
    obtain ⟨y,rfl,hv⟩:=hx
    exact ⟨u',rfl,k1,G1,⟨y,rfl,hv⟩,k2,k3,k4⟩
 | _=>intro T T' S S' m m' x G a w u h hW hT hM; exact gen _ _ _ _ _ _ _ _ _ _ _ _ h hW hT
theorem b55 {G : Gh} {S : AS} {args : List AV} {args' : List Value} {fn : Func} (h : CRel G args args') (hd : S.dfr = []) : TRel G S (aq9 fn args) { tmps:=args'.toArray ++ Array.replicate (fn.ntmps - args'.toArray.size) undef,defers:=[] }:=by
 refine ⟨?_,by rw [hd]; trivial⟩
 simp only [aq9,Array.toList_append,Array.toList_replicate,List.size_toArray,← h.1]
 refine h.append ⟨by simp,fun i a v ha hv=>?_⟩
 rw [List.getElem?_replicate] at ha hv
 split at ha
 ·rename_i hi; rw [if_pos hi] at hv; cases ha; cases hv; exact .lit _
 ·cases ha
theorem bo2 [Cfg] (hC : bp6 P) {Δ : af4} (hΔ : bA3 P Δ) (hL : Local Δ) (hmo : P.follows .mixedOrders = true) (n : Nat) {B : Nat → Nat} {fn : Func} {T : TM} {tmps : Array Value} {R : Ending → World → Prop} : ∀ (ds : List (FuncId × List AV)) (dl : List Deferred) (m m' : AM) (S S'' : AS) (G : Gh) (w : World) (u : FrameMode),
  ai1 P Δ n ds m S = some (m',S'') → WRel G S w B → DRel G ds dl → CRel G T tmps.toList → MRel G m u →
  (∀ G' w' u',WRel G' S'' w' B → CRel G' T tmps.toList → MRel G' m' u' → Mod G S w G' S'' w' → Leaves P fn tmps R [] u' w') → Leaves P fn tmps R dl u w
 | [],[],m,m',S,S'',G,w,u,h,hW,hD,hT,hM,hR=>by
  simp only [ai1,Option.some.injEq,Prod.mk.injEq] at h
  obtain ⟨rfl,rfl⟩:=h
  exact hR G w u hW hT hM (Mod.refl G S w)
 | (f,args) :: ds,d :: dl,m,m',S,S'',G,w,u,h,hW,hD,hT,hM,hR=>by
  obtain ⟨⟨cap,ht,hargs⟩,hD'⟩:=hD
  unfold ai1 at h
  cases hf : P.funcs[f]? with
  | none=>simp [hf] at h
  | some fd =>
   simp only [hf] at h
   cases hb : fd.body with
   | none=>simp [hb] at h
   | some c =>
    simp only [hb,Option.ite_none_right_eq_some] at h
    obtain ⟨⟨hn,hlen⟩,h⟩:=h
    cases hx : an4 P Δ n c (aq9 fd args) (S.enter f) m with
    | none=>simp [hx] at h
    | some y =>
     obtain ⟨x,T1,S1,m1⟩:=y
     simp only [hx,Option.ite_none_right_eq_some,Bool.and_eq_true] at h
     obtain ⟨⟨hemp,hres⟩,h⟩:=h
     obtain ⟨v,hres⟩:=Option.isSome_iff_exists.1 hres
     have hhand : (x = .normal ∨ x = .ret) ∧ ∃ z r,ak3 f S S1 (.tup []) = some (z,r) ∧ ai1 P Δ n ds m1.settle (S.after r) = some (m',S''):=by
      cases x with
      | exit i=>cases h
      | pan v=>cases h
      | normal =>
       simp only at h
       cases hh : ak3 f S S1 (.tup []) with
       | none=>rw [hh] at h; cases h
       | some z=>rw [hh] at h; exact ⟨.inl rfl,z.1,z.2,rfl,h⟩
      | ret =>
       simp only at h
       cases hh : ak3 f S S1 (.tup []) with
       | none=>rw [hh] at h; cases h
       | some z=>rw [hh] at h; exact ⟨.inr rfl,z.1,z.2,rfl,h⟩
     obtain ⟨hxx,z,r,hh,hrest⟩:=hhand
     refine ⟨hM.ne_run,.func f,cap,f,d.args ++ cap,ht,?_,?_⟩
     ·rw [ht]
      simp only [invoke]
      exact run_callFunc_enter hf hb hn _ w
     ·have e0 : d.args ++ cap = (d.args ++ cap).toList.toArray:=by simp
      rw [e0]
      refine callsD_of_wpS hf hb fun c₀ cs hu=>?_
      subst hu
      intro b k hbk hr
      obtain ⟨e,a',cs',w',⟨u',rfl,k1,G1,hxr,k2,k3,k4⟩,harr⟩:=b89 hC hΔ hL hmo n c₀ cs c (aq9 fd args) T1 (S.enter f) S1 m m1 x G _ w c₀.mode hx (hW.push f) (b55 hargs rfl) hM b k hbk hr
      refine ⟨e,a',_,w',?_,harr⟩
      obtain ⟨z',hz1,hz2⟩:=bh7 k2 k3.1 hres
      obtain ⟨G2,_,q2,q3⟩:=aQ9 hW k2 k4 (.tup [] [] rfl fun i a v ha=>by simp at ha) hh
      have hde : a'.defers = []:=by
       have:=k3.2
       rw [List.isEmpty_iff.1 hemp] at this
       cases hd : a'.defers with
       | nil=>rfl
       | cons d0 dr=>rw [hd] at this; exact this.elim
      have fin : a'.defers = [] ∧ ∃ u'',({ c₀ with mode:=u' } :: cs : List Frame) = { c₀ with mode:=u'' } :: cs ∧ ∃ v,(results fd a'.tmps).run P w' = .ok v w' ∧ Leaves P fn tmps R dl (Go.settle u'') w' :=
       ⟨hde,u',rfl,z',hz1,bo2 hC hΔ hL hmo n ds dl m1.settle m' (S.after r) S'' G2 w' (Go.settle u') hrest q2 (hD'.mono q3.le) (hT.mono q3.le) ((hM.mono q3.le).step k1).settle
        fun G' w'' u'' j1 j2 j3 j4=>hR G' w'' u'' j1 j2 j3 (q3.trans j4)⟩
      rcases hxx with rfl | rfl
      ·cases e <;> simp only [XRel] at hxr; exact fin
      ·cases e <;> simp only [XRel] at hxr; exact fin
 | [],_ :: _,_,_,_,_,_,_,_,_,_,hD,_,_,_=>hD.elim
 | _ :: _,[],_,_,_,_,_,_,_,_,_,hD,_,_,_=>hD.elim
theorem ci6 [Cfg] {G G' : Gh} {S S' : AS} {w w' : World} {B : Nat → Nat} {f : FuncId} {fn : Func} {T : TM} {tmps : Array Value} {m : AM} {u : FrameMode} {x : AE} {r : Upd} (h : WRel G S w B) (h' : WRel G' S' w' (under S w B)) (hm : Mod G (S.enter f) w G' S' w') (hT : CRel G' T tmps.toList) (hM : MRel G' m u)
  (hh : aJ9 P fn f S S' T m = some (x,r)) : Leaves P fn tmps (fun e w'=>∃ G',AE.rel G' x e ∧ WRel G' (S.after r) w' B ∧ Mod G S w G' (S.after r) w') [] u w':=by
 cases m with
 | none =>
  cases hM
  unfold aJ9 at hh
  simp only at hh
  cases hr : az0 P fn S' T with
  | none=>simp [hr] at hh
  | some v =>
   rw [hr] at hh
   obtain ⟨⟨y,r'⟩,h1,h2⟩:=Option.map_eq_some_iff.1 hh
   cases h2
   obtain ⟨z,hz1,hz2⟩:=bh7 (a:={ tmps:=tmps,defers:=[] }) h' hT hr
   obtain ⟨G2,q1,q2,q3⟩:=aQ9 h h' hm hz2 h1
   exact ⟨z,hz1,G2,⟨z,rfl,q1⟩,q2,q3⟩
 | some y =>
  obtain ⟨v,b⟩:=y
  obtain ⟨z,hz,rfl⟩:=hM
  cases b with
  | true=>cases hh
  | false =>
   unfold aJ9 at hh
   simp only at hh
   obtain ⟨⟨y,r'⟩,h1,h2⟩:=Option.map_eq_some_iff.1 hh
   cases h2
   obtain ⟨G2,q1,q2,q3⟩:=aQ9 h h' hm hz h1
   exact ⟨G2,⟨z,rfl,q1⟩,q2,q3⟩
structure bl0 [Cfg] (P : Program) : Prop where
 sound : ∀ f h,Cfg.given f = some h → ∀ args S x r,h args S = some (x,r) → (∀ args' w,(callFunc f args').run P w = .ok (.enter f args') w) ∧
  ∀ G w B args',WRel G S w B → CRel G args args' → Calls P f args'.toArray w fun e w'=>∃ G',AE.rel G' x e ∧ WRel G' (S.after r) w' B ∧ Mod G S w G' (S.after r) w'
 here : ∀ f h,Cfg.given f = some h → ∀ args S x t l,h args S = some (x,some (t,l)) → ∀ p,p ∉ l → t.get p = S.tab.get p
theorem ce1 [Cfg] {S S' : AS} {f : FuncId} {fn : Func} {T : TM} {m : AM} {x : AE} {t : Tab} {l : List Loc} (hh : aJ9 P fn f S S' T m = some (x,some (t,l))) : ∀ p,p ∉ l → t.get p = S.tab.get p:=by
 cases m with
 | none =>
  unfold aJ9 at hh
  simp only at hh
  cases hr : az0 P fn S' T with
  | none=>simp [hr] at hh
  | some v =>
   rw [hr] at hh
   obtain ⟨⟨y,r'⟩,h1,h2⟩:=Option.map_eq_some_iff.1 hh
   cases h2
   exact aW6 h1
 | some y =>
  obtain ⟨v,b⟩:=y
  cases b with
  | true=>cases hh
  | false =>
   unfold aJ9 at hh
   simp only at hh
   obtain ⟨⟨y,r'⟩,h1,h2⟩:=Option.map_eq_some_iff.1 hh
   cases h2
   exact aW6 h1
theorem bG9 [Cfg] {n : Nat} {f : FuncId} {args : List AV} {S : AS} {y : AE × Upd} (hg : Cfg.given f = none) (h : aj2 P (n + 1) f args S = some y) : ∃ fn c x T' S' m m' S'', P.funcs[f]? = some fn ∧ fn.body = some c ∧ (fn.name == "runtime.NumGoroutine") = false ∧ args.length ≤ fn.ntmps ∧
  ae6 P (aj2 P n) n c (aq9 fn (aE8 f S.fn args)) (S.enter f) = some (x,T',S') ∧ ((x = .normal ∨ x = .ret) ∧ m = none ∨ ∃ v,x = .pan v ∧ m = some (v,false)) ∧
  ai1 P (aj2 P n) n S'.dfr m { S' with dfr:=[] } = some (m',S'') ∧ aJ9 P fn f S S'' T' m' = some y:=by
 unfold aj2 at h
 rw [hg] at h
 simp only at h
 cases hf : P.funcs[f]? with
 | none=>simp [hf] at h
 | some fn =>
  simp only [hf] at h
  cases hb : fn.body with
  | none=>simp [hb] at h
  | some c =>
   simp only [hb,Option.ite_none_right_eq_some] at h
   obtain ⟨⟨hn,hlen⟩,h⟩:=h
   cases hx : ae6 P (aj2 P n) n c (aq9 fn (aE8 f S.fn args)) (S.enter f) with
   | none=>simp [hx] at h
   | some z =>
    obtain ⟨x,T',S'⟩:=z
    simp only [hx] at h
    have go : ∀ m : AM, (match S'.dfr with
       | []=>aJ9 P fn f S S' T' m
       | ds=>match ai1 P (aj2 P n) n ds m { S' with dfr:=[] } with
        | some (m',S'')=>aJ9 P fn f S S'' T' m'
        | none=>none) = some y → ∃ m' S'',ai1 P (aj2 P n) n S'.dfr m { S' with dfr:=[] } = some (m',S'') ∧ aJ9 P fn f S S'' T' m' = some y:=by
     intro m h
     cases hd : S'.dfr with
     | nil =>
      rw [hd] at h
      refine ⟨m,_,rfl,?_⟩
      have e : ({ S' with dfr:=[] } : AS) = S':=by cases S'; simp only at hd; subst hd; rfl
      rw [e]
      exact h
     | cons d dr =>
      rw [hd] at h
      simp only at h
      cases hl : ai1 P (aj2 P n) n (d :: dr) m { S' with dfr:=[] } with
      | none=>rw [hl] at h; cases h
      | some z=>rw [hl] at h; exact ⟨z.1,z.2,rfl,h⟩
    cases x with
    | exit i=>cases h
    | normal=>obtain ⟨m',S'',k1,k2⟩:=go none h; exact ⟨fn,c,_,T',S',_,m',S'',rfl,hb,hn,hlen,hx,.inl ⟨.inl rfl,rfl⟩,k1,k2⟩
    | ret=>obtain ⟨m',S'',k1,k2⟩:=go none h; exact ⟨fn,c,_,T',S',_,m',S'',rfl,hb,hn,hlen,hx,.inl ⟨.inr rfl,rfl⟩,k1,k2⟩
    | pan v=>obtain ⟨m',S'',k1,k2⟩:=go (some (v,false)) h; exact ⟨fn,c,_,T',S',_,m',S'',rfl,hb,hn,hlen,hx,.inr ⟨v,rfl,rfl⟩,k1,k2⟩
theorem ch9 [Cfg] (hG : bl0 P) : ∀ n,Local (aj2 P n)
 | 0=>fun f args S x t l h=>by simp [aj2] at h
 | n + 1=>fun f args S x t l h=>by
  cases hg : Cfg.given f with
  | some k =>
   unfold aj2 at h
   rw [hg] at h
   exact hG.here f k hg args S x t l h
  | none =>
   obtain ⟨fn,c,x,T',S',m,m',S'',_,_,_,_,_,_,_,h1⟩:=bG9 hg h
   exact ce1 h1
theorem bj0 [Cfg] (hC : bp6 P) (hG : bl0 P) (hmo : P.follows .mixedOrders = true) : ∀ n,bA3 P (aj2 P n)
 | 0=>fun f args S x r h=>by simp [aj2] at h
 | n + 1=>fun f args S y r h=>by
  have ih:=bj0 hC hG hmo n
  have hL:=ch9 hG n
  cases hg : Cfg.given f with
  | some k =>
   unfold aj2 at h
   rw [hg] at h
   exact hG.sound f k hg args S y r h
  | none =>
   obtain ⟨fn,c,x,T',S',m,m',S'',hf,hb,hn,hlen,hx,hxm,hl,he⟩:=bG9 hg h
   refine ⟨fun args' w=>run_callFunc_enter hf hb hn args' w,fun G w B args' hW hargs=>?_⟩
   have hargs' : CRel G (aE8 f S.fn args) args':=by
    unfold aE8
    exact hargs.ac1
   refine calls_of_wp_defers hf hb (wp_mono (as2 hC ih hL hmo n c _ T' _ S' x G _ w hx (hW.push f) (b55 hargs' rfl)) ?_)
   rintro e a' w' ⟨G',hxr,k1,k2,k3⟩
   have fin : ∀ u,MRel G' m u → Leaves P fn a'.tmps (fun e w'=>∃ G',AE.rel G' y e ∧ WRel G' (S.after r) w' B ∧ Mod G S w G' (S.after r) w') a'.defers u w':=fun u hM =>
    bo2 hC ih hL hmo n S'.dfr a'.defers m m' { S' with dfr:=[] } S'' G' w' u hl ⟨k1.imm,k1.slot,k1.lvs,k1.apart,k1.dom,k1.base,k1.mono,k1.fits,k1.far⟩ k2.2 k2.1 hM fun G2 w2 u2 j1 j2 j3 j4 =>
     ci6 hW j1 (Mod.trans (T:={ S' with dfr:=[] }) ⟨k3.le,k3.lvl,k3.fn,k3.log,k3.os,k3.tape,k3.output,k3.size⟩ j4) j2 j3 he
   rcases hxm with ⟨rfl | rfl,rfl⟩ | ⟨v,rfl,rfl⟩
   ·cases e <;> simp only [XRel] at hxr
    exact fin _ rfl
   ·cases e <;> simp only [XRel] at hxr
    exact fin _ rfl
   ·obtain ⟨u,rfl,hv⟩:=hxr
    exact fin _ ⟨u,hv,rfl⟩
end
open Go.RowKit
section
variable {P : Program}
def af4.le (Δ Δ' : af4) : Prop:=∀ f args S r,Δ f args S = some r → Δ' f args S = some r
theorem ba6 [Cfg] {Δ Δ' : af4} (h : Δ.le Δ') {ops : Array Oper} {o : Oper} {T : TM} {S : AS} {r : Foot × TM × AS × Option AV} (hs : ai8 P Δ ops o T S = some r) : ai8 P Δ' ops o T S = some r:=by
 unfold ai8 at hs ⊢
 split at hs
 ·rename_i hw
  rw [if_pos hw]
  cases hx : aop P S (aev T) o with
  | none=>simp [hx] at hs
  | some x =>
   rw [hx] at hs
   cases x with
   | val v=>exact hs
   | chg v p s=>exact hs
   | pan v=>exact hs
   | dfr f args=>exact hs
   | call f args =>
    simp only [Option.ite_none_right_eq_some] at hs ⊢
    refine ⟨hs.1,?_⟩
    have hs:=hs.2
    split
    ·rename_i hc
     rw [if_pos hc] at hs
     cases hd : Δ f (args.map AV.ac1) .bare with
     | none=>simp [hd] at hs
     | some y =>
      rw [h f (args.map AV.ac1) .bare y hd]
      rw [hd] at hs
      exact hs
    ·rename_i hc
     rw [if_neg hc] at hs
     cases hd : Δ f args S with
     | none=>simp [hd] at hs
     | some y =>
      rw [h f args S y hd]
      rw [hd] at hs
      exact hs
 ·rename_i hw
  rw [if_neg hw]
  exact hs
theorem bm6 [Cfg] {Δ Δ' : af4} (h : Δ.le Δ') {ops : Array Oper} : ∀ (l : List Oper) (T : TM) (S : AS) (r : List Foot × TM × AS × Option AV),aj8 P Δ ops l T S = some r → aj8 P Δ' ops l T S = some r
 | [],T,S,r,hs=>hs
 | o :: l,T,S,r,hs=>by
  unfold aj8 at hs ⊢
  cases h1 : ai8 P Δ ops o T S with
  | none=>simp [h1] at hs
  | some y =>
   obtain ⟨f,T1,S1,x⟩:=y
   rw [ba6 h h1]
   rw [h1] at hs
   cases x with
   | some v=>exact hs
   | none =>
    simp only at hs ⊢
    cases h2 : aj8 P Δ ops l T1 S1 with
    | none=>simp [h2] at hs
    | some z =>
     rw [bm6 h l T1 S1 z h2]
     rw [h2] at hs
     exact hs
theorem ca4 [Cfg] {Δ Δ' : af4} (h : Δ.le Δ') {ops : Array Oper} {d : Bool} {T : TM} {S : AS} {r : AX × TM × AS} (hs : ay8 P Δ ops d T S = some r) : ay8 P Δ' ops d T S = some r:=by
 unfold ay8 at hs ⊢
 cases h1 : aj8 P Δ ops ops.toList T S with
 | none=>simp [h1] at hs
 | some y=>rw [bm6 h _ _ _ y h1]; rw [h1] at hs; exact hs
abbrev XO:=Option (AX × TM × AS)
theorem bt9 {f g : TM → AS → XO} (h : ∀ T S r,f T S = some r → g T S = some r) : ∀ (n m : Nat),n ≤ m → ∀ T S r,aY6 f n T S = some r → aY6 g m T S = some r
 | 0,_,_,T,S,r,hs=>by simp [aY6] at hs
 | n + 1,0,hm,_,_,_,_=>by omega
 | n + 1,m + 1,hm,T,S,r,hs=>by
  unfold aY6 at hs ⊢
  cases h1 : f T S with
  | none=>simp [h1] at hs
  | some y =>
   obtain ⟨x,T1,S1⟩:=y
   rw [h T S _ h1]
   rw [h1] at hs
   cases x with
   | normal=>exact bt9 h n m (by omega) T1 S1 r hs
   | _=>exact hs
theorem al5 [Cfg] {Δ Δ' : af4} (h : Δ.le Δ') {n m : Nat} (hnm : n ≤ m) : ∀ (c : Code) (T : TM) (S : AS) (r : AX × TM × AS),ae6 P Δ n c T S = some r → ae6 P Δ' m c T S = some r
 | .skip,T,S,r,hs=>hs
 | .label _,T,S,r,hs=>hs
 | .region id ops d,T,S,r,hs=>by
  simp only [ae6] at hs ⊢
  exact ca4 h hs
 | .seq a b,T,S,r,hs=>by
  simp only [ae6] at hs ⊢
  cases h1 : ae6 P Δ n a T S with
  | none=>simp [h1] at hs
  | some y =>
   obtain ⟨x,T1,S1⟩:=y
   rw [al5 h hnm a T S _ h1]
   rw [h1] at hs
   cases x with
   | normal=>exact al5 h hnm b T1 S1 r hs
   | _=>exact hs
 | .cond c a b,T,S,r,hs=>by
  simp only [ae6] at hs ⊢
  split at hs
  ·rename_i t ht
   try simp only [ht]
   cases t with
   | true=>exact al5 h hnm a T S r hs
   | false=>exact al5 h hnm b T S r hs
  ·cases hs
 | .block id b,T,S,r,hs=>by
  simp only [ae6] at hs ⊢
  cases h1 : ae6 P Δ n b T S with
  | none=>simp [h1] at hs
  | some y =>
   obtain ⟨x,T1,S1⟩:=y
   rw [al5 h hnm b T S _ h1]
   rw [h1] at hs
   exact hs
 | .loop b,T,S,r,hs=>by
  simp only [ae6] at hs ⊢
  exact bt9 (fun T S r hr=>al5 h hnm b T S r hr) n m hnm T S r hs
 | .exit id,T,S,r,hs=>hs
 | .ret,T,S,r,hs=>hs
 | .rangeFunc ..,_,_,_,hs=>by simp [ae6] at hs
 | .scope _,_,_,_,hs=>by simp [ae6] at hs
 | .goto _,_,_,_,hs=>by simp [ae6] at hs
 | .refuse _,_,_,_,hs=>by simp [ae6] at hs
theorem ax5 [Cfg] {Δ Δ' : af4} (h : Δ.le Δ') {ops : Array Oper} : ∀ (l : List Oper) (T : TM) (S : AS) (m : AM) (r : TM × AS × AM × Option AV),am6 P Δ ops l T S m = some r → am6 P Δ' ops l T S m = some r
 | [],T,S,m,r,hs=>hs
 | o :: l,T,S,m,r,hs=>by
  unfold am6 at hs ⊢
  split at hs
  ·split at hs
   ·rename_i hw
    rw [if_pos hw]
    split at hs
    ·exact ax5 h l _ _ _ r hs
    ·exact ax5 h l _ _ _ r hs
   ·rename_i hw
    rw [if_neg hw]
    exact ax5 h l _ _ _ r hs
  ·cases h1 : ai8 P Δ ops o T S with
   | none=>simp [h1] at hs
   | some y =>
    obtain ⟨f,T1,S1,x⟩:=y
    rw [ba6 h h1]
    rw [h1] at hs
    cases x with
    | some v=>exact hs
    | none=>exact ax5 h l T1 S1 m r hs
theorem aL8 [Cfg] {Δ Δ' : af4} (h : Δ.le Δ') {n k : Nat} (hnm : n ≤ k) : ∀ (c : Code) (T : TM) (S : AS) (m : AM) (r : AX × TM × AS × AM),an4 P Δ n c T S m = some r → an4 P Δ' k c T S m = some r:=by
 have gen : ∀ (c : Code) (T : TM) (S : AS) (m : AM) (r : AX × TM × AS × AM),(ae6 P Δ n c T S).map (fun r=>(r.1,r.2.1,r.2.2,m)) = some r → (ae6 P Δ' k c T S).map (fun r=>(r.1,r.2.1,r.2.2,m)) = some r:=by
  intro c T S m r hs
  obtain ⟨y,h1,h2⟩:=Option.map_eq_some_iff.1 hs
  rw [al5 h hnm c T S y h1]
  rw [← h2]
  rfl
 intro c
 induction c with
 | region id ops d =>
  intro T S m r hs
  cases d with
  | true=>exact gen _ _ _ _ _ hs
  | false =>
   simp only [an4] at hs ⊢
   cases h1 : am6 P Δ ops ops.toList T S m with
   | none=>simp [h1] at hs
   | some y=>rw [ax5 h _ _ _ _ y h1]; rw [h1] at hs; exact hs
 | seq a b iha ihb =>
  intro T S m r hs
  simp only [an4] at hs ⊢
  cases h1 : an4 P Δ n a T S m with
  | none=>simp [h1] at hs
  | some y =>
   obtain ⟨x,T1,S1,m1⟩:=y
   rw [iha T S m _ h1]
   rw [h1] at hs
   cases x with
   | normal=>exact ihb T1 S1 m1 r hs
   | _=>exact hs
 | _=>intro T S m r hs; exact gen _ _ _ _ _ hs
theorem aw9 [Cfg] {Δ Δ' : af4} (h : Δ.le Δ') {n k : Nat} (hnm : n ≤ k) : ∀ (ds : List (FuncId × List AV)) (m : AM) (S : AS) (r : AM × AS),ai1 P Δ n ds m S = some r → ai1 P Δ' k ds m S = some r
 | [],m,S,r,hs=>hs
 | (f,args) :: ds,m,S,r,hs=>by
  unfold ai1 at hs ⊢
  cases hf : P.funcs[f]? with
  | none=>simp [hf] at hs
  | some fn =>
   simp only [hf] at hs ⊢
   cases hb : fn.body with
   | none=>simp [hb] at hs
   | some c =>
    simp only [hb,Option.ite_none_right_eq_some] at hs ⊢
    refine ⟨hs.1,?_⟩
    have hs:=hs.2
    cases hx : an4 P Δ n c (aq9 fn args) (S.enter f) m with
    | none=>simp [hx] at hs
    | some y =>
     obtain ⟨x,T',S',m'⟩:=y
     rw [aL8 h hnm c _ _ _ _ hx]
     simp only [hx,Option.ite_none_right_eq_some] at hs ⊢
     refine ⟨hs.1,?_⟩
     have hs:=hs.2
     cases x with
     | exit i=>cases hs
     | pan v=>cases hs
     | normal =>
      simp only at hs ⊢
      cases hh : ak3 f S S' (.tup []) with
      | none=>rw [hh] at hs; cases hs
      | some z=>rw [hh] at hs; exact aw9 h hnm ds _ _ r hs
     | ret =>
      simp only at hs ⊢
      cases hh : ak3 f S S' (.tup []) with
      | none=>rw [hh] at hs; cases hs
      | some z=>rw [hh] at hs; exact aw9 h hnm ds _ _ r hs
def AX.mode : AX → Option AM
 | .normal=>some none
 | .ret=>some none
 | .pan v=>some (some (v,false))
 | .exit _=>none
def finish [Cfg] (P : Program) (Δ : af4) (n : Nat) (fn : Func) (f : FuncId) (S : AS) : XO → Option (AE × Upd)
 | some (x,T',S')=>match x.mode with
  | some m=>match ai1 P Δ n S'.dfr m { S' with dfr:=[] } with
   | some (m',S'')=>aJ9 P fn f S S'' T' m'
   | none=>none
  | none=>none
 | none=>none
theorem ba0 [Cfg] (n : Nat) {f : FuncId} {fn : Func} {c : Code} (hg : Cfg.given f = none) (hf : P.funcs[f]? = some fn) (hb : fn.body = some c) (hn : (fn.name == "runtime.NumGoroutine") = false) {args : List AV} (ha : args.length ≤ fn.ntmps) (S : AS) :
  aj2 P (n + 1) f args S = finish P (aj2 P n) n fn f S (ae6 P (aj2 P n) n c (aq9 fn (aE8 f S.fn args)) (S.enter f)):=by
 conv=>lhs; unfold aj2
 rw [hg]
 simp only [hf,hb]
 rw [if_pos ⟨hn,ha⟩]
 have go : ∀ (S' : AS) (T' : TM) (m : AM), (match S'.dfr with
       | []=>aJ9 P fn f S S' T' m
       | ds=>match ai1 P (aj2 P n) n ds m { S' with dfr:=[] } with
        | some (m',S'')=>aJ9 P fn f S S'' T' m'
        | none=>none) = (match ai1 P (aj2 P n) n S'.dfr m { S' with dfr:=[] } with
   | some (m',S'')=>aJ9 P fn f S S'' T' m'
   | none=>none):=by
  intro S' T' m
  cases hd : S'.dfr with
  | nil =>
   have e : ({ S' with dfr:=[] } : AS) = S':=by cases S'; simp only at hd; subst hd; rfl
   rw [e]
   rfl
  | cons d dr=>rfl
 cases hx : ae6 P (aj2 P n) n c (aq9 fn (aE8 f S.fn args)) (S.enter f) with
 | none=>rfl
 | some y =>
  obtain ⟨x,T',S'⟩:=y
  cases x with
  | exit i=>rfl
  | normal=>exact go S' T' none
  | ret=>exact go S' T' none
  | pan v=>exact go S' T' (some (v,false))
theorem bF0 [Cfg] {Δ Δ' : af4} (h : Δ.le Δ') {n k : Nat} (hnm : n ≤ k) {fn : Func} {f : FuncId} {S : AS} {x y : XO} {r : AE × Upd} (hx : ∀ z,x = some z → y = some z) (hs : finish P Δ n fn f S x = some r) : finish P Δ' k fn f S y = some r:=by
 cases x with
 | none=>cases hs
 | some z =>
  rw [hx z rfl]
  obtain ⟨x,T',S'⟩:=z
  unfold finish at hs ⊢
  simp only at hs ⊢
  cases hm : x.mode with
  | none=>rw [hm] at hs; cases hs
  | some m =>
   rw [hm] at hs
   simp only at hs ⊢
   cases hl : ai1 P Δ n S'.dfr m { S' with dfr:=[] } with
   | none=>rw [hl] at hs; cases hs
   | some z=>rw [aw9 h hnm _ _ _ z hl]; rw [hl] at hs; exact hs
theorem ag9 [Cfg] : ∀ n m,n ≤ m → (aj2 P n).le (aj2 P m)
 | 0,_,_=>fun f args S r h=>by simp [aj2] at h
 | n + 1,0,h=>by omega
 | n + 1,m + 1,h=>fun f args S r hs=>by
  cases hg : Cfg.given f with
  | some k =>
   unfold aj2 at hs ⊢
   rw [hg] at hs ⊢
   exact hs
  | none =>
   obtain ⟨fn,c,_,_,_,_,_,_,hf,hb,hn,hl,_⟩:=bG9 hg hs
   have hl : args.length ≤ fn.ntmps:=hl
   rw [ba0 n hg hf hb hn hl] at hs
   rw [ba0 m hg hf hb hn hl]
   exact bF0 (ag9 n m (by omega)) (by omega) (fun z hz=>al5 (ag9 n m (by omega)) (by omega) c _ _ z hz) hs
noncomputable def lim {α : Type} (f : Nat → Option α) : Option α :=
 open Classical in if h : ∃ n,(f n).isSome = true then f h.choose else none
theorem bV5 {α : Type} {f : Nat → Option α} (hf : ∀ n m r,n ≤ m → f n = some r → f m = some r) {r : α} : lim f = some r ↔ ∃ n,f n = some r:=by
 constructor
 ·intro h
  unfold lim at h
  split at h
  ·exact ⟨_,h⟩
  ·cases h
 ·rintro ⟨n,hn⟩
  have hex : ∃ n,(f n).isSome = true:=⟨n,by rw [hn]; rfl⟩
  unfold lim
  rw [dif_pos hex]
  obtain ⟨r',hr'⟩:=Option.isSome_iff_exists.1 hex.choose_spec
  rw [hr']
  have h1:=hf _ (max n hex.choose) _ (Nat.le_max_left ..) hn
  have h2:=hf _ (max n hex.choose) _ (Nat.le_max_right ..) hr'
  rw [h1] at h2
  exact h2.symm
noncomputable def ah6 [Cfg] (P : Program) : af4:=fun f args S=>lim fun n=>aj2 P n f args S
theorem ax3 [Cfg] {f : FuncId} {args : List AV} {S : AS} {r : AE × Upd} : ah6 P f args S = some r ↔ ∃ n,aj2 P n f args S = some r :=
 bV5 fun n m r h hr=>ag9 n m h f args S r hr
theorem ck8 [Cfg] (hC : bp6 P) (hG : bl0 P) (hm : P.follows .mixedOrders = true) : bA3 P (ah6 P):=fun f args S v r h=>by
 obtain ⟨n,hn⟩:=ax3.1 h
 exact bj0 hC hG hm n f args S v r hn
end
open Go.RowKit
section
variable {P : Program}
theorem bw9 [Cfg] {ops : Array Oper} {o : Oper} {T : TM} {S : AS} {r : Foot × TM × AS × Option AV} (hs : ai8 P (ah6 P) ops o T S = some r) : ∃ m,ai8 P (aj2 P m) ops o T S = some r:=by
 unfold ai8 at hs ⊢
 split at hs
 ·rename_i hw
  simp only [hw,if_true]
  cases hx : aop P S (aev T) o with
  | none=>simp [hx] at hs
  | some x =>
   rw [hx] at hs
   cases x with
   | val v=>exact ⟨0,hs⟩
   | chg v p s=>exact ⟨0,hs⟩
   | pan v=>exact ⟨0,hs⟩
   | dfr f args=>exact ⟨0,hs⟩
   | call f args =>
    simp only [Option.ite_none_right_eq_some] at hs ⊢
    have hs1:=hs.1
    have hs:=hs.2
    split at hs
    ·rename_i hc
     cases hd : ah6 P f (args.map AV.ac1) .bare with
     | none=>simp [hd] at hs
     | some y =>
      obtain ⟨m,hm⟩:=ax3.1 hd
      refine ⟨m,hs1,?_⟩
      rw [if_pos hc,hm]
      rw [hd] at hs
      exact hs
    ·rename_i hc
     cases hd : ah6 P f args S with
     | none=>simp [hd] at hs
     | some y =>
      obtain ⟨m,hm⟩:=ax3.1 hd
      refine ⟨m,hs1,?_⟩
      rw [if_neg hc,hm]
      rw [hd] at hs
      exact hs
 ·rename_i hw
  exact ⟨0,by rw [if_neg hw]; exact hs⟩
theorem bo9 [Cfg] {ops : Array Oper} : ∀ (l : List Oper) (T : TM) (S : AS) (r : List Foot × TM × AS × Option AV),aj8 P (ah6 P) ops l T S = some r → ∃ m,aj8 P (aj2 P m) ops l T S = some r
 | [],T,S,r,hs=>⟨0,hs⟩
 | o :: l,T,S,r,hs=>by
  unfold aj8 at hs
  cases h1 : ai8 P (ah6 P) ops o T S with
  | none=>simp [h1] at hs
  | some y =>
   obtain ⟨f,T1,S1,x⟩:=y
   obtain ⟨m1,k1⟩:=bw9 h1
   rw [h1] at hs
   cases x with
   | some v=>exact ⟨m1,by unfold aj8; rw [k1]; exact hs⟩
   | none =>
    simp only at hs
    cases h2 : aj8 P (ah6 P) ops l T1 S1 with
    | none=>simp [h2] at hs
    | some z =>
     obtain ⟨m2,k2⟩:=bo9 l T1 S1 z h2
     refine ⟨max m1 m2,?_⟩
     unfold aj8
     rw [ba6 (ag9 _ _ (Nat.le_max_left m1 m2)) k1]
     simp only
     rw [bm6 (ag9 _ _ (Nat.le_max_right m1 m2)) l T1 S1 z k2]
     rw [h2] at hs
     exact hs
theorem bK6 [Cfg] {ops : Array Oper} {d : Bool} {T : TM} {S : AS} {r : AX × TM × AS} (hs : ay8 P (ah6 P) ops d T S = some r) : ∃ m,ay8 P (aj2 P m) ops d T S = some r:=by
 unfold ay8 at hs
 cases h1 : aj8 P (ah6 P) ops ops.toList T S with
 | none=>simp [h1] at hs
 | some y =>
  obtain ⟨m,k⟩:=bo9 _ _ _ y h1
  refine ⟨m,?_⟩
  unfold ay8
  rw [k]
  rw [h1] at hs
  exact hs
theorem aq2 [Cfg] (n : Nat) : ∀ (c : Code) (T : TM) (S : AS) (r : AX × TM × AS),ae6 P (ah6 P) n c T S = some r → ∃ m,ae6 P (aj2 P m) n c T S = some r
 | .skip,T,S,r,hs=>⟨0,hs⟩
 | .label _,T,S,r,hs=>⟨0,hs⟩
 | .region id ops d,T,S,r,hs=>by
  simp only [ae6] at hs ⊢
  exact bK6 hs
 | .seq a b,T,S,r,hs=>by
  simp only [ae6] at hs ⊢
  cases h1 : ae6 P (ah6 P) n a T S with
  | none=>simp [h1] at hs
  | some y =>
   obtain ⟨x,T1,S1⟩:=y
   obtain ⟨m1,k1⟩:=aq2 n a T S _ h1
   rw [h1] at hs
   cases x with
   | normal =>
    obtain ⟨m2,k2⟩:=aq2 n b T1 S1 r hs
    refine ⟨max m1 m2,?_⟩
    rw [al5 (ag9 _ _ (Nat.le_max_left m1 m2)) (Nat.le_refl n) a T S _ k1]
    exact al5 (ag9 _ _ (Nat.le_max_right m1 m2)) (Nat.le_refl n) b T1 S1 r k2
   | _=>exact ⟨m1,by rw [k1]; exact hs⟩
 | .cond c a b,T,S,r,hs=>by
  simp only [ae6] at hs ⊢
  split at hs
  ·rename_i t ht
   try simp only [ht]
   cases t with
   | true=>exact aq2 n a T S r hs
   | false=>exact aq2 n b T S r hs
  ·cases hs
 | .block id b,T,S,r,hs=>by
  simp only [ae6] at hs ⊢
  cases h1 : ae6 P (ah6 P) n b T S with
  | none=>simp [h1] at hs
  | some y =>
   obtain ⟨m,k⟩:=aq2 n b T S y h1
   exact ⟨m,by rw [k]; rw [h1] at hs; exact hs⟩
 | .loop b,T,S,r,hs=>by
  simp only [ae6] at hs ⊢
  have key : ∀ (i : Nat) (T : TM) (S : AS),aY6 (ae6 P (ah6 P) n b) i T S = some r → ∃ m,aY6 (ae6 P (aj2 P m) n b) i T S = some r:=by
   intro i
   induction i with
   | zero=>intro T S h; simp [aY6] at h
   | succ i ih =>
    intro T S h
    unfold aY6 at h
    cases h1 : ae6 P (ah6 P) n b T S with
    | none=>simp [h1] at h
    | some y =>
     obtain ⟨x,T1,S1⟩:=y
     obtain ⟨m1,k1⟩:=aq2 n b T S _ h1
     rw [h1] at h
     cases x with
     | normal =>
      obtain ⟨m2,k2⟩:=ih T1 S1 h
      refine ⟨max m1 m2,?_⟩
      unfold aY6
      rw [al5 (ag9 _ _ (Nat.le_max_left m1 m2)) (Nat.le_refl n) b T S _ k1]
      exact bt9 (fun T S r hr=>al5 (ag9 _ _ (Nat.le_max_right m1 m2)) (Nat.le_refl n) b T S r hr) i i (Nat.le_refl i) T1 S1 r k2
     | _=>exact ⟨m1,by unfold aY6; rw [k1]; exact h⟩
  exact key n T S hs
 | .exit id,T,S,r,hs=>⟨0,hs⟩
 | .ret,T,S,r,hs=>⟨0,hs⟩
 | .rangeFunc ..,_,_,_,hs=>by simp [ae6] at hs
 | .scope _,_,_,_,hs=>by simp [ae6] at hs
 | .goto _,_,_,_,hs=>by simp [ae6] at hs
 | .refuse _,_,_,_,hs=>by simp [ae6] at hs
theorem av4 [Cfg] {ops : Array Oper} : ∀ (l : List Oper) (T : TM) (S : AS) (m : AM) (r : TM × AS × AM × Option AV),am6 P (ah6 P) ops l T S m = some r → ∃ k,am6 P (aj2 P k) ops l T S m = some r
  | [],T,S,m,r,hs=>⟨0,hs⟩
  | o :: l,T,S,m,r,hs=>by
    unfold am6 at hs
    split at hs
    · rename_i args tys ho
      split at hs
      · rename_i hw
        split at hs
        · obtain ⟨k,hk⟩:=av4 l _ _ _ r hs
          exact ⟨k,by unfold am6; rw [ho]; simp only [hw,if_true]; exact hk⟩
        · rename_i hno
          obtain ⟨k,hk⟩:=av4 l _ _ _ r hs
          refine ⟨k,?_⟩
          unfold am6
          rw [ho]
          simp only [hw,if_true]
          first
          | exact hk
          | (split
             · rename_i v; exact absurd rfl (hno v)
             · exact hk)
      · rename_i hw
        obtain ⟨k,hk⟩:=av4 l _ _ _ r hs
        exact ⟨k,by unfold am6; rw [ho]; simp only [hw]; exact hk⟩
    · rename_i hno
      cases h1 : ai8 P (ah6 P) ops o T S with
      | none=>simp [h1] at hs
      | some y =>
        obtain ⟨f,T1,S1,x⟩:=y
        obtain ⟨m1,k1⟩:=bw9 h1
        rw [h1] at hs
        cases x with
        | some v =>
          refine ⟨m1,?_⟩
          unfold am6
          split
          · rename_i args tys ho; exact absurd ho (hno args tys)
          · rw [k1]; exact hs
        | none =>
          simp only at hs
          obtain ⟨m2,k2⟩:=av4 l T1 S1 m r hs
          refine ⟨max m1 m2,?_⟩
          unfold am6
          split
          · rename_i args tys ho; exact absurd ho (hno args tys)
          · rw [ba6 (ag9 _ _ (Nat.le_max_left m1 m2)) k1]
            exact ax5 (ag9 _ _ (Nat.le_max_right m1 m2)) l T1 S1 m r k2
theorem b24 [Cfg] (n : Nat) : ∀ (c : Code) (T : TM) (S : AS) (m : AM) (r : AX × TM × AS × AM),an4 P (ah6 P) n c T S m = some r → ∃ k,an4 P (aj2 P k) n c T S m = some r:=by
 have gen : ∀ (c : Code) (T : TM) (S : AS) (m : AM) (r : AX × TM × AS × AM),(ae6 P (ah6 P) n c T S).map (fun r=>(r.1,r.2.1,r.2.2,m)) = some r → ∃ k,(ae6 P (aj2 P k) n c T S).map (fun r=>(r.1,r.2.1,r.2.2,m)) = some r:=by
  intro c T S m r hs
  obtain ⟨y,h1,h2⟩:=Option.map_eq_some_iff.1 hs
  obtain ⟨k,hk⟩:=aq2 n c T S y h1
  exact ⟨k,by rw [hk,← h2]; rfl⟩
 intro c
 induction c with
 | region id ops d =>
  intro T S m r hs
  cases d with
  | true=>exact gen _ _ _ _ _ hs
  | false =>
   simp only [an4] at hs ⊢
   cases h1 : am6 P (ah6 P) ops ops.toList T S m with
   | none=>simp [h1] at hs
   | some y =>
    obtain ⟨k,hk⟩:=av4 _ _ _ _ y h1
    exact ⟨k,by rw [hk]; rw [h1] at hs; exact hs⟩
 | seq a b iha ihb =>
  intro T S m r hs
  simp only [an4] at hs ⊢
  cases h1 : an4 P (ah6 P) n a T S m with
  | none=>simp [h1] at hs
  | some y =>
   obtain ⟨x,T1,S1,m1⟩:=y
   obtain ⟨k1,hk1⟩:=iha T S m _ h1
   rw [h1] at hs
   cases x with
   | normal =>
    obtain ⟨k2,hk2⟩:=ihb T1 S1 m1 r hs
    refine ⟨max k1 k2,?_⟩
    rw [aL8 (ag9 _ _ (Nat.le_max_left k1 k2)) (Nat.le_refl n) a T S m _ hk1]
    exact aL8 (ag9 _ _ (Nat.le_max_right k1 k2)) (Nat.le_refl n) b T1 S1 m1 r hk2
   | _=>exact ⟨k1,by rw [hk1]; exact hs⟩
 | _=>intro T S m r hs; exact gen _ _ _ _ _ hs
theorem bh5 [Cfg] (n : Nat) : ∀ (ds : List (FuncId × List AV)) (m : AM) (S : AS) (r : AM × AS),ai1 P (ah6 P) n ds m S = some r → ∃ k,ai1 P (aj2 P k) n ds m S = some r
 | [],m,S,r,hs=>⟨0,hs⟩
 | (f,args) :: ds,m,S,r,hs=>by
  unfold ai1 at hs
  cases hf : P.funcs[f]? with
  | none=>simp [hf] at hs
  | some fn =>
   simp only [hf] at hs
   cases hb : fn.body with
   | none=>simp [hb] at hs
   | some c =>
    simp only [hb,Option.ite_none_right_eq_some] at hs
    obtain ⟨hcond,hs⟩:=hs
    cases hx : an4 P (ah6 P) n c (aq9 fn args) (S.enter f) m with
    | none=>simp [hx] at hs
    | some y =>
     obtain ⟨x,T',S',m'⟩:=y
     obtain ⟨k1,hk1⟩:=b24 n c _ _ _ _ hx
     simp only [hx,Option.ite_none_right_eq_some] at hs
     obtain ⟨hcond2,hs⟩:=hs
     have go : ∀ z,ak3 f S S' (.tup []) = some z → (x = .normal ∨ x = .ret) → ai1 P (ah6 P) n ds m'.settle (S.after z.2) = some r → ∃ k,ai1 P (aj2 P k) n ((f,args) :: ds) m S = some r:=by
      intro z hz hxx hl
      obtain ⟨k2,hk2⟩:=bh5 n ds _ _ r hl
      refine ⟨max k1 k2,?_⟩
      unfold ai1
      simp only [hf,hb]
      rw [if_pos hcond,aL8 (ag9 _ _ (Nat.le_max_left k1 k2)) (Nat.le_refl n) c _ _ _ _ hk1]
      simp only
      rw [if_pos hcond2]
      rcases hxx with rfl | rfl
      ·simp only [hz]
       exact aw9 (ag9 _ _ (Nat.le_max_right k1 k2)) (Nat.le_refl n) ds _ _ r hk2
      ·simp only [hz]
       exact aw9 (ag9 _ _ (Nat.le_max_right k1 k2)) (Nat.le_refl n) ds _ _ r hk2
     cases x with
     | exit i=>cases hs
     | pan v=>cases hs
     | normal =>
      simp only at hs
      cases hh : ak3 f S S' (.tup []) with
      | none=>rw [hh] at hs; cases hs
      | some z=>rw [hh] at hs; exact go z hh (.inl rfl) hs
     | ret =>
      simp only at hs
      cases hh : ak3 f S S' (.tup []) with
      | none=>rw [hh] at hs; cases hs
      | some z=>rw [hh] at hs; exact go z hh (.inr rfl) hs
theorem bD7 [Cfg] {f : FuncId} {fn : Func} {c : Code} (hg : Cfg.given f = none) (hf : P.funcs[f]? = some fn) (hb : fn.body = some c) (hn : (fn.name == "runtime.NumGoroutine") = false) {args : List AV} (ha : args.length ≤ fn.ntmps) {S : AS} {n : Nat} {r : AE × Upd}
  (h : finish P (ah6 P) n fn f S (ae6 P (ah6 P) n c (aq9 fn (aE8 f S.fn args)) (S.enter f)) = some r) : ah6 P f args S = some r:=by
 cases hx : ae6 P (ah6 P) n c (aq9 fn (aE8 f S.fn args)) (S.enter f) with
 | none=>rw [hx] at h; cases h
 | some y =>
  obtain ⟨x,T',S'⟩:=y
  obtain ⟨k1,hk1⟩:=aq2 n c _ _ _ hx
  rw [hx] at h
  unfold finish at h
  simp only at h
  cases hm : x.mode with
  | none=>rw [hm] at h; cases h
  | some m =>
   rw [hm] at h
   simp only at h
   cases hl : ai1 P (ah6 P) n S'.dfr m { S' with dfr:=[] } with
   | none=>rw [hl] at h; cases h
   | some z =>
    obtain ⟨k2,hk2⟩:=bh5 n _ _ _ z hl
    rw [hl] at h
    refine ax3.2 ⟨max n (max k1 k2) + 1,?_⟩
    rw [ba0 _ hg hf hb hn ha]
    have e1 : ae6 P (aj2 P (max n (max k1 k2))) (max n (max k1 k2)) c (aq9 fn (aE8 f S.fn args)) (S.enter f) = some (x,T',S') :=
     al5 (ag9 _ _ (by omega)) (by omega) c _ _ _ hk1
    have e2 : ai1 P (aj2 P (max n (max k1 k2))) (max n (max k1 k2)) S'.dfr m { S' with dfr:=[] } = some z :=
     aw9 (ag9 _ _ (by omega)) (by omega) _ _ _ _ hk2
    rw [e1]
    unfold finish
    simp only [hm,e2]
    exact h
end
open Go.RowKit
def bs (l : List UInt8) : ByteArray:=⟨l.toArray⟩
def toL (s : ByteArray) : List UInt8:=s.data.toList
theorem aW8 (l : List UInt8) : toL (bs l) = l:=by simp [toL,bs]
theorem ca6 (s : ByteArray) : bs (toL s) = s:=by simp [toL,bs]
theorem cj5 {s t : ByteArray} (h : toL s = toL t) : s = t:=by rw [← ca6 s,← ca6 t,h]
theorem aJ6 (s : ByteArray) : (toL s).length = s.size:=Array.length_toList
inductive X where
 | t (n : Nat)
 | c (a : AV)
abbrev BT:=Nat → AV
def X.at (T : BT) : X → AV
 | .t n=>T n
 | .c a=>a
def BT.put (T : BT) (d : Option Nat) (v : AV) : BT:=match d with
 | some d=>fun t=>if t = d then v else T t
 | none=>T
def af1 : Operand → X
 | .tmp t=>.t t
 | .const v=>.c (AV.ofV v)
 | .global g=>.c (.lit (.pointer (some ⟨g,0,none⟩)))
 | .func f=>.c (.lit (.func (.func f) #[] #[]))
def aevF (T : BT) (x : Operand) : AV:=(af1 x).at T
inductive BO where
 | gen (op : Op) (ty : TypeId)
 | mv (x : X)
 | pk (c a b : X)
 | al (e : TypeId) (cs : List AV)
 | bx (e : TypeId) (x : X)
 | bd (z : List AV) (pl : List (Nat × Nat × X))
 | ld1 (x : X)
 | ldn (n : Nat) (x : X)
 | st (n : Nat) (x v : X)
 | nc (x : X)
 | ib (op : BinOp) (x y : X)
 | sb (op : BinOp) (x y : X)
 | nt (x : X)
 | bb (ne : Bool) (x y : X)
 | ce (ne : Bool) (offs : List (Nat × Nat)) (x y : X)
 | cvi (k : IntKind) (x : X)
 | mi (t : TypeId) (x : X)
 | mf (f : FuncId) (xs : List X)
 | fa (off : Nat) (x : X)
 | fd1 (off : Nat) (x : X)
 | fdn (off n : Nat) (x : X)
 | ia (n : Nat) (x i : X)
 | iaa (len n : Nat) (x i : X)
 | xs (x i : X)
 | ls (x : X)
 | ll (x : X)
 | sls (x : X) (lo hi : Option X)
 | sll (n : Nat) (x : X) (lo hi mx : Option X)
 | ex (x : X) (i : Nat)
 | bsl (e : TypeId) (n : Nat) (xs : List X)
 | ap (e : TypeId) (n bytes : Nat) (s x : X)
 | cl (f : FuncId) (xs : List X)
 | cd (x : X) (xs : List X)
def intB : BinOp → IntKind → Int → IntKind → Int → Option Value
 | .add,k,a,k',b=>if k = k' then some (.int k (k.wrap (a + b))) else none
 | .sub,k,a,k',b=>if k = k' then some (.int k (k.wrap (a - b))) else none
 | .mul,k,a,k',b=>if k = k' then some (.int k (k.wrap (a * b))) else none
 | .quo,k,a,k',b=>if k = k' ∧ b ≠ 0 then some (.int k (k.wrap (a.tdiv b))) else none
 | .rem,k,a,k',b=>if k = k' ∧ b ≠ 0 then some (.int k (a.tmod b)) else none
 | .and,k,a,k',b=>if k = k' then some (.int k (k.wrap (BitVec.ofInt k.bits a &&& BitVec.ofInt k.bits b).toNat)) else none
 | .or,k,a,k',b=>if k = k' then some (.int k (k.wrap (BitVec.ofInt k.bits a ||| BitVec.ofInt k.bits b).toNat)) else none
 | .andNot,k,a,k',b=>if k = k' then some (.int k (k.wrap (BitVec.ofInt k.bits a &&& ~~~(BitVec.ofInt k.bits b)).toNat)) else none
 | .shl,k,a,_,b=>if 0 ≤ b then some (.int k (k.wrap (a * 2 ^ (min b.toNat k.bits)))) else none
 | .shr,k,a,_,b=>if 0 ≤ b then some (.int k (a.fdiv (2 ^ (min b.toNat k.bits)))) else none
 | .eql,k,a,k',b=>if k = k' then some (.bool (decide (a = b))) else none
 | .neq,k,a,k',b=>if k = k' then some (.bool (decide (a ≠ b))) else none
 | .lss,k,a,k',b=>if k = k' then some (.bool (decide (a < b))) else none
 | .leq,k,a,k',b=>if k = k' then some (.bool (decide (a ≤ b))) else none
 | .gtr,k,a,k',b=>if k = k' then some (.bool (decide (b < a))) else none
 | .geq,k,a,k',b=>if k = k' then some (.bool (decide (b ≤ a))) else none
 | _,_,_,_,_=>none
def strB : BinOp → ByteArray → ByteArray → Option Value
 | .add,a,b=>if (toL a).length + (toL b).length ≤ 9223372036854775807 then some (.string (bs (toL a ++ toL b))) else none
 | .eql,a,b=>some (.bool (decide (toL a = toL b)))
 | .neq,a,b=>some (.bool (decide (toL a ≠ toL b)))
 | .lss,a,b=>some (.bool (Op.bytesLess (toL a) (toL b)))
 | .geq,a,b=>some (.bool !(Op.bytesLess (toL a) (toL b)))
 | _,_,_=>none
def ibV (op : BinOp) : AV → AV → Option AV
 | .lit (.int k a),.lit (.int k' b)=>(intB op k a k' b).map .lit
 | _,_=>none
def sbV (op : BinOp) : AV → AV → Option AV
 | .lit (.string a),.lit (.string b)=>(strB op a b).map .lit
 | _,_=>none
def ntV : AV → Option AV
 | .lit (.bool b)=>some (.lit (.bool !b))
 | _=>none
def bbV (ne : Bool) : AV → AV → Option AV
 | .lit (.bool a),.lit (.bool b)=>some (.lit (.bool (decide (a = b) != ne)))
 | _,_=>none
def eqC : Nat → Value → Value → Option Bool
 | 0,.bool a,.bool b=>some (decide (a = b))
 | 1,.int k a,.int k' b=>if k = k' then some (decide (a = b)) else none
 | 2,.string a,.string b=>some (decide (toL a = toL b))
 | _,_,_=>none
def eqL : List (Nat × Nat) → Array Value → Array Value → Option Bool
 | [],_,_=>some true
 | (o,k) :: r,xs,ys=>match xs[o]?,ys[o]? with
  | some u,some v=>match eqC k u v with
   | some b=>if b then eqL r xs ys else some false
   | none=>none
  | _,_=>none
def ceV (ne : Bool) (offs : List (Nat × Nat)) (a b : AV) : Option AV:=match a.toV,b.toV with
 | some (.agg xs),some (.agg ys)=>(eqL offs xs ys).map fun b=>.lit (.bool (b != ne))
 | _,_=>none
def cviV (k : IntKind) : AV → Option AV
 | .lit (.int _ n)=>some (.lit (.int k (k.wrap n)))
 | _=>none
def offV (off : Nat) : AV → Option AV
 | .ptr p g n o=>some (.ptr p g n (o + off))
 | .cref cs=>some (.cref (cs.drop off))
 | _=>none
def fd1V (off : Nat) : AV → Option AV
 | .agg cs=>cs[off]?
 | _=>none
def fdnV (off n : Nat) : AV → Option AV
 | .agg cs=>if off + n ≤ cs.length then some (.agg ((cs.drop off).take n)) else none
 | _=>none
def iaV (n : Nat) : AV → AV → Option AV
 | .list _ sz es,.lit (.int _ i)=>if 0 ≤ i ∧ n = sz then (es[i.toNat]?).map .cref else none
 | .row _ p g m off len sz,.lit (.int _ i)=>if 0 ≤ i ∧ n = sz ∧ i.toNat < len then some (.ptr p g m (off + i.toNat * sz)) else none
 | _,_=>none
def iaaV (len n : Nat) (a : AV) : AV → Option AV
 | .lit (.int _ i)=>if 0 ≤ i ∧ i < len then offV (i.toNat * n) a else none
 | _=>none
def xsV : AV → AV → Option AV
 | .lit (.string s),.lit (.int _ i)=>if 0 ≤ i ∧ i < (toL s).length then some (.lit (.int .u8 ((toL s).getD i.toNat 0).toNat)) else none
 | _,_=>none
def lsV : AV → Option AV
 | .lit (.string s)=>some (.lit (.int .i64 (toL s).length))
 | _=>none
def llV : AV → Option AV
 | .list _ _ es=>some (.lit (.int .i64 es.length))
 | .row _ _ _ _ _ len _=>some (.lit (.int .i64 len))
 | .lit (.slice _ 0 _)=>some (.lit (.int .i64 0))
 | _=>none
def slsV (a : AV) (lo hi : Option AV) : Option AV:=match a with
 | .lit (.string s)=>match an6 0 lo,an6 (toL s).length hi with
  | some l,some h=>if l ≤ h ∧ h ≤ (toL s).length then some (.lit (.string (bs (((toL s).take h).drop l)))) else none
  | _,_=>none
 | _=>none
def sllV (n : Nat) (a : AV) (lo hi mx : Option AV) : Option AV:=match a with
 | .list sp sz es =>
  match an6 0 lo,an6 es.length hi,an6 es.length mx with
  | some l,some h,some m =>
   if n = sz ∧ l ≤ h ∧ h ≤ m ∧ m ≤ es.length ∧ (mx.isSome → hi.isSome) then
    some (.list (if mx.isSome then (if m = h then .full else .no) else if l = 0 ∧ h = es.length then sp else .no) sz ((es.drop l).take (h - l))) else none
  | _,_,_=>none
 | .row sp p g k off len sz =>
  match an6 0 lo,an6 len hi,an6 len mx with
  | some l,some h,some m =>
   if n = sz ∧ l ≤ h ∧ h ≤ m ∧ m ≤ len ∧ (mx.isSome → hi.isSome) then
    some (if h = l ∧ mx.isSome ∧ m = h then .list .full sz [] else .row (sp.cut (if mx.isSome then 1 else 0) m h l) p g k (off + l * sz) (h - l) sz) else none
  | _,_,_=>none
 | _=>none
def exV (i : Nat) : AV → Option AV
 | .tup cs=>cs[i]?
 | _=>none
def ld1V (S : AS) (a : AV) : Option AV:=match bg7 S a with
 | some cs=>cs.head?
 | none=>none
def ldnV (n : Nat) (S : AS) (a : AV) : Option AV:=match bg7 S a with
 | some cs=>if n ≤ cs.length then some (.agg (cs.take n)) else none
 | none=>none
def stV (n : Nat) (S : AS) (xs : List AV) : AV → Option (Loc × ab3)
 | .ptr p g m off=>if xs.length = n then S.write p g m off xs else none
 | _=>none
def aK6 (T : BT) : List AV → List (Nat × Nat × X) → Option (List AV)
 | cs,[]=>some cs
 | cs,(off,size,x) :: r=>if (x.at T).cells.length = size ∧ off + size ≤ cs.length then aK6 T (splice cs off (x.at T).cells) r else none
def appB [Cfg] (S : AS) (d : Tmp) (e : TypeId) (n bytes : Nat) (s : AV) (news : List (List AV)) : Option AR :=
  if news.all (fun e=>e.all AV.one) = true then
    if news.length = 0 then (match s with
      | .lit (.slice _ 0 0)=>some (.val s)
      | .list ..=>some (.val s)
      | .row ..=>some (.val s)
      | _=>none) else
    match s with
    | .lit (.slice _ 0 0)=>if news.length ≤ maxLen ∧ news.length * bytes ≤ 140737488355328 then some (ay3 S d e n news) else none
    | .list .full sz es => if sz = n ∧ es.length + news.length ≤ maxLen ∧ (es.length + news.length) * bytes ≤ 140737488355328 then
        some (ay3 S d e n (es ++ news)) else none
    | .list (.own p g) sz es=>match S.get p with
      | some (.tok g' m sz' e') => if g' = g ∧ m = es.length ∧ sz' = n ∧ e' = e ∧ sz = n ∧ es.length + news.length ≤ maxLen ∧ (es.length + news.length) * bytes ≤ 140737488355328 then
          some (.chg (.list (.own p g) n (es ++ news)) p (.tok g (es.length + news.length) n e)) else none
      | _=>none
    | .row .room p g m off len sz=>match S.get p with
      | some (.row g' n' sz' e' cs) => if g' = g ∧ n' = m ∧ sz' = n ∧ e' = e ∧ sz = n ∧ off = 0 ∧ cs.length = m * n then
          (if len + news.length ≤ m then some (.chg (.row .room p g m 0 (len + news.length) sz) p (.row g m sz e (splice cs (len * sz) news.flatten)))
           else if len = m ∧ m + news.length ≤ maxLen ∧ (m + news.length) * bytes ≤ 140737488355328 then
             some (.chg (.row .room p g (m + news.length) 0 (m + news.length) sz) p (.row g (m + news.length) sz e (cs ++ news.flatten)))
           else none) else none
      | _=>none
    | .row .full p g m off len sz=>match al2 S n s with
      | some es=>if sz = n ∧ es.length + news.length ≤ maxLen ∧ (es.length + news.length) * bytes ≤ 140737488355328 then some (ay3 S d e n (es ++ news)) else none
      | none=>none
    | _=>none
  else none
def bv3 (P : Program) (f : FuncId) : Bool:=match P.funcs[f]? with
 | some fn=>!fn.body.isNone
 | none=>false
def bop [Cfg] (P : Program) (S : AS) (T : BT) (d : Option Tmp) : BO → Option AR
  | .gen op ty => aop P S (aevF T) ⟨d, op, ty, "", #[], none⟩
  | .mv x=>some (.val (x.at T))
  | .pk c a b=>match c.at T with
    | .lit (.bool t)=>some (.val (if t then a.at T else b.at T))
    | _=>none
  | .al e cs=>match d with
    | some d=>some (.chg (.ptr (S.here d) (S.fresh (S.here d)) 0 0) (S.here d) (.obj (S.fresh (S.here d)) e cs))
    | none=>none
  | .bx e x=>match d with
    | some d=>some (.chg (.ptr (S.here d) (S.fresh (S.here d)) 0 0) (S.here d) (.obj (S.fresh (S.here d)) e (x.at T).cells))
    | none=>none
  | .bd z pl=>(aK6 T z pl).map fun cs=>.val (.agg cs)
  | .ld1 x=>(ld1V S (x.at T)).map .val
  | .ldn n x=>(ldnV n S (x.at T)).map .val
  | .st n x v=>(stV n S (v.at T).cells (x.at T)).map fun y=>.chg (.lit undef) y.1 y.2
  | .nc x=>match anil (x.at T) with
    | some v=>some (.val v)
    | none => aD3 P (fun _ => x.at T) ⟨d, .nilCheck (.tmp 0), 0, "", #[], none⟩
  | .ib op x y=>(ibV op (x.at T) (y.at T)).map .val
  | .sb op x y=>(sbV op (x.at T) (y.at T)).map .val
  | .nt x=>(ntV (x.at T)).map .val
  | .bb ne x y=>(bbV ne (x.at T) (y.at T)).map .val
  | .ce ne offs x y=>(ceV ne offs (x.at T) (y.at T)).map .val
  | .cvi k x=>(cviV k (x.at T)).map .val
  | .mi t x=>some (.val (.iface t (x.at T).ac1))
  | .mf f xs=>some (.val (.fn f (xs.map (X.at T))))
  | .fa off x=>(offV off (x.at T)).map .val
  | .fd1 off x=>(fd1V off (x.at T)).map .val
  | .fdn off n x=>(fdnV off n (x.at T)).map .val
  | .ia n x i=>(iaV n (x.at T) (i.at T)).map .val
  | .iaa len n x i=>(iaaV len n (x.at T) (i.at T)).map .val
  | .xs x i=>(xsV (x.at T) (i.at T)).map .val
  | .ls x=>(lsV (x.at T)).map .val
  | .ll x=>(llV (x.at T)).map .val
  | .sls x lo hi=>(slsV (x.at T) (lo.map (X.at T)) (hi.map (X.at T))).map .val
  | .sll n x lo hi mx=>(sllV n (x.at T) (lo.map (X.at T)) (hi.map (X.at T)) (mx.map (X.at T))).map .val
  | .ex x i=>(exV i (x.at T)).map .val
  | .bsl e n xs=>match d with
    | some d => if xs.all (fun x => (x.at T).cells.length == n) = true ∧ xs.all (fun x => (x.at T).cells.all AV.one) = true then
        (if Cfg.live S.fn d then some (.chg (.row .room (S.here d) (S.fresh (S.here d)) xs.length 0 xs.length n) (S.here d) (.row (S.fresh (S.here d)) xs.length n e (xs.flatMap fun x=>(x.at T).cells)))
         else some (.val (.list .full n (xs.map fun x=>(x.at T).cells)))) else none
    | none=>none
  | .ap e n bytes s x=>match d with
    | some d=>match al2 S n (x.at T) with
      | some news=>appB S d e n bytes (s.at T) news
      | none=>none
    | none=>none
  | .cl f xs=>some (.call f (xs.map (X.at T)))
  | .cd x xs=>match aC8 (x.at T) with
    | some (f,cs)=>if bv3 P f then some (.call f (xs.map (X.at T) ++ cs)) else none
    | none=>none
def isIntD : Option TypeDesc → Bool
 | some (.int _)=>true
 | _=>false
def isStrD : Option TypeDesc → Bool
 | some .string=>true
 | _=>false
def cg8 : Option TypeDesc → Bool
 | some .bool=>true
 | _=>false
def neOp : BinOp → Option Bool
 | .eql=>some false
 | .neq=>some true
 | _=>none
def bY0 (P : Program) (t : TypeId) : Option Nat:=match P.underlying t with
 | some .bool=>some 0
 | some (.int _)=>some 1
 | some .string=>some 2
 | _=>none
def aS0 (P : Program) : List Field → Option (List (Nat × Nat))
 | []=>some []
 | f :: r => if f.name = "_" then none else match bY0 P f.type, aS0 P r with
  | some k,some l=>some ((f.offset,k) :: l)
  | _,_=>none
def cC5 (P : Program) (t : TypeId) : Option (List (Nat × Nat)):=match P.underlying t with
 | some (.struct fields)=>if P.stoodInHeld t = false ∧ P.eqGuardType P.depth t = false then aS0 P fields.toList else none
 | some (.array n e)=>match bY0 P e with
  | some k=>if P.eqGuardType P.depth t = false ∧ (P.info? e).map (·.size) = some 1 then some ((List.range n).map fun i=>(i,k)) else none
  | none=>none
 | _=>none
def aT0 (pl : List (Nat × Nat)) : List (Nat × Operand) → Option (List (Nat × Nat × X))
 | []=>some []
 | (i,x) :: r=>match pl[i]?,aT0 pl r with
  | some (off,size),some l=>some ((off,size,af1 x) :: l)
  | _,_=>none
def aF2 (P : Program) (o : Oper) : BO:=match o.op with
 | .move x | .assign x=>.mv (af1 x)
 | .pick c a b=>.pk (af1 c) (af1 a) (af1 b)
 | .alloc e=>match (P.info? e).bind (·.zero) with
  | some z=>.al e (z.cells.toList.map .lit)
  | none=>.gen o.op o.type
 | .box e x=>.bx e (af1 x)
 | .build t parts=>match P.underlying t,(P.info? t).bind (·.zero) with
  | some (.struct fields),some z=>match bX7 P fields with
   | some pl=>match aT0 pl parts.toList with
    | some l=>.bd (z.cells.toList.map .lit) l
    | none=>.gen o.op o.type
   | none=>.gen o.op o.type
  | some (.array _ e),some z=>match P.info? e with
   | some i=>.bd (z.cells.toList.map .lit) (parts.toList.map fun (j,x)=>(j * i.size,i.size,af1 x))
   | none=>.gen o.op o.type
  | _,_=>.gen o.op o.type
 | .buildSlice t len parts=>match P.underlying t with
  | some (.slice e)=>match P.info? e with
   | some i=>match i.zero with
    | some z=>if z.cells.size = i.size ∧ 0 < i.size ∧ len * i.size ≤ 2 ^ 24 ∧ parts.toList.map Prod.fst = List.range len then .bsl e i.size (parts.toList.map fun p=>af1 p.2) else .gen o.op o.type
    | none=>.gen o.op o.type
   | none=>.gen o.op o.type
  | _=>.gen o.op o.type
 | .load t x=>match P.underlying t,P.info? t with
  | some d,some i=>if bQ7 d then .ldn i.size (af1 x) else .ld1 (af1 x)
  | _,_=>.gen o.op o.type
 | .store t x v=>match P.info? t with
  | some i=>.st i.size (af1 x) (af1 v)
  | none=>.gen o.op o.type
 | .nilCheck x=>.nc (af1 x)
 | .binOp op t x y _=>if isIntD (P.underlying t) then .ib op (af1 x) (af1 y) else if isStrD (P.underlying t) then .sb op (af1 x) (af1 y) else match neOp op with
  | some ne=>if cg8 (P.underlying t) then .bb ne (af1 x) (af1 y) else match cC5 P t with
   | some offs=>.ce ne offs (af1 x) (af1 y)
   | none=>.gen o.op o.type
  | none=>.gen o.op o.type
 | .unOp .not _ x=>.nt (af1 x)
 | .convert s d x=>match P.underlying s,P.underlying d with
  | some (.int _),some (.int k)=>.cvi k (af1 x)
  | _,_=>.gen o.op o.type
 | .makeInterface t x=>match P.underlying t with
  | some d=>if aE6 d then .gen o.op o.type else .mi t (af1 x)
  | none=>.gen o.op o.type
 | .makeFunc fn first cap=>match fn with
  | .func f=>if first.size = 0 then .mf f (cap.toList.map af1) else .gen o.op o.type
  | _=>.gen o.op o.type
 | .fieldAddr s x f=>match P.underlying s with
  | some (.struct fields)=>match fields[f]? with
   | some fd=>if ((P.info? fd.type).map (·.size)).getD 0 = 0 then .gen o.op o.type else .fa fd.offset (af1 x)
   | none=>.gen o.op o.type
  | _=>.gen o.op o.type
 | .field s x f=>match P.underlying s with
  | some (.struct fields)=>match fields[f]? with
   | some fd=>match P.underlying fd.type,P.info? fd.type with
    | some d,some i=>if bQ7 d then .fdn fd.offset i.size (af1 x) else .fd1 fd.offset (af1 x)
    | _,_=>.gen o.op o.type
   | none=>.gen o.op o.type
  | _=>.gen o.op o.type
 | .indexAddr t x i=>match P.underlying t with
  | some (.slice e)=>match P.info? e with
   | some inf=>.ia inf.size (af1 x) (af1 i)
   | none=>.gen o.op o.type
  | some (.array len e)=>match P.info? e with
   | some inf=>.iaa len inf.size (af1 x) (af1 i)
   | none=>.gen o.op o.type
  | _=>.gen o.op o.type
 | .index t x i=>match P.underlying t with
  | some .string=>.xs (af1 x) (af1 i)
  | _=>.gen o.op o.type
 | .slice t x lo hi mx=>match P.underlying t with
  | some (.slice e)=>match P.info? e with
   | some inf=>.sll inf.size (af1 x) (lo.map af1) (hi.map af1) (mx.map af1)
   | none=>.gen o.op o.type
  | some .string=>match mx with
   | none=>.sls (af1 x) (lo.map af1) (hi.map af1)
   | some _=>.gen o.op o.type
  | _=>.gen o.op o.type
 | .extract x i=>.ex (af1 x) i
 | .call c=>match c.callee with
  | .builtin .append=>match c.args.toList,c.argTypes.toList,o.dst with
   | [s,x],[t,u],some _=>match P.underlying t,P.underlying u with
    | some (.slice e),some (.slice _)=>match P.info? e with
     | some i=>match i.zero with
      | some z=>if z.cells.size = i.size ∧ 0 < i.size then .ap e i.size i.bytes (af1 s) (af1 x) else .gen o.op o.type
      | none=>.gen o.op o.type
     | none=>.gen o.op o.type
    | some (.slice e),some .string=>match P.info? e with
     | some i=>match i.zero with
      | some z=>if z.cells.size = i.size ∧ 0 < i.size then .ap e i.size i.bytes (af1 s) (af1 x) else .gen o.op o.type
      | none=>.gen o.op o.type
     | none=>.gen o.op o.type
    | _,_=>.gen o.op o.type
   | _,_,_=>.gen o.op o.type
  | .builtin .len=>match c.args.toList,c.argTypes.toList with
   | [x],[t]=>match P.underlying t with
    | some .string=>.ls (af1 x)
    | some (.slice _)=>.ll (af1 x)
    | _=>.gen o.op o.type
   | _,_=>.gen o.op o.type
  | .value f=>match af1 f with
   | .c (.lit (.func (.func g) first cap))=>if first.size = 0 ∧ cap.size = 0 ∧ bv3 P g = true then .cl g (c.args.toList.map af1) else .gen o.op o.type
   | .t n=>.cd (.t n) (c.args.toList.map af1)
   | _=>.gen o.op o.type
  | _=>.gen o.op o.type
 | _=>.gen o.op o.type
open Go.RowKit
section
variable {P : Program}
theorem aa7 {α β : Type} (q : Sem α) (f : α → Sem β) : aa3 P (q >>= f) = (aa3 P q).bind fun a=>aa3 P (f a):=by
 show aa3 P (Sem.bind q f) = _
 induction q with
 | pure a=>rfl
 | program k ih=>exact ih P
 | mark m k ih=>exact ih
 | _=>rfl
theorem ah0 {α : Type} (a : α) : aa3 P (pure a : Sem α) = some a:=rfl
theorem aJ1 {α β : Type} (q : Sem α) (f : α → β) : aa3 P (f <$> q) = (aa3 P q).map f:=by
 show aa3 P (Sem.bind q fun a=>Sem.pure (f a)) = _
 induction q with
 | pure a=>rfl
 | program k ih=>exact ih P
 | mark m k ih=>exact ih
 | _=>rfl
theorem ah9 {t : TypeId} {d : TypeDesc} (h : P.underlying t = some d) : aa3 P (underlying t) = some d:=by
 show aa3 P (match P.underlying t with | some d=>pure d | none=>stuck _) = _
 rw [h]
 rfl
theorem cr2 {t : TypeId} {n : Nat} (h : (P.info? t).map (·.size) = some n) : aa3 P (sizeOf t) = some n:=by
 obtain ⟨i,h1,rfl⟩:=Option.map_eq_some_iff.1 h
 show aa3 P (do pure (← (do let p ← program; match p.info? t with | some i=>pure i | none=>stuck _)).size) = _
 rw [aa7,aa7]
 have e : aa3 P program = some P:=rfl
 rw [e,Option.bind_some,h1]
 rfl
theorem as4 {q : Sem Value} {v : Value} (h : aa3 P q = some v) : aa3 P (do pure (Next.value (← q)) : Sem Next) = some (.value v):=by
 rw [aa7,h]
 rfl
theorem ay0 {ρ : Operand → AV} {o : Oper} {v : Value} (hs : aJ0 o.op = true) (hall : o.op.operands.all (fun x=>(ρ x).toV.isSome) = true) (he : aa3 P (execOp (fun x=>((ρ x).toV).getD undef) o) = some (.value v)) : aD3 P ρ o = some (.val (AV.ofV v)):=by
 unfold aD3
 rw [hs,hall,he]
 rfl
variable {t : TypeId}
theorem intB_ok {op : BinOp} {k k' : IntKind} {a b : Int} {v : Value} (h : intB op k a k' b = some v) : binOp op t (.int k a) (.int k' b) = pure v:=by
  cases op <;> simp only [intB] at h
  case shl =>
    split at h
    · rename_i hb
      cases h
      have h' : ¬ b < 0:=by omega
      simp [binOp,Op.shift,h']
    · cases h
  case shr =>
    split at h
    · rename_i hb
      cases h
      have h' : ¬ b < 0:=by omega
      simp [binOp,Op.shift,h']
    · cases h
  case quo =>
    split at h
    · rename_i hb
      obtain ⟨rfl,hb⟩:=hb
      cases h
      simp [binOp,Op.intDiv,hb]
    · cases h
  case rem =>
    split at h
    · rename_i hb
      obtain ⟨rfl,hb⟩:=hb
      cases h
      simp [binOp,Op.intDiv,hb]
    · cases h
  case eql =>
    split at h
    · rename_i hb; subst hb; cases h
      have : (a == b) = decide (a = b):=by by_cases e : a = b <;> simp [e]
      simp [binOp,Op.intCmp,this]
    · cases h
  case neq =>
    split at h
    · rename_i hb; subst hb; cases h
      have : (a != b) = decide (a ≠ b):=by by_cases e : a = b <;> simp [e]
      simp [binOp,Op.intCmp,this]
    · cases h
  all_goals first
    | cases h; done
    | (split at h
       · rename_i hb; subst hb; cases h
         first
         | (simp [binOp,Op.intArith]; done)
         | (simp [binOp,Op.intCmp]; done)
         | (simp [binOp,Op.intBits]; done)
       · cases h)
theorem toList_eq (s : ByteArray) : s.toList = toL s:=Go.ByteArray.toList_eq s
theorem strB_ok {op : BinOp} {a b : ByteArray} {v : Value} (h : strB op a b = some v) : binOp op t (.string a) (.string b) = pure v:=by
 cases op <;> simp only [strB] at h <;> first | cases h; done | skip
 case add =>
  split at h
  ·rename_i hb
   cases h
   rw [aJ6,aJ6] at hb
   have h' : ¬ (((a.size + b.size : Nat) : Int) > IntKind.i64.max):=by
    have : IntKind.i64.max = 9223372036854775807:=by decide
    omega
   have e : bs (toL a ++ toL b) = a ++ b:=by
    apply cj5
    rw [aW8]
    simp [toL]
   rw [e]
   simp only [binOp,Op.stringOp]
   rw [if_neg h']
  ·cases h
 case eql =>
  cases h
  show pure (Value.bool (a.toList == b.toList)) = _
  rw [toList_eq,toList_eq]
  have : (toL a == toL b) = decide (toL a = toL b):=by by_cases e : toL a = toL b <;> simp [e]
  rw [this]
 case neq =>
  cases h
  show pure (Value.bool (!(a.toList == b.toList))) = _
  rw [toList_eq,toList_eq]
  have : (!(toL a == toL b)) = decide (toL a ≠ toL b):=by by_cases e : toL a = toL b <;> simp [e]
  rw [this]
 case lss =>
  cases h
  show pure (Value.bool (Op.bytesLess a.toList b.toList)) = _
  rw [toList_eq,toList_eq]
 case geq =>
  cases h
  show pure (Value.bool (!(Op.bytesLess a.toList b.toList))) = _
  rw [toList_eq,toList_eq]
theorem ab4 {α : Type} {c : Prop} [Decidable c] {x : Option α} {y : α} (h : (if c then x else none) = some y) : c ∧ x = some y:=by
 split at h
 ·exact ⟨by assumption,h⟩
 ·cases h
theorem ck3 (d : TypeDesc) (a : AV) (s : ByteArray) : aM4 d a (.string s) = false:=by cases d <;> cases a <;> rfl
theorem ce3 (d : TypeDesc) (a : AV) (k : IntKind) (n : Int) : aM4 d a (.int k n) = false:=by cases d <;> cases a <;> rfl
theorem acmp_int (op : BinOp) (a : AV) (k : IntKind) (n : Int) (ha : ∃ u,a = .lit u) : acmp P op t a (.lit (.int k n)) = none:=by
 obtain ⟨u,rfl⟩:=ha
 have : ax7 P t (.lit u) (.lit (.int k n)) = none:=by
  unfold ax7
  split
  ·rename_i d v e1 e2
   cases e2
   rw [ce3]; rfl
  ·rename_i e1 e2; cases e2
  ·rfl
 cases op <;> first | rfl | simp only [acmp,this,Option.map_none]
theorem acmp_str (op : BinOp) (a : AV) (s : ByteArray) (ha : ∃ u,a = .lit u) : acmp P op t a (.lit (.string s)) = none:=by
 obtain ⟨u,rfl⟩:=ha
 have : ax7 P t (.lit u) (.lit (.string s)) = none:=by
  unfold ax7
  split
  ·rename_i d v e1 e2
   cases e2
   rw [ck3]; rfl
  ·rename_i e1 e2; cases e2
  ·rfl
 cases op <;> first | rfl | simp only [acmp,this,Option.map_none]
theorem cD6 {S : AS} [Cfg] {ρ : Operand → AV} {d : Option Tmp} {op : BinOp} {x y : Operand} {yt ty : TypeId} {pos : String} {aft : Array Edge} {g : Option (Nat × Bool)} {a b v : Value} (hx : ρ x = .lit a) (hy : ρ y = .lit b) (hc : acmp P op t (.lit a) (.lit b) = none) (hg : eqGuard op t x y a b = pure ())
  (h : binOp op t a b = pure v) : aop P S ρ ⟨d,.binOp op t x y yt,ty,pos,aft,g⟩ = some (.val (AV.ofV v)):=by
 simp only [aop,hx,hy,hc,Option.map_none,an7]
 refine ay0 rfl (by simp [Op.operands,hx,hy,AV.toV]) ?_
 show aa3 P (do pure (.value (← (do eqGuard op t x y (((ρ x).toV).getD undef) (((ρ y).toV).getD undef); binOp op t (((ρ x).toV).getD undef) (((ρ y).toV).getD undef)))) : Sem Next) = _
 refine as4 ?_
 rw [hx,hy]
 simp only [AV.toV,Option.getD_some]
 rw [hg,h]
 rfl
theorem ba1 {S : AS} [Cfg] {ρ : Operand → AV} {d : Option Tmp} {op : BinOp} {x y : Operand} {yt ty : TypeId} {pos : String} {aft : Array Edge} {g : Option (Nat × Bool)} {a b v : Value} (hx : (ρ x).toV = some a) (hy : (ρ y).toV = some b)
  (hc : acmp P op t (ρ x) (ρ y) = none) (hg : aa3 P (eqGuard op t x y a b) = some ()) (h : aa3 P (binOp op t a b) = some v) : aop P S ρ ⟨d,.binOp op t x y yt,ty,pos,aft,g⟩ = some (.val (AV.ofV v)):=by
 simp only [aop,hc,Option.map_none,an7]
 refine ay0 rfl (by simp [Op.operands,hx,hy]) ?_
 show aa3 P (do pure (.value (← (do eqGuard op t x y (((ρ x).toV).getD undef) (((ρ y).toV).getD undef); binOp op t (((ρ x).toV).getD undef) (((ρ y).toV).getD undef)))) : Sem Next) = _
 refine as4 ?_
 rw [hx,hy,aa7]
 simp only [Option.getD_some,hg,Option.bind_some,h]
theorem bb4 {op : BinOp} {ne : Bool} (h : neOp op = some ne) : op = .eql ∧ ne = false ∨ op = .neq ∧ ne = true:=by
 cases op <;> simp [neOp] at h <;> simp [h]
theorem aI9 {op : BinOp} {a b : AV} (h : ax7 P t a b = none) : acmp P op t a b = none:=by
 cases op <;> simp [acmp,h]
theorem aA8 {op : BinOp} {ne : Bool} {a b : Value} {z : Bool} (hn : neOp op = some ne) (hk : ∀ k n,a ≠ .int k n) (hf : ∀ k n,a ≠ .float k n) (hc : ∀ k n m,a ≠ .complex k n m) (hs : ∀ l,a ≠ .string l) (h : aa3 P (Op.equal t a b) = some z) :
  aa3 P (binOp op t a b) = some (.bool (z != ne)):=by
 rcases bb4 hn with ⟨rfl,rfl⟩ | ⟨rfl,rfl⟩
 ·have : binOp .eql t a b = (do pure (.bool (← Op.equal t a b)) : Sem Value):=by
   unfold binOp
   cases a <;> simp_all
  rw [this,aa7,h]
  simp [ah0]
 ·have : binOp .neq t a b = (do pure (.bool (!(← Op.equal t a b))) : Sem Value):=by
   unfold binOp
   cases a <;> simp_all
  rw [this,aa7,h]
  simp [ah0]
theorem bb_aop {S : AS} [Cfg] {ρ : Operand → AV} {d : Option Tmp} {op : BinOp} {ne : Bool} {x y : Operand} {yt ty : TypeId} {pos : String} {aft : Array Edge} {g : Option (Nat × Bool)} {v : AV} (hn : neOp op = some ne) (hb : cg8 (P.underlying t) = true)
  (h : bbV ne (ρ x) (ρ y) = some v) : aop P S ρ ⟨d,.binOp op t x y yt,ty,pos,aft,g⟩ = some (.val v):=by
 unfold bbV at h
 split at h
 case h_2=>cases h
 rename_i a b hx hy
 cases h
 have hu : P.underlying t = some .bool:=by
  unfold cg8 at hb
  split at hb
  ·assumption
  ·cases hb
 refine ba1 (v:=.bool (decide (a = b) != ne)) (a:=.bool a) (b:=.bool b) (by rw [hx]; rfl) (by rw [hy]; rfl) (aI9 ?_) ?_ ?_
 ·rw [hx,hy]
  unfold ax7
  rw [hu]
  rfl
 ·unfold eqGuard
  split <;> rfl
 ·refine aA8 hn (by simp) (by simp) (by simp) (by simp) ?_
  show aa3 P (Op.equalIn (9999 + 1) t (.bool a) (.bool b)) = _
  unfold Op.equalIn
  rw [aa7,ah9 hu]
  simp [ah0]
  cases a <;> cases b <;> rfl
theorem leaf_agg {k : Nat} (h : bY0 P t = some k) : aa3 P (isAgg t) = some false:=by
 unfold bY0 at h
 unfold isAgg
 rw [aa7]
 split at h
 ·rename_i hu; rw [ah9 hu]; rfl
 ·rename_i hu; rw [ah9 hu]; rfl
 ·rename_i hu; rw [ah9 hu]; rfl
 ·cases h
theorem bp0 {k : Nat} (h : bY0 P t = some k) {xs : Array Value} {off : Nat} {v : Value} (hv : xs[off]? = some v) : aa3 P (part t xs off) = some v:=by
 unfold part
 rw [aa7,leaf_agg h]
 simp only [Option.bind_some,Bool.false_eq_true,if_false,hv]
 rfl
theorem bR3 {k : Nat} (h : bY0 P t = some k) {u v : Value} {b : Bool} (hc : eqC k u v = some b) (d : Nat) : aa3 P (Op.equalIn (d + 1) t u v) = some b:=by
 unfold bY0 at h
 unfold Op.equalIn
 rw [aa7]
 split at h
 ·rename_i hu
  cases h
  unfold eqC at hc
  split at hc <;> first | (cases hc; done) | skip
  all_goals first | (exfalso; omega) | skip
  rw [ah9 hu]
  cases hc
  rename_i a b
  cases a <;> cases b <;> rfl
 ·rename_i hu
  cases h
  unfold eqC at hc
  split at hc <;> first | (cases hc; done) | skip
  all_goals first | (exfalso; omega) | skip
  rw [ah9 hu]
  split at hc
  ·rename_i hk
   subst hk
   cases hc
   simp [ah0,BEq.beq]
  ·cases hc
 ·rename_i hu
  cases h
  unfold eqC at hc
  split at hc <;> first | (cases hc; done) | skip
  all_goals first | (exfalso; omega) | skip
  rw [ah9 hu]
  cases hc
  rename_i a b _
  have : (a == b) = decide (toL a = toL b):=by
   show (a.data == b.data) = decide (a.data.toList = b.data.toList)
   rw [Bool.eq_iff_iff]
   simp
  simp only [Option.bind_some,ah0,this]
 ·cases h
abbrev cI9 (P : Program) (d : Nat) (xs ys : Array Value) (f : Field) : Sem (ForInStep (Option Bool × Unit)) :=
 if f.name ≠ "_" then do
  let a ← part f.type xs f.offset
  let b ← part f.type ys f.offset
  let z ← Op.equalIn (d + 1) f.type a b
  if (!z) = true then pure (ForInStep.done (some false,())) else pure (ForInStep.yield (none,()))
 else pure (ForInStep.yield (none,()))
theorem cJ8 (d : Nat) {xs ys : Array Value} : ∀ {l : List Field} {offs : List (Nat × Nat)} {b : Bool},aS0 P l = some offs → eqL offs xs ys = some b →
  aa3 P (forIn l ((none,()) : Option Bool × Unit) fun f _=>cI9 P d xs ys f) = some (if b then none else some false,())
 | [],offs,b,hp,h=>by
  cases hp
  cases h
  rfl
 | f :: l,offs,b,hp,h=>by
  unfold aS0 at hp
  split at hp
  ·cases hp
  rename_i hname
  split at hp
  case h_2=>cases hp
  rename_i k l' hk hl
  cases hp
  unfold eqL at h
  split at h
  case h_2=>cases h
  rename_i u v hu hv
  split at h
  case h_2=>cases h
  rename_i z hz
  rw [List.forIn_cons,aa7]
  have : aa3 P (cI9 P d xs ys f) = some (if z then ForInStep.yield (none,()) else ForInStep.done (some false,())):=by
   unfold cI9
   rw [if_pos hname,aa7,bp0 hk hu,Option.bind_some,aa7,bp0 hk hv,Option.bind_some,aa7,bR3 hk hz,Option.bind_some]
   cases z <;> rfl
  rw [this,Option.bind_some]
  cases z with
  | true=>exact cJ8 d hl h
  | false =>
   cases h
   rfl
theorem cb5 {fields : Array Field} (hu : P.underlying t = some (.struct fields)) (hs : P.stoodInHeld t = false) {offs : List (Nat × Nat)} (hp : aS0 P fields.toList = some offs) {xs ys : Array Value} {b : Bool} (h : eqL offs xs ys = some b) (d : Nat) :
  aa3 P (Op.equalIn (d + 2) t (.agg xs) (.agg ys)) = some b:=by
 unfold Op.equalIn
 rw [aa7,ah9 hu]
 simp only [Option.bind_some]
 rw [aa7]
 have e : aa3 P program = some P:=rfl
 rw [e,Option.bind_some,hs]
 simp only [Bool.false_eq_true,if_false]
 rw [aa7,← Array.forIn_toList,cJ8 d hp h,Option.bind_some]
 cases b <;> rfl
abbrev cF2 (P : Program) (d : Nat) (e : TypeId) (xs ys : Array Value) (n i : Nat) : Sem (ForInStep (Option Bool × Unit)):=do
 let a ← part e xs (i * n)
 let b ← part e ys (i * n)
 let z ← Op.equalIn (d + 1) e a b
 if (!z) = true then pure (ForInStep.done (some false,())) else pure (ForInStep.yield (none,()))
theorem cp1 (d : Nat) {e : TypeId} {k : Nat} (hk : bY0 P e = some k) {xs ys : Array Value} : ∀ {l : List Nat} {b : Bool},eqL (l.map fun i=>(i,k)) xs ys = some b →
  aa3 P (forIn l ((none,()) : Option Bool × Unit) fun i _=>cF2 P d e xs ys 1 i) = some (if b then none else some false,())
 | [],b,h=>by
  cases h
  rfl
 | i :: l,b,h=>by
  rw [List.map_cons] at h
  unfold eqL at h
  split at h
  case h_2=>cases h
  rename_i u v hu hv
  split at h
  case h_2=>cases h
  rename_i z hz
  rw [List.forIn_cons,aa7]
  have : aa3 P (cF2 P d e xs ys 1 i) = some (if z then ForInStep.yield (none,()) else ForInStep.done (some false,())):=by
   unfold cF2
   rw [Nat.mul_one,aa7,bp0 hk hu,Option.bind_some,aa7,bp0 hk hv,Option.bind_some,aa7,bR3 hk hz,Option.bind_some]
   cases z <;> rfl
  rw [this,Option.bind_some]
  cases z with
  | true=>exact cp1 d hk h
  | false =>
   cases h
   rfl
theorem cf7 {n : Nat} {e : TypeId} {k : Nat} (hu : P.underlying t = some (.array n e)) (hk : bY0 P e = some k) (hs : (P.info? e).map (·.size) = some 1) {xs ys : Array Value} {b : Bool} (h : eqL ((List.range n).map fun i=>(i,k)) xs ys = some b) (d : Nat) :
  aa3 P (Op.equalIn (d + 2) t (.agg xs) (.agg ys)) = some b:=by
 unfold Op.equalIn
 rw [aa7,ah9 hu]
 simp only [Option.bind_some]
 rw [aa7,cr2 hs,Option.bind_some]
 rw [aa7,Std.Legacy.Range.forIn_eq_forIn_range',show List.range' 0 (Std.Legacy.Range.size [:n]) 1 = List.range n from by rw [List.range_eq_range']; simp [Std.Legacy.Range.size]]
 rw [cp1 d hk h,Option.bind_some]
 cases b <;> rfl
theorem ce_aop {S : AS} [Cfg] {ρ : Operand → AV} {d : Option Tmp} {op : BinOp} {ne : Bool} {x y : Operand} {yt ty : TypeId} {pos : String} {aft : Array Edge} {g : Option (Nat × Bool)} {v : AV} {offs : List (Nat × Nat)} (hn : neOp op = some ne) (hb : cC5 P t = some offs)
  (h : ceV ne offs (ρ x) (ρ y) = some v) : aop P S ρ ⟨d,.binOp op t x y yt,ty,pos,aft,g⟩ = some (.val v):=by
 unfold ceV at h
 split at h
 case h_2=>cases h
 rename_i xs ys hx hy
 obtain ⟨b,hb',rfl⟩:=Option.map_eq_some_iff.1 h
 unfold cC5 at hb
 split at hb
 case h_3=>cases hb
 case h_2 =>
  rename_i n e hu
  split at hb
  case h_2=>cases hb
  rename_i k hk
  split at hb
  case isFalse=>cases hb
  rename_i hc
  cases hb
  refine ba1 (v:=.bool (b != ne)) hx hy (aI9 ?_) ?_ ?_
  ·unfold ax7
   rw [hu]
   split
   ·rename_i d' v' e1 e2
    cases e1
    rfl
   ·rename_i e1 _; cases e1
   ·rfl
  ·rcases bb4 hn with ⟨rfl,_⟩ | ⟨rfl,_⟩
   ·show aa3 P (if (!P.eqGuardType P.depth t) = true then (pure () : Sem Unit) else _) = some ()
    rw [hc.1]
    rfl
   ·show aa3 P (if (!P.eqGuardType P.depth t) = true then (pure () : Sem Unit) else _) = some ()
    rw [hc.1]
    rfl
  ·refine aA8 hn (by simp) (by simp) (by simp) (by simp) ?_
   exact cf7 hu hk hc.2 hb' 9998
 rename_i fields hu
 split at hb
 case isFalse=>cases hb
 rename_i hc
 refine ba1 (v:=.bool (b != ne)) hx hy (aI9 ?_) ?_ ?_
 ·unfold ax7
  rw [hu]
  split
  ·rename_i d' v' e1 e2
   cases e1
   rfl
  ·rename_i e1 _; cases e1
  ·rfl
 ·rcases bb4 hn with ⟨rfl,_⟩ | ⟨rfl,_⟩
  ·show aa3 P (if (!P.eqGuardType P.depth t) = true then (pure () : Sem Unit) else _) = some ()
   rw [hc.2]
   rfl
  ·show aa3 P (if (!P.eqGuardType P.depth t) = true then (pure () : Sem Unit) else _) = some ()
   rw [hc.2]
   rfl
 ·refine aA8 hn (by simp) (by simp) (by simp) (by simp) ?_
  exact cb5 hu hc.1 hb hb' 9998
theorem aop_free {S : AS} [Cfg] {ρ : Operand → AV} {d : Option Tmp} {op : Op} {ty : TypeId} {pos : String} {aft : Array Edge} {g : Option (Nat × Bool)} : aop P S ρ ⟨d, op, ty, "", #[], none⟩ = aop P S ρ ⟨d, op, ty, pos, aft, g⟩ := by
 have hx : ∀ ρ, execOp ρ ⟨d, op, ty, "", #[], none⟩ = execOp ρ ⟨d, op, ty, pos, aft, g⟩ := fun ρ => rfl
 unfold aop an7 aD3
 simp only [hx]
theorem aB4 {T : BT} (x : Operand) : aevF T x = (af1 x).at T:=rfl
theorem cG2 {T : BT} {pl : List (Nat × Nat)} : ∀ {l : List (Nat × Operand)} {l' : List (Nat × Nat × X)} {cs r : List AV},aT0 pl l = some l' → aK6 T cs l' = some r → by9 (pl[·]?) cs (l.map fun (i,x)=>(i,aevF T x)) = some r
 | [],l',cs,r,h,h2=>by
  simp only [aT0,Option.some.injEq] at h
  subst h
  simpa [aK6,by9] using h2
 | (i,x) :: l,l',cs,r,h,h2=>by
  unfold aT0 at h
  split at h
  ·rename_i off size l1 h3 h4
   cases h
   unfold aK6 at h2
   obtain ⟨hc,h2⟩:=ab4 h2
   simp only [List.map_cons,by9,h3,aB4]
   rw [if_pos hc]
   exact cG2 h4 h2
  ·cases h
theorem cq3 {T : BT} {n : Nat} : ∀ {l : List (Nat × Operand)} {cs r : List AV},aK6 T cs (l.map fun (j,x)=>(j * n,n,af1 x)) = some r → by9 (fun j=>some (j * n,n)) cs (l.map fun (i,x)=>(i,aevF T x)) = some r
 | [],cs,r,h2=>by simpa [aK6,by9] using h2
 | (i,x) :: l,cs,r,h2=>by
  simp only [List.map_cons] at h2
  unfold aK6 at h2
  obtain ⟨hc,h2⟩:=ab4 h2
  simp only [List.map_cons,by9,aB4]
  rw [if_pos hc]
  exact cq3 h2
theorem af2 {x : Option AV} {r : AR} (h : x.map AR.val = some r) : ∃ v,x = some v ∧ r = .val v:=by
 obtain ⟨v,h1,h2⟩:=Option.map_eq_some_iff.1 h
 exact ⟨v,h1,h2.symm⟩
theorem byte_at (s : ByteArray) (i : Int) (h1 : i < (toL s).length) (h0 : 0 ≤ i) : s[i.toNat]? = some ((toL s).getD i.toNat 0):=by
 rw [aJ6] at h1
 have hlt : i.toNat < s.size:=by omega
 have h2 : i.toNat < s.data.size:=hlt
 rw [getElem?_pos s i.toNat hlt]
 have e : s[i.toNat] = s.data[i.toNat]:=rfl
 rw [e]
 simp only [toL,List.getD_eq_getElem?_getD,Array.getElem?_toList,Array.getElem?_eq_getElem h2,Option.getD_some]
end
open Go.RowKit
section
variable {P : Program}
theorem ibV_inv {op : BinOp} {a b v : AV} (h : ibV op a b = some v) : ∃ k x k' y u,a = .lit (.int k x) ∧ b = .lit (.int k' y) ∧ intB op k x k' y = some u ∧ v = .lit u:=by
 unfold ibV at h
 split at h
 ·obtain ⟨u,h1,h2⟩:=Option.map_eq_some_iff.1 h
  exact ⟨_,_,_,_,u,rfl,rfl,h1,h2.symm⟩
 ·cases h
theorem sbV_inv {op : BinOp} {a b v : AV} (h : sbV op a b = some v) : ∃ x y u,a = .lit (.string x) ∧ b = .lit (.string y) ∧ strB op x y = some u ∧ v = .lit u:=by
 unfold sbV at h
 split at h
 ·obtain ⟨u,h1,h2⟩:=Option.map_eq_some_iff.1 h
  exact ⟨_,_,u,rfl,rfl,h1,h2.symm⟩
 ·cases h
theorem intB_lit {op : BinOp} {k k' : IntKind} {a b : Int} {v : Value} (h : intB op k a k' b = some v) : AV.ofV v = .lit v:=by
 cases op <;> simp only [intB] at h <;> first | (cases h; done) | (obtain ⟨_,h⟩:=ab4 h; cases h; rfl)
theorem strB_lit {op : BinOp} {a b : ByteArray} {v : Value} (h : strB op a b = some v) : AV.ofV v = .lit v:=by
 cases op <;> simp only [strB] at h <;> first | (cases h; done) | (cases h; rfl) | (obtain ⟨_,h⟩:=ab4 h; cases h; rfl)
theorem cl3 {op : BinOp} {t : TypeId} {x y : Operand} {k k' : IntKind} {a b : Int} : eqGuard op t x y (.int k a) (.int k' b) = pure ():=by
 cases op <;> rfl
theorem cd8 {op : BinOp} {t : TypeId} {x y : Operand} {a b : ByteArray} : eqGuard op t x y (.string a) (.string b) = pure ():=by
 cases op <;> rfl
theorem cE8 {t : TypeId} (hu : P.underlying t = some .string) (s : ByteArray) (lo hi : Option Value) (l h : Nat) (hl : (lo = none ∧ l = 0) ∨ ∃ k i,lo = some (.int k i) ∧ 0 ≤ i ∧ l = i.toNat) (hh : (hi = none ∧ h = s.size) ∨ ∃ k i,hi = some (.int k i) ∧ 0 ≤ i ∧ h = i.toNat)
  (h1 : l ≤ h) (h2 : h ≤ s.size) : aa3 P (Instr.sliceAt t (.string s) lo hi none) = some (.string (s.extract l h)):=by
 unfold Instr.sliceAt
 simp only [aa7,ah9 hu,Option.bind_some]
 unfold Instr.slice
 simp only [aa7,ah9 hu,Option.bind_some,Instr.sliceBounds]
 have b1 : ∀ (k : IntKind) (i : Int) (n : Nat),0 ≤ i → i.toNat ≤ n → ∀ e,aa3 P (Instr.sliceBound (.int k i) n e) = some i.toNat:=fun k i n hi hn e=>by
  unfold Instr.sliceBound
  simp only [aa7,asIntOf,ah0,Option.bind_some]
  rw [if_pos ⟨by omega,by omega⟩]
  rfl
 rcases hl with ⟨rfl,rfl⟩ | ⟨k,i,rfl,hi0,rfl⟩ <;> rcases hh with ⟨rfl,rfl⟩ | ⟨k',j,rfl,hj0,rfl⟩
 ·simp [aa7,ah0,aJ1]
 ·simp [aa7,ah0,aJ1,b1 k' j s.size hj0 h2]
 ·simp [aa7,ah0,aJ1,b1 k i s.size hi0 h1]
 ·simp [aa7,ah0,aJ1,b1 k' j s.size hj0 h2,b1 k i j.toNat hi0 h1]
theorem ce5 (s : ByteArray) (l h : Nat) : s.extract l h = bs (((toL s).take h).drop l):=by
 apply cj5
 rw [aW8]
 simp [toL,ByteArray.data_extract,Array.toList_extract,List.extract_eq_take_drop,List.drop_take]
theorem a92 {n r : Nat} {x : Option AV} (h : an6 n x = some r) : (x = none ∧ r = n) ∨ ∃ k i,x = some (.lit (.int k i)) ∧ 0 ≤ i ∧ r = i.toNat:=by
 unfold an6 at h
 split at h
 ·cases h; exact .inl ⟨rfl,rfl⟩
 ·obtain ⟨h1,h2⟩:=ab4 h
  cases h2
  exact .inr ⟨_,_,rfl,h1,rfl⟩
 ·cases h
theorem bP6 {f : FuncId} (h : bv3 P f = true) : ∃ fn,P.funcs[f]? = some fn ∧ fn.body.isNone = false:=by
 unfold bv3 at h
 split at h
 ·rename_i fn hf; exact ⟨fn,hf,by simpa using h⟩
 ·cases h
theorem cB8 [Cfg] {S : AS} {d : Tmp} {t e : TypeId} {i : TypeInfo} {z : Value} {s x : AV} {news : List (List AV)} {r : AR} (hu : P.underlying t = some (.slice e)) (hi : P.info? e = some i) (hz : i.zero = some z) (hsz : z.cells.size = i.size ∧ 0 < i.size)
  (hn : al2 S i.size x = some news) (h : appB S d e i.size i.bytes s news = some r) : aI5 P S (some d) t s x = some r:=by
 unfold appB at h
 obtain ⟨h1,h⟩:=ab4 h
 unfold aI5
 simp only [hu,hi,hz,hn]
 rw [if_pos ⟨hsz.1,hsz.2,h1⟩]
 exact h
set_option maxHeartbeats 4000000 in
theorem bop_ok [Cfg] {S : AS} {T : BT} (o : Oper) {r : AR} (h : bop P S T o.dst (aF2 P o) = some r) : aop P S (aevF T) o = some r:=by
 obtain ⟨d,op,ty,pos,aft,g⟩:=o
 have gen : bop P S T d (.gen op ty) = some r → aop P S (aevF T) ⟨d,op,ty,pos,aft,g⟩ = some r:=fun h=>by rw [← aop_free]; exact h
 cases op
 case move x=>exact h
 case assign x=>exact h
 case pick c a b=>exact h
 case alloc e =>
  simp only [aF2] at h
  split at h
  ·rename_i z hz
   simp only [aop,hz]
   cases d with
   | none=>cases h
   | some d=>exact h
  ·exact gen h
 case box e x=>exact h
 case build t parts =>
  simp only [aF2] at h
  split at h
  ·rename_i fields z hu hz
   split at h
   ·rename_i pl hpl
    split at h
    ·rename_i l hl
     obtain ⟨cs,h1,h2⟩:=Option.map_eq_some_iff.1 h
     subst h2
     simp only [aop]
     have : bA4 P t (parts.toList.map fun (i,x)=>(i,aevF T x)) = some (.agg cs):=by
      unfold bA4
      rw [hu,hz]
      simp only [hpl,cG2 hl h1]
      rfl
     rw [this]; rfl
    ·exact gen h
   ·exact gen h
  ·rename_i e z hu hz
   split at h
   ·rename_i i hi
    obtain ⟨cs,h1,h2⟩:=Option.map_eq_some_iff.1 h
    subst h2
    simp only [aop]
    have : bA4 P t (parts.toList.map fun (i,x)=>(i,aevF T x)) = some (.agg cs):=by
     unfold bA4
     rw [hu,hz]
     simp only [hi,cq3 h1]
     rfl
    rw [this]; rfl
   ·exact gen h
  ·exact gen h
 case buildSlice t len parts =>
  simp only [aF2] at h
  split at h
  ·rename_i e hu
   split at h
   ·rename_i i hi
    split at h
    ·rename_i z hz
     split at h
     ·rename_i hc
      simp only [bop] at h
      cases d with
      | none=>cases h
      | some d =>
       obtain ⟨⟨h1,h2⟩,h⟩:=ab4 h
       have hlen : parts.toList.length = len:=by have:=congrArg List.length hc.2.2.2; simpa using this
       have hfst : (parts.toList.map fun (i,x)=>(i,aevF T x)).map Prod.fst = List.range len:=by rw [← hc.2.2.2,List.map_map]; rfl
       simp only [List.length_map,hlen] at h
       simp only [aop,az8,hu,hi,hz]
       rw [if_pos ⟨hc.1,hc.2.1,hc.2.2.1,hfst,by simpa [List.all_map,aB4] using h1,by simpa [List.all_map,aB4] using h2⟩]
       rw [← h]
       split
       ·simp only [List.flatMap_map,List.map_map]; rfl
       ·simp only [List.map_map]; rfl
     ·exact gen h
    ·exact gen h
   ·exact gen h
  ·exact gen h
 case load t x =>
  simp only [aF2] at h
  split at h
  ·rename_i dd i hd hi
   split at h
   ·rename_i hagg
    obtain ⟨v,hv,rfl⟩:=af2 h
    unfold ldnV at hv
    split at hv
    ·rename_i cs hcs
     simp only [aop,bV1,aB4,hcs,hd,hi,hagg,if_true,hv]
     rfl
    ·cases hv
   ·rename_i hagg
    obtain ⟨v,hv,rfl⟩:=af2 h
    unfold ld1V at hv
    split at hv
    ·rename_i cs hcs
     simp only [aop,bV1,aB4,hcs,hd,hi,hagg,hv]
     rfl
    ·cases hv
  ·exact gen h
 case store t x v =>
  simp only [aF2] at h
  split at h
  ·rename_i i hi
   obtain ⟨y,hy,rfl⟩:=Option.map_eq_some_iff.1 h
   unfold stV at hy
   split at hy
   ·rename_i p g m off hx
    obtain ⟨h1,h2⟩:=ab4 hy
    have hx' : aevF T x = .ptr p g m off:=hx
    have : bR4 P S t (aevF T x) (aevF T v) = some y:=by
     unfold bR4
     rw [hx',hi]
     simp only
     have h1' : (aevF T v).cells.length = i.size:=h1
     rw [if_pos h1']
     exact h2
    simp only [aop,this]
    rfl
   ·cases hy
  ·exact gen h
 case nilCheck x =>
  simp only [aF2,bop] at h
  simp only [aop,aB4,an7]
  split at h
  ·rename_i v hv
   rw [hv]
   exact h
  ·rename_i hv
   rw [hv]
   simp only [Option.map_none]
   unfold aD3 at h ⊢
   simpa [aJ0,Op.operands,aB4,execOp] using h
 case binOp op t x y yt =>
  simp only [aF2] at h
  split at h
  ·obtain ⟨v,hv,rfl⟩:=af2 h
   obtain ⟨k,a,k',b,u,hx,hy,hu,rfl⟩:=ibV_inv hv
   rw [cD6 (a:=.int k a) (b:=.int k' b) (v:=u) hx hy (acmp_int op _ k' b ⟨_,rfl⟩) cl3 (intB_ok hu),intB_lit hu]
  ·split at h
   ·obtain ⟨v,hv,rfl⟩:=af2 h
    obtain ⟨a,b,u,hx,hy,hu,rfl⟩:=sbV_inv hv
    rw [cD6 (a:=.string a) (b:=.string b) (v:=u) hx hy (acmp_str op _ b ⟨_,rfl⟩) cd8 (strB_ok hu),strB_lit hu]
   ·split at h
    ·rename_i ne hne
     split at h
     ·rename_i hb
      obtain ⟨v,hv,rfl⟩:=af2 h
      exact bb_aop hne hb hv
     ·split at h
      ·rename_i offs hp
       obtain ⟨v,hv,rfl⟩:=af2 h
       exact ce_aop hne hp hv
      ·exact gen h
    ·exact gen h
 case unOp op t x =>
  cases op
  case not =>
   obtain ⟨v,hv,rfl⟩:=af2 h
   unfold ntV at hv
   split at hv
   ·rename_i b hx
    cases hv
    simp only [aop]
    have hx' : aevF T x = .lit (.bool b):=hx
    refine (ay0 (v:=.bool !b) rfl (by simp [Op.operands,hx',AV.toV]) ?_)
    simp [execOp,hx',AV.toV,Op.unary]
    try rfl
   ·cases hv
  all_goals exact gen h
 case convert s dt x =>
  simp only [aF2] at h
  split at h
  ·rename_i k0 k hs hd
   obtain ⟨v,hv,rfl⟩:=af2 h
   unfold cviV at hv
   split at hv
   ·rename_i k1 n hx
    cases hv
    have hx' : aevF T x = .lit (.int k1 n):=hx
    have hac : aE5 P S s dt (.lit (.int k1 n)) = none:=by unfold aE5; rw [hs]
    have hap : aE1 P S s dt (.lit (.int k1 n)) = none:=by unfold aE1; rw [hs]
    simp only [aop,hx',hac,hap,orA,an7]
    refine (ay0 (v:=.int k (k.wrap n)) rfl (by simp [Op.operands,hx',AV.toV]) ?_)
    have : aa3 P (convert s dt (.int k1 n)) = some (.int k (k.wrap n)):=by
     unfold convert
     simp only [aa7,ah9 hs,ah9 hd,Option.bind_some]
     rfl
    show aa3 P (do pure (Next.value (← convert s dt (((aevF T x).toV).getD undef))) : Sem Next) = _
    rw [hx']
    exact as4 this
   ·cases hv
  ·exact gen h
 case makeInterface t x =>
  simp only [aF2] at h
  split at h
  ·rename_i dd hd
   split at h
   ·exact gen h
   ·rename_i hi
    simp only [aop,hd,hi]
    exact h
  ·exact gen h
 case makeFunc fn first cap =>
  simp only [aF2] at h
  split at h
  ·rename_i f
   split at h
   ·rename_i hz
    simp only [aop,hz,if_true]
    simp only [bop,List.map_map] at h
    exact h
   ·exact gen h
  ·exact gen h
 case fieldAddr s x f =>
  simp only [aF2] at h
  split at h
  ·rename_i fields hu
   split at h
   ·rename_i fd hf
    split at h
    ·exact gen h
    ·rename_i hz
     obtain ⟨v,hv,rfl⟩:=af2 h
     simp only [aop,a99,hu,hf,hz,if_false]
     have : aevF T x = (af1 x).at T:=rfl
     rw [this]
     unfold offV at hv
     split at hv <;> first | (rename_i hx; rw [hx]; cases hv; rfl) | cases hv
   ·exact gen h
  ·exact gen h
 case field s x f =>
  simp only [aF2] at h
  split at h
  ·rename_i fields hu
   split at h
   ·rename_i fd hf
    split at h
    ·rename_i dd i hd hi
     split at h
     ·rename_i hagg
      obtain ⟨v,hv,rfl⟩:=af2 h
      unfold fdnV at hv
      split at hv
      ·rename_i cs hx
       have hx' : aevF T x = .agg cs:=hx
       simp only [aop,b39,hu,hx',hf,apart',hd,hi,hagg,if_true,hv]
       rfl
      ·cases hv
     ·rename_i hagg
      obtain ⟨v,hv,rfl⟩:=af2 h
      unfold fd1V at hv
      split at hv
      ·rename_i cs hx
       have hx' : aevF T x = .agg cs:=hx
       simp only [aop,b39,hu,hx',hf,apart',hd,hi,hagg,hv]
       rfl
      ·cases hv
    ·exact gen h
   ·exact gen h
  ·exact gen h
 case indexAddr t x i =>
  simp only [aF2] at h
  split at h
  ·rename_i e hu
   split at h
   ·rename_i inf hi
    obtain ⟨v,hv,rfl⟩:=af2 h
    unfold iaV at hv
    split at hv
    ·rename_i sp sz es k j hx hj
     obtain ⟨hc,hv⟩:=ab4 hv
     have hx' : aevF T x = .list sp sz es:=hx
     have hj' : aevF T i = .lit (.int k j):=hj
     simp only [aop,aA3,hu,hx',hj',hi,Option.map_some]
     rw [if_pos ⟨hc.1,by rw [hc.2]⟩,hv]
     rfl
    ·rename_i sp p g m off len sz k j hx hj
     obtain ⟨hc,hv⟩:=ab4 hv
     cases hv
     have hx' : aevF T x = .row sp p g m off len sz:=hx
     have hj' : aevF T i = .lit (.int k j):=hj
     simp only [aop,aA3,hu,hx',hj',hi,Option.map_some]
     rw [if_pos ⟨hc.1,by rw [hc.2.1],hc.2.2⟩]
     rfl
    ·cases hv
   ·exact gen h
  ·rename_i len e hu
   split at h
   ·rename_i inf hi
    obtain ⟨v,hv,rfl⟩:=af2 h
    unfold iaaV at hv
    split at hv
    ·rename_i k j hj
     obtain ⟨hc,hv⟩:=ab4 hv
     have hj' : aevF T i = .lit (.int k j):=hj
     have hx' : aevF T x = (af1 x).at T:=rfl
     unfold offV at hv
     split at hv
     ·rename_i p g n o hx
      cases hv
      simp only [aop,aA3,hu,hx',hx,hj',hi]
      rw [if_pos hc]
      rfl
     ·rename_i cs hx
      cases hv
      simp only [aop,aA3,hu,hx',hx,hj',hi]
      rw [if_pos hc]
      rfl
     ·cases hv
    ·cases hv
   ·exact gen h
  ·exact gen h
 case index t x i =>
  simp only [aF2] at h
  split at h
  ·rename_i hu
   obtain ⟨v,hv,rfl⟩:=af2 h
   unfold xsV at hv
   split at hv
   ·rename_i s k j hx hj
    obtain ⟨hc,hv⟩:=ab4 hv
    cases hv
    have hx' : aevF T x = .lit (.string s):=hx
    have hj' : aevF T i = .lit (.int k j):=hj
    have hai : b59 P t (.lit (.string s)) (.lit (.int k j)) = none:=by unfold b59; rw [hu]
    simp only [aop,hx',hj',hai,an7]
    refine (ay0 (v:=.int .u8 ((toL s).getD j.toNat 0).toNat) rfl (by simp [Op.operands,hx',hj',AV.toV]) ?_)
    have : aa3 P (Instr.index t (.string s) (.int k j)) = some (.int .u8 ((toL s).getD j.toNat 0).toNat):=by
     unfold Instr.index
     simp only [aa7,asIntOf,ah0,Option.bind_some,ah9 hu,hc.1,if_true,byte_at s j hc.2 hc.1]
    show aa3 P (do pure (Next.value (← Instr.index t (((aevF T x).toV).getD undef) (((aevF T i).toV).getD undef))) : Sem Next) = _
    rw [hx',hj']
    exact as4 this
   ·cases hv
  ·exact gen h
 case slice t x lo hi mx =>
  simp only [aF2] at h
  split at h
  ·rename_i e hu
   split at h
   ·rename_i inf hinf
    obtain ⟨v,hv,rfl⟩:=af2 h
    have key : bv5 P t ((af1 x).at T) ((lo.map af1).map (X.at T)) ((hi.map af1).map (X.at T)) ((mx.map af1).map (X.at T)) = some v:=by
     unfold sllV at hv
     unfold bv5
     rw [hu]
     split at hv
     ·rename_i sp sz es hx
      rw [hx]
      simp only
      split at hv
      ·rename_i l h' m e1 e2 e3
       obtain ⟨hc,hv⟩:=ab4 hv
       simp only [e1,e2,e3,hinf,Option.map_some]
       rw [if_pos ⟨by rw [hc.1],hc.2⟩]
       exact hv
      ·cases hv
     ·rename_i sp p g k off len sz hx
      rw [hx]
      simp only
      split at hv
      ·rename_i l h' m e1 e2 e3
       obtain ⟨hc,hv⟩:=ab4 hv
       simp only [e1,e2,e3,hinf,Option.map_some]
       rw [if_pos ⟨by rw [hc.1],hc.2⟩]
       exact hv
      ·cases hv
     ·cases hv
    simp only [Option.map_map] at key
    simp only [aop]
    have e : bv5 P t (aevF T x) (lo.map (aevF T)) (hi.map (aevF T)) (mx.map (aevF T)) = some v:=key
    rw [e]
    rfl
   ·exact gen h
  ·rename_i hu
   split at h
   ·obtain ⟨v,hv,rfl⟩:=af2 h
    unfold slsV at hv
    split at hv
    ·rename_i s hx
     split at hv
     ·rename_i l h' e1 e2
      obtain ⟨hc,hv⟩:=ab4 hv
      cases hv
      have hx' : aevF T x = .lit (.string s):=hx
      simp only [Option.map_map] at e1 e2
      have e1 : an6 0 (lo.map (aevF T)) = some l:=e1
      have e2 : an6 (toL s).length (hi.map (aevF T)) = some h':=e2
      have hno : bv5 P t (.lit (.string s)) (lo.map (aevF T)) (hi.map (aevF T)) none = none:=by unfold bv5; rw [hu]
      simp only [aop,hx',Option.map_none,hno,an7]
      have hall : (Op.slice t x lo hi none).operands.all (fun x=>((aevF T x).toV).isSome) = true:=by
       rcases a92 e1 with ⟨q1,_⟩ | ⟨k,i,q1,_⟩ <;> rcases a92 e2 with ⟨q2,_⟩ | ⟨k',j,q2,_⟩ <;> cases lo <;> cases hi <;> simp_all [Op.operands,AV.toV]
      refine (ay0 (o:=⟨_,.slice t x lo hi none,_,_,_,_⟩) (v:=.string (bs (((toL s).take h').drop l))) rfl hall ?_)
      have : aa3 P (Instr.sliceAt t (.string s) (lo.map fun x=>((aevF T x).toV).getD undef) (hi.map fun x=>((aevF T x).toV).getD undef) none) = some (.string (s.extract l h')):=by
       rw [aJ6] at e2 hc
       refine cE8 hu s _ _ l h' ?_ ?_ hc.1 hc.2
       ·rcases a92 e1 with ⟨q1,rfl⟩ | ⟨k,i,q1,q2,rfl⟩
        ·cases lo with
         | none=>exact .inl ⟨rfl,rfl⟩
         | some y=>cases q1
        ·cases lo with
         | none=>cases q1
         | some y =>
          simp only [Option.map_some,Option.some.injEq] at q1
          exact .inr ⟨k,i,by simp [q1,AV.toV],q2,rfl⟩
       ·rcases a92 e2 with ⟨q1,rfl⟩ | ⟨k,i,q1,q2,rfl⟩
        ·cases hi with
         | none=>exact .inl ⟨rfl,rfl⟩
         | some y=>cases q1
        ·cases hi with
         | none=>cases q1
         | some y =>
          simp only [Option.map_some,Option.some.injEq] at q1
          exact .inr ⟨k,i,by simp [q1,AV.toV],q2,rfl⟩
      rw [ce5] at this
      show aa3 P (do pure (Next.value (← Instr.sliceAt t (((aevF T x).toV).getD undef) (lo.map fun x=>((aevF T x).toV).getD undef) (hi.map fun x=>((aevF T x).toV).getD undef) none)) : Sem Next) = _
      rw [hx']
      exact as4 this
     ·cases hv
    ·cases hv
   ·exact gen h
  ·exact gen h
 case extract x i =>
  obtain ⟨v,hv,rfl⟩:=af2 h
  unfold exV at hv
  split at hv
  ·rename_i cs hx
   have hx' : aevF T x = .tup cs:=hx
   simp only [aop,hx',hv]
   rfl
  ·cases hv
 case call c =>
  simp only [aF2] at h
  split at h
  ·rename_i hcal
   split at h
   ·rename_i s x t u d0 hargs htys
    split at h
    ·rename_i e e' hu hu'
     split at h
     ·rename_i i hi
      split at h
      ·rename_i z hz
       split at h
       ·rename_i hc
        simp only [bop] at h
        split at h
        ·rename_i news hn
         have hn' : al2 S i.size (aevF T x) = some news:=hn
         simp only [aop,hcal,hargs,htys,List.map_cons,List.map_nil,br6,hu']
         exact cB8 hu hi hz hc hn' h
        ·cases h
       ·exact gen h
      ·exact gen h
     ·exact gen h
    ·rename_i e hu hu'
     split at h
     ·rename_i i hi
      split at h
      ·rename_i z hz
       split at h
       ·rename_i hc
        simp only [bop] at h
        split at h
        ·rename_i news hn
         have hn' : al2 S i.size (aevF T x) = some news:=hn
         simp only [aop,hcal,hargs,htys,List.map_cons,List.map_nil,br6,hu']
         exact cB8 hu hi hz hc hn' h
        ·cases h
       ·exact gen h
      ·exact gen h
     ·exact gen h
    ·exact gen h
   ·exact gen h
  ·rename_i hcal
   split at h
   ·rename_i x t hargs htys
    split at h
    ·rename_i hu
     obtain ⟨v,hv,rfl⟩:=af2 h
     unfold lsV at hv
     split at hv
     ·rename_i s hx
      cases hv
      have hx' : aevF T x = .lit (.string s):=hx
      have hno : alen P S t (.lit (.string s)) = none:=by unfold alen; rw [hu]
      simp only [aop,hcal,hargs,htys,List.map_cons,List.map_nil,b26,hx',hno,an7,Option.map_none]
      have e1 : c.args = #[x]:=by apply Array.ext'; simpa using hargs
      have e2 : c.argTypes = #[t]:=by apply Array.ext'; simpa using htys
      refine (ay0 (v:=.int .i64 (toL s).length) rfl (by simp [Op.operands,Call.operands,hcal,e1,hx',AV.toV]) ?_)
      have : aa3 P (Builtin.len_ #[t] ty #[.string s]) = some (.int .i64 (toL s).length):=by
       unfold Builtin.len_
       simp [aa7,ah0,aJ1,ah9 hu,aJ6]
       try rfl
      simp only [execOp,resolve,hcal,e1,e2,invoke,builtin]
      have:=as4 this
      simpa [hx',AV.toV,aa7,ah0] using this
     ·cases hv
    ·rename_i e hu
     obtain ⟨v,hv,rfl⟩:=af2 h
     unfold llV at hv
     split at hv
     ·rename_i sp sz es hx
      cases hv
      have hx' : aevF T x = .list sp sz es:=hx
      simp only [aop,hcal,hargs,htys,List.map_cons,List.map_nil,b26,hx',alen,hu]
      rfl
     ·rename_i sp p g n off len sz hx
      cases hv
      have hx' : aevF T x = .row sp p g n off len sz:=hx
      simp only [aop,hcal,hargs,htys,List.map_cons,List.map_nil,b26,hx',alen,hu]
      rfl
     ·rename_i a0 c0 hx
      cases hv
      have hx' : aevF T x = .lit (.slice a0 0 c0):=hx
      have hno : alen P S t (.lit (.slice a0 0 c0)) = none:=by unfold alen; rw [hu]
      simp only [aop,hcal,hargs,htys,List.map_cons,List.map_nil,b26,hx',hno,an7,Option.map_none]
      have e1 : c.args = #[x]:=by apply Array.ext'; simpa using hargs
      have e2 : c.argTypes = #[t]:=by apply Array.ext'; simpa using htys
      refine (ay0 (v:=.int .i64 0) rfl (by simp [Op.operands,Call.operands,hcal,e1,hx',AV.toV]) ?_)
      have : aa3 P (Builtin.len_ #[t] ty #[.slice a0 0 c0]) = some (.int .i64 0):=by
       unfold Builtin.len_
       simp [aa7,ah0,aJ1,ah9 hu]
       try rfl
      simp only [execOp,resolve,hcal,e1,e2,invoke,builtin]
      have:=as4 this
      simpa [hx',AV.toV,aa7,ah0] using this
     ·cases hv
    ·exact gen h
   ·exact gen h
  ·rename_i f hcal
   split at h
   ·rename_i fl g first cap hf
    split at h
    ·rename_i hc
     simp only [bop,Option.some.injEq,List.map_map] at h
     subst h
     have hf' : aevF T f = .lit (.func (.func g) first cap):=by unfold aevF; rw [hf]; rfl
     obtain ⟨fn,hfn,hbody⟩:=bP6 hc.2.2
     simp only [aop,hcal,hf',aC8,hc.1,hc.2.1,and_self,if_true,hfn,hbody,List.append_nil]
     rfl
    ·exact gen h
   ·rename_i n hf
    simp only [bop,List.map_map] at h
    split at h
    ·rename_i g cs hg
     obtain ⟨hb,h⟩:=ab4 h
     cases h
     have hf' : aevF T f = (X.t n).at T:=by unfold aevF; rw [hf]
     obtain ⟨fn,hfn,hbody⟩:=bP6 hb
     simp only [aop,hcal,hf',hg,hfn,hbody]
     rfl
    ·cases h
   ·exact gen h
  ·exact gen h
 all_goals exact gen h
end
open Go.RowKit
inductive BF where
 | none
 | here
 | at (x : X)
 | app (s x : X)
 | all
def BF.foot (S : AS) (T : BT) (d : Option Nat) : BF → FK
 | .none=>.none
 | .here=>aH2 S d
 | .at x=>ae8 (x.at T)
 | .app s x=>aC9 S d [s.at T,x.at T]
 | .all=>.all
structure BI where
 d : Option Nat
 g : Option (Nat × Bool)
 f : BF
 o : BO
def BO.w : BO → Bool
 | .gen op ty => mayW ⟨none, op, ty, "", #[], none⟩
 | .al .. | .bx .. | .st .. | .bsl .. | .ap .. | .cl .. | .cd ..=>true
 | _=>false
def aF8 (T : BT) : Option (Nat × Bool) → Bool
 | none=>true
 | some (t,w)=>match T t with
  | .lit (.bool b)=>b == w
  | _=>false
abbrev Acc:=Option (List Foot)
def Acc.push (acc : Acc) (f : Foot) : Acc:=acc.map (· ++ [f])
abbrev BO4:=Option (Acc × BT × AS × Option AV)
def aa8 [Cfg] (P : Program) (Δ : af4) : Acc → List BI → BT → AS → BO4
 | acc,[],T,S=>some (acc,T,S,none)
 | acc,i :: r,T,S=>if aF8 T i.g then
   match bop P S T i.d i.o with
   | some (.val v)=>aa8 P Δ (acc.push ⟨i.f.foot S T i.d,.none⟩) r (T.put i.d v) S
   | some (.chg v p s)=>if i.o.w then aa8 P Δ (acc.push ⟨i.f.foot S T i.d,.slot p⟩) r (T.put i.d v) (S.set p s) else none
   | some (.call f args) => if i.o.w then (if !Cfg.up f S.fn && AV.ac4 (args.map AV.ac1) then (match Δ f (args.map AV.ac1) .bare with
      | some (.ret v,none)=>aa8 P Δ (acc.push ⟨i.f.foot S T i.d,.none⟩) r (T.put i.d v) S
      | some (.pan v,none)=>some (acc,T,S,some v)
      | _=>none)
     else (match Δ f args S with
      | some (.ret v,u)=>aa8 P Δ (acc.push ⟨.all,u.kind⟩) r (T.put i.d v) (S.after u)
      | some (.pan v,u)=>some (acc,T,S.after u,some v)
      | none=>none)) else none
   | some (.pan v)=>some (acc,T,S,some v)
   | some (.dfr f args)=>if i.o.w then aa8 P Δ (acc.push ⟨.all,.all⟩) r (T.put i.d (.lit undef)) { S with dfr:=(f,args) :: S.dfr } else none
   | none=>none
  else aa8 P Δ (acc.push ⟨.none,.none⟩) r (T.put i.d (.lit undef)) S
def bW1 (fs : List Foot) (p : Nat × Nat) : Bool:=match fs[p.1]?,fs[p.2]? with
 | some a,some b=>a.b64 b
 | _,_=>false
inductive BC where
 | skip
 | ops (l : List BI)
 | draw (l : List BI) (L : List (Nat × Nat))
 | seq (a b : BC)
 | cond (c : X) (a b : BC)
 | block (id : Nat) (b : BC)
 | loop (b : BC)
 | exit (id : Nat)
 | ret
 | bad
abbrev XB:=Option (AX × BT × AS)
def bend : BO4 → XB
 | some (_,T,S,none)=>some (.normal,T,S)
 | some (_,T,S,some v)=>some (.pan v,T,S)
 | none=>none
def bx9 (L : List (Nat × Nat)) : BO4 → XB
 | some (acc,T,S,none)=>match L,acc with
  | [],_=>some (.normal,T,S)
  | L,some fs=>if L.all (bW1 fs) then some (.normal,T,S) else none
  | _,none=>none
 | _=>none
def acc0 : List (Nat × Nat) → Acc
 | []=>none
 | _=>some []
def bl4 (f : BT → AS → XB) : Nat → BT → AS → XB
 | 0,_,_=>none
 | n + 1,T,S=>match f T S with
  | some (.normal,T',S')=>bl4 f n T' S'
  | r=>r
def af6 [Cfg] (P : Program) (Δ : af4) (n : Nat) : BC → BT → AS → XB
 | .skip,T,S=>some (.normal,T,S)
 | .ops l,T,S=>bend (aa8 P Δ none l T S)
 | .draw l L,T,S=>bx9 L (aa8 P Δ (acc0 L) l T S)
 | .seq a b,T,S=>match af6 P Δ n a T S with
  | some (.normal,T',S')=>af6 P Δ n b T' S'
  | r=>r
 | .cond c a b,T,S=>match c.at T with
  | .lit (.bool t)=>if t then af6 P Δ n a T S else af6 P Δ n b T S
  | _=>none
 | .block id b,T,S=>match af6 P Δ n b T S with
  | some (.exit j,T',S')=>if j = id then some (.normal,T',S') else some (.exit j,T',S')
  | r=>r
 | .loop b,T,S=>bl4 (af6 P Δ n b) n T S
 | .exit id,T,S=>some (.exit id,T,S)
 | .ret,T,S=>some (.ret,T,S)
 | .bad,_,_=>none
def cI4 (o : Oper) : BF:=match o.op with
 | .alloc _ | .box _ _ | .makeMap _ _ | .makeSlice _ _ _ | .buildSlice _ _ _ | .range _ _=>.here
 | .load _ x=>.at (af1 x)
 | .store _ x _=>.at (af1 x)
 | .lookup _ m _ _=>.at (af1 m)
 | .mapUpdate _ m _ _ | .insert _ m _ _ | .mapEntry _ m _ | .entryStore _ m _ _=>.at (af1 m)
 | .next it _=>.at (af1 it)
 | .convert _ _ x=>.at (af1 x)
 | .call c=>match c.callee with
  | .builtin .append=>match c.args.toList with
   | [s,x]=>.app (af1 s) (af1 x)
   | _=>.all
  | .builtin .len=>match c.args.toList with
   | [x]=>.at (af1 x)
   | _=>.none
  | .builtin .copy=>.all
  | _=>.none
 | _=>.none
def compG (ops : Array Oper) : Option (Nat × Bool) → Option (Option (Nat × Bool))
 | none=>some none
 | some (j,w)=>match (ops[j]?).bind (·.dst) with
  | some t=>some (some (t,w))
  | none=>none
def inB (nt : Nat) : Option Nat → Bool
 | some d=>decide (d < nt)
 | none=>true
def compI (P : Program) (nt : Nat) (ops : Array Oper) (o : Oper) : Option BI :=
 if inB nt o.dst then (compG ops o.guard).map fun g=>⟨o.dst,g,cI4 o,aF2 P o⟩ else none
def ce8 (P : Program) (nt : Nat) (ops : Array Oper) : List Oper → Option (List BI)
 | []=>some []
 | o :: r=>match compI P nt ops o,ce8 P nt ops r with
  | some i,some l=>some (i :: l)
  | _,_=>none
def bseq : BC → BC → BC
 | .skip,b=>b
 | a,b=>.seq a b
def aI1 (P : Program) (nt : Nat) : Code → Option BC
 | .skip=>some .skip
 | .label _=>some .skip
 | .region _ ops draw=>match ce8 P nt ops ops.toList with
  | some l=>if draw then (if bS3 ops then some (.draw l ((aC2 ops).filter fun p=>!twins ops p)) else some .bad) else some (.ops l)
  | none=>some .bad
 | .seq a b=>match aI1 P nt a,aI1 P nt b with
  | some a,some b=>some (bseq a b)
  | _,_=>none
 | .cond c a b=>match aI1 P nt a,aI1 P nt b with
  | some a,some b=>some (.cond (af1 c) a b)
  | _,_=>none
 | .block id b=>(aI1 P nt b).map (.block id)
 | .loop b=>(aI1 P nt b).map .loop
 | .exit id=>some (.exit id)
 | .ret=>some .ret
 | _=>some .bad
inductive BR where
 | t (n : Nat)
 | c1 (a : Nat)
 | cn (a n : Nat)
def compR (P : Program) : ResultVar → Option BR
 | .tmp t=>some (.t t)
 | .cell a t=>match P.underlying t,P.info? t with
  | some d,some i=>some (if bQ7 d then .cn a i.size else .c1 a)
  | _,_=>none
def bQ2 (P : Program) : List ResultVar → Option (List BR)
 | []=>some []
 | r :: rs=>match compR P r,bQ2 P rs with
  | some x,some l=>some (x :: l)
  | _,_=>none
structure BFn where
 nt : Nat
 res : List BR
 code : BC
def ak2 (P : Program) (f : FuncId) : Option BFn:=match P.funcs[f]? with
 | some fn=>match fn.body with
  | some c => if (fn.name == "runtime.NumGoroutine") = false then match aI1 P fn.ntmps c, bQ2 P fn.results.toList with
   | some b,some l=>some ⟨fn.ntmps,l,b⟩
   | _,_=>none else none
  | none=>none
 | none=>none
def bres (S : AS) (T : BT) : BR → Option AV
 | .t n=>some (T n)
 | .c1 a=>ld1V S (T a)
 | .cn a n=>ldnV n S (T a)
def az2 (S : AS) (T : BT) : List BR → Option (List AV)
 | []=>some []
 | r :: rs=>match bres S T r,az2 S T rs with
  | some v,some vs=>some (v :: vs)
  | _,_=>none
def aC5 (args : List AV) : BT:=fun t=>args.getD t (.lit undef)
def bfin [Cfg] (f : FuncId) (res : List BR) (S : AS) : XB → Option (AE × Upd)
 | some (x,T',S')=>match S'.dfr with
  | []=>match x with
   | .normal | .ret=>match az2 S' T' res with
    | some vs=>(ak3 f S S' (ao0 vs)).map fun y=>(.ret y.1,y.2)
    | none=>none
   | .pan v=>(ak3 f S S' v).map fun y=>(.pan y.1,y.2)
   | .exit _=>none
  | _=>none
 | none=>none
open Go.RowKit
section
variable {P : Program}
theorem foot_ok {S : AS} {T : BT} (o : Oper) : (cI4 o).foot S T o.dst = aA6 S (aevF T) o:=by
 obtain ⟨d,op,ty,pos,aft,g⟩:=o
 cases op <;> try rfl
 case call c =>
  simp only [cI4,aA6]
  cases hc : c.callee with
  | value f=>rfl
  | invoke r m=>rfl
  | builtin b =>
   cases b <;> try rfl
   case append =>
    cases hl : c.args.toList with
    | nil=>rfl
    | cons a l=>cases l with
     | nil=>rfl
     | cons b l=>cases l <;> rfl
   case len =>
    cases hl : c.args.toList with
    | nil=>rfl
    | cons a l=>cases l <;> rfl
set_option maxHeartbeats 2000000 in
theorem w_ok (o : Oper) (h : (aF2 P o).w = true) : mayW o = true:=by
 obtain ⟨d,op,ty,pos,aft,g⟩:=o
 cases op
 case unOp op t x=>cases op <;> first | exact h | (cases h; done)
 all_goals simp only [aF2] at h
 case call c =>
  split at h
  ·rename_i hc; simp only [mayW,hc]
  ·split at h
   ·split at h <;> first | cases h | exact h
   ·exact h
  ·rename_i f hc; simp only [mayW,hc]
  ·exact h
 all_goals first
  | exact h
  | (cases h; done)
  | rfl
  | (repeat' (first | exact h | (cases h; done) | split at h))
def TR (Tl : TM) (T : BT) : Prop:=∀ t,Tl.getD t (.lit undef) = T t
theorem TR.ev {Tl : TM} {T : BT} (h : TR Tl T) : aev Tl = aevF T:=by
 funext x
 cases x with
 | tmp t=>exact h t
 | const v=>rfl
 | global g=>rfl
 | func f=>rfl
theorem TR.put {Tl : TM} {T : BT} (h : TR Tl T) {d : Option Nat} (hd : inB Tl.length d = true) (v : AV) : TR (Tl.put d v) (T.put d v):=by
 cases d with
 | none=>exact h
 | some d =>
  simp only [inB,decide_eq_true_eq] at hd
  intro t
  simp only [TM.put,BT.put]
  by_cases e : t = d
  ·subst e; simp [List.getD_eq_getElem?_getD,hd]
  ·rw [if_neg e,← h t]
   simp [List.getD_eq_getElem?_getD,List.getElem?_set_ne (Ne.symm e)]
theorem cw3 (Tl : TM) (d : Option Nat) (v : AV) : (Tl.put d v).length = Tl.length:=by cases d <;> simp [TM.put]
theorem TR.wanted {Tl : TM} {T : BT} (h : TR Tl T) {ops : Array Oper} {o : Oper} {g : Option (Nat × Bool)} (hg : compG ops o.guard = some g) : Region.wanted o (ao1 ops Tl) = aF8 T g:=by
 unfold Region.wanted
 cases ho : o.guard with
 | none =>
  rw [ho] at hg
  cases hg
  rfl
 | some jw =>
  obtain ⟨j,w⟩:=jw
  rw [ho] at hg
  unfold compG at hg
  simp only at hg ⊢
  cases hd : (ops[j]?).bind (·.dst) with
  | none=>rw [hd] at hg; cases hg
  | some t =>
   rw [hd] at hg
   cases hg
   unfold ao1 aF8
   rw [hd]
   simp only [Option.bind_some]
   have ht:=h t
   rw [List.getD_eq_getElem?_getD] at ht
   cases hx : Tl[t]? with
   | none =>
    rw [hx] at ht
    simp only [Option.getD_none] at ht
    rw [← ht]
    rfl
   | some a =>
    rw [hx] at ht
    simp only [Option.getD_some] at ht
    rw [← ht]
    cases a <;> first | rfl | (rename_i v; cases v <;> first | rfl | (rename_i b; cases b <;> cases w <;> rfl))
theorem bF3 [Cfg] {Δ : af4} {nt : Nat} {ops : Array Oper} : ∀ (os : List Oper) (l : List BI) (acc acc' : Acc) (Tl : TM) (T T' : BT) (S S' : AS) (x : Option AV),ce8 P nt ops os = some l → Tl.length = nt → TR Tl T → aa8 P Δ acc l T S = some (acc',T',S',x) →
  ∃ fs Tl',aj8 P Δ ops os Tl S = some (fs,Tl',S',x) ∧ TR Tl' T' ∧ Tl'.length = nt ∧ (x = none → acc' = acc.map (· ++ fs))
 | [],l,acc,acc',Tl,T,T',S,S',x,hl,hn,hT,h=>by
  simp only [ce8,Option.some.injEq] at hl
  subst hl
  simp only [aa8,Option.some.injEq,Prod.mk.injEq] at h
  obtain ⟨rfl,rfl,rfl,rfl⟩:=h
  exact ⟨[],Tl,rfl,hT,hn,fun _=>by cases acc <;> simp⟩
 | o :: os,l,acc,acc',Tl,T,T',S,S',x,hl,hn,hT,h=>by
  unfold ce8 at hl
  split at hl
  case h_2=>cases hl
  rename_i i l' hi hl'
  cases hl
  unfold compI at hi
  obtain ⟨hd,hi⟩:=ab4 hi
  obtain ⟨g,hg,rfl⟩:=Option.map_eq_some_iff.1 hi
  have hwant:=hT.wanted hg
  have hd' : inB Tl.length o.dst = true:=by rw [hn]; exact hd
  have hacc : ∀ (f : Foot) (fs : List Foot),(acc.push f).map (· ++ fs) = acc.map (· ++ (f :: fs)):=fun f fs=>by cases acc <;> simp [Acc.push]
  -- one step,then the rest
  have go : ∀ (f : Foot) (v : AV) (S1 : AS),ai8 P Δ ops o Tl S = some (f,Tl.put o.dst v,S1,none) → aa8 P Δ (acc.push f) l' (T.put o.dst v) S1 = some (acc',T',S',x) →
    ∃ fs Tl',aj8 P Δ ops (o :: os) Tl S = some (fs,Tl',S',x) ∧ TR Tl' T' ∧ Tl'.length = nt ∧ (x = none → acc' = acc.map (· ++ fs)):=by
   intro f v S1 h1 h2
   obtain ⟨fs,Tl',k1,k2,k3,k4⟩:=bF3 os l' _ acc' _ _ T' S1 S' x hl' ((cw3 Tl o.dst v).trans hn) (hT.put hd' v) h2
   refine ⟨f :: fs,Tl',?_,k2,k3,fun e=>by rw [k4 e,hacc]⟩
   unfold aj8
   rw [h1]
   simp only [k1]
  have stop : ∀ (f : Foot) (v : AV) (S1 : AS),ai8 P Δ ops o Tl S = some (f,Tl,S1,some v) → acc' = acc ∧ T' = T ∧ S' = S1 ∧ x = some v →
    ∃ fs Tl',aj8 P Δ ops (o :: os) Tl S = some (fs,Tl',S',x) ∧ TR Tl' T' ∧ Tl'.length = nt ∧ (x = none → acc' = acc.map (· ++ fs)):=by
   rintro f v S1 h1 ⟨rfl,rfl,rfl,rfl⟩
   refine ⟨[f],Tl,?_,hT,hn,fun e=>by cases e⟩
   unfold aj8
   rw [h1]
  unfold aa8 at h
  simp only at h
  rw [foot_ok] at h
  split at h
  ·rename_i hw
   rw [← hwant] at hw
   have hstep : ∀ r,bop P S T o.dst (aF2 P o) = some r → aop P S (aev Tl) o = some r:=fun r hr=>by rw [hT.ev]; exact bop_ok o hr
   have hfoot : aA6 S (aev Tl) o = aA6 S (aevF T) o:=by rw [hT.ev]
   split at h
   ·rename_i v hr
    exact go ⟨aA6 S (aevF T) o,.none⟩ v S (by unfold ai8; rw [if_pos hw,hstep _ hr]; simp only [hfoot]) h
   ·rename_i v p s hr
    obtain ⟨hww,h⟩:=ab4 h
    exact go ⟨aA6 S (aevF T) o,.slot p⟩ v (S.set p s) (by unfold ai8; rw [if_pos hw,hstep _ hr]; simp only [hfoot]; rw [if_pos (w_ok o hww)]) h
   ·rename_i f args hr
    obtain ⟨hww,h⟩:=ab4 h
    have hmw:=w_ok o hww
    split at h
    ·rename_i hc
     split at h
     ·rename_i v hx
      exact go ⟨aA6 S (aevF T) o,.none⟩ v S (by unfold ai8; rw [if_pos hw,hstep _ hr]; simp only [hfoot]; rw [if_pos hmw,if_pos hc,hx]) h
     ·rename_i v hx
      simp only [Option.some.injEq,Prod.mk.injEq] at h
      exact stop _ v S (by unfold ai8; rw [if_pos hw,hstep _ hr]; simp only; rw [if_pos hmw,if_pos hc,hx]) ⟨h.1.symm,h.2.1.symm,h.2.2.1.symm,h.2.2.2.symm⟩
     ·cases h
    ·rename_i hc
     split at h
     ·rename_i v u hx
      exact go ⟨.all,u.kind⟩ v (S.after u) (by unfold ai8; rw [if_pos hw,hstep _ hr]; simp only; rw [if_pos hmw,if_neg hc,hx]) h
     ·rename_i v u hx
      simp only [Option.some.injEq,Prod.mk.injEq] at h
      exact stop _ v (S.after u) (by unfold ai8; rw [if_pos hw,hstep _ hr]; simp only; rw [if_pos hmw,if_neg hc,hx]) ⟨h.1.symm,h.2.1.symm,h.2.2.1.symm,h.2.2.2.symm⟩
     ·cases h
   ·rename_i v hr
    simp only [Option.some.injEq,Prod.mk.injEq] at h
    exact stop _ v S (by unfold ai8; rw [if_pos hw,hstep _ hr]) ⟨h.1.symm,h.2.1.symm,h.2.2.1.symm,h.2.2.2.symm⟩
   ·rename_i f args hr
    obtain ⟨hww,h⟩:=ab4 h
    exact go ⟨.all,.all⟩ (.lit undef) _ (by unfold ai8; rw [if_pos hw,hstep _ hr]; simp only; rw [if_pos (w_ok o hww)]) h
   ·cases h
  ·rename_i hw
   rw [← hwant] at hw
   exact go ⟨.none,.none⟩ (.lit undef) S (by unfold ai8; rw [if_neg hw]) h
theorem aE7 [Cfg] {Δ : af4} {nt n : Nat} : ∀ (c : Code) (b : BC) (Tl : TM) (T T' : BT) (S S' : AS) (x : AX),aI1 P nt c = some b → Tl.length = nt → TR Tl T → af6 P Δ n b T S = some (x,T',S') →
  ∃ Tl',ae6 P Δ n c Tl S = some (x,Tl',S') ∧ TR Tl' T' ∧ Tl'.length = nt
 | .skip,b,Tl,T,T',S,S',x,hb,hn,hT,h=>by
  cases hb
  simp only [af6,Option.some.injEq,Prod.mk.injEq] at h
  obtain ⟨rfl,rfl,rfl⟩:=h
  exact ⟨Tl,rfl,hT,hn⟩
 | .label l,b,Tl,T,T',S,S',x,hb,hn,hT,h=>by
  cases hb
  simp only [af6,Option.some.injEq,Prod.mk.injEq] at h
  obtain ⟨rfl,rfl,rfl⟩:=h
  exact ⟨Tl,rfl,hT,hn⟩
 | .exit i,b,Tl,T,T',S,S',x,hb,hn,hT,h=>by
  cases hb
  simp only [af6,Option.some.injEq,Prod.mk.injEq] at h
  obtain ⟨rfl,rfl,rfl⟩:=h
  exact ⟨Tl,rfl,hT,hn⟩
 | .ret,b,Tl,T,T',S,S',x,hb,hn,hT,h=>by
  cases hb
  simp only [af6,Option.some.injEq,Prod.mk.injEq] at h
  obtain ⟨rfl,rfl,rfl⟩:=h
  exact ⟨Tl,rfl,hT,hn⟩
 | .region id ops draw,b,Tl,T,T',S,S',x,hb,hn,hT,h=>by
  unfold aI1 at hb
  split at hb
  case h_2=>cases hb; cases h
  rename_i l hl
  simp only [ae6]
  cases draw with
  | false =>
   simp only [Bool.false_eq_true,if_false,Option.some.injEq] at hb
   subst hb
   simp only [af6] at h
   cases hs : aa8 P Δ none l T S with
   | none=>rw [hs] at h; cases h
   | some y =>
    obtain ⟨acc',T1,S1,y⟩:=y
    obtain ⟨fs,Tl',k1,k2,k3,_⟩:=bF3 ops.toList l none acc' Tl T T1 S S1 y hl hn hT hs
    rw [hs] at h
    unfold ay8
    rw [k1]
    cases y with
    | none =>
     simp only [bend,Option.some.injEq,Prod.mk.injEq] at h
     obtain ⟨rfl,rfl,rfl⟩:=h
     exact ⟨Tl',rfl,k2,k3⟩
    | some v =>
     simp only [bend,Option.some.injEq,Prod.mk.injEq] at h
     obtain ⟨rfl,rfl,rfl⟩:=h
     exact ⟨Tl',rfl,k2,k3⟩
  | true =>
   simp only [if_true] at hb
   split at hb
   case isFalse=>cases hb; cases h
   rename_i hst
   simp only [Option.some.injEq] at hb
   subst hb
   simp only [af6] at h
   generalize hL : (aC2 ops).filter (fun p=>!twins ops p) = L at h
   cases hs : aa8 P Δ (acc0 L) l T S with
   | none=>rw [hs] at h; cases h
   | some y =>
    obtain ⟨acc',T1,S1,y⟩:=y
    obtain ⟨fs,Tl',k1,k2,k3,k4⟩:=bF3 ops.toList l _ acc' Tl T T1 S S1 y hl hn hT hs
    rw [hs] at h
    cases y with
    | some v=>cases h
    | none =>
     have k4:=k4 rfl
     have hpair : ∀ p ∈ aC2 ops,(p ∈ L → bW1 fs p = true) → bO7 ops fs p = true:=by
      intro p hp hi
      cases ht : twins ops p with
      | true=>simp [bO7,ht]
      | false =>
       have hm : p ∈ (aC2 ops).filter fun p=>!twins ops p:=List.mem_filter.2 ⟨hp,by simp [ht]⟩
       rw [hL] at hm
       have:=hi hm
       unfold bO7
       rw [ht]
       exact this
     have hall : (aC2 ops).all (bO7 ops fs) = true ∧ x = .normal ∧ T' = T1 ∧ S' = S1:=by
      cases L with
      | nil =>
       simp only [bx9,Option.some.injEq,Prod.mk.injEq] at h
       exact ⟨List.all_eq_true.2 fun p hp=>hpair p hp fun hm=>(by cases hm),h.1.symm,h.2.1.symm,h.2.2.symm⟩
      | cons a r =>
       cases acc' with
       | none=>simp [bx9] at h
       | some fs' =>
        simp only [bx9] at h
        obtain ⟨hal,h⟩:=ab4 h
        simp only [Option.some.injEq,Prod.mk.injEq] at h
        have hfs : fs' = fs:=by simpa [acc0] using k4
        subst hfs
        exact ⟨List.all_eq_true.2 fun p hp=>hpair p hp fun hm=>List.all_eq_true.1 hal p hm,h.1.symm,h.2.1.symm,h.2.2.symm⟩
     obtain ⟨hall,rfl,rfl,rfl⟩:=hall
     unfold ay8
     rw [k1]
     simp only [if_true,hst,hall,Option.isNone_none,Bool.and_self]
     exact ⟨Tl',rfl,k2,k3⟩
 | .seq a b,bc,Tl,T,T',S,S',x,hb,hn,hT,h=>by
  unfold aI1 at hb
  split at hb
  case h_2=>cases hb
  rename_i a' b' ha hb'
  cases hb
  have hs : af6 P Δ n (.seq a' b') T S = some (x,T',S'):=by
   unfold bseq at h
   split at h
   ·simp only [af6]; exact h
   ·exact h
  simp only [af6] at hs
  simp only [ae6]
  cases h1 : af6 P Δ n a' T S with
  | none=>rw [h1] at hs; cases hs
  | some y =>
   obtain ⟨y,T1,S1⟩:=y
   obtain ⟨Tl1,k1,k2,k3⟩:=aE7 a a' Tl T T1 S S1 y ha hn hT h1
   rw [h1] at hs
   rw [k1]
   cases y with
   | normal=>exact aE7 b b' Tl1 T1 T' S1 S' x hb' k3 k2 hs
   | exit i =>
    simp only [Option.some.injEq,Prod.mk.injEq] at hs
    obtain ⟨rfl,rfl,rfl⟩:=hs
    exact ⟨Tl1,rfl,k2,k3⟩
   | ret =>
    simp only [Option.some.injEq,Prod.mk.injEq] at hs
    obtain ⟨rfl,rfl,rfl⟩:=hs
    exact ⟨Tl1,rfl,k2,k3⟩
   | pan v =>
    simp only [Option.some.injEq,Prod.mk.injEq] at hs
    obtain ⟨rfl,rfl,rfl⟩:=hs
    exact ⟨Tl1,rfl,k2,k3⟩
 | .cond c a b,bc,Tl,T,T',S,S',x,hb,hn,hT,h=>by
  unfold aI1 at hb
  split at hb
  case h_2=>cases hb
  rename_i a' b' ha hb'
  cases hb
  simp only [af6] at h
  simp only [ae6]
  have hc : aev Tl c = (af1 c).at T:=by rw [hT.ev]; rfl
  rw [hc]
  split at h
  ·rename_i t ht
   rw [ht]
   cases t with
   | true=>exact aE7 a a' Tl T T' S S' x ha hn hT (by simpa using h)
   | false=>exact aE7 b b' Tl T T' S S' x hb' hn hT (by simpa using h)
  ·cases h
 | .block id b,bc,Tl,T,T',S,S',x,hb,hn,hT,h=>by
  simp only [aI1] at hb
  obtain ⟨b',hb',rfl⟩:=Option.map_eq_some_iff.1 hb
  simp only [af6] at h
  simp only [ae6]
  cases h1 : af6 P Δ n b' T S with
  | none=>rw [h1] at h; cases h
  | some y =>
   obtain ⟨y,T1,S1⟩:=y
   obtain ⟨Tl1,k1,k2,k3⟩:=aE7 b b' Tl T T1 S S1 y hb' hn hT h1
   rw [h1] at h
   rw [k1]
   cases y with
   | exit j =>
    simp only at h ⊢
    split at h
    ·rename_i hj
     simp only [Option.some.injEq,Prod.mk.injEq] at h
     obtain ⟨rfl,rfl,rfl⟩:=h
     exact ⟨Tl1,if_pos hj,k2,k3⟩
    ·rename_i hj
     simp only [Option.some.injEq,Prod.mk.injEq] at h
     obtain ⟨rfl,rfl,rfl⟩:=h
     exact ⟨Tl1,if_neg hj,k2,k3⟩
   | normal =>
    simp only [Option.some.injEq,Prod.mk.injEq] at h
    obtain ⟨rfl,rfl,rfl⟩:=h
    exact ⟨Tl1,rfl,k2,k3⟩
   | ret =>
    simp only [Option.some.injEq,Prod.mk.injEq] at h
    obtain ⟨rfl,rfl,rfl⟩:=h
    exact ⟨Tl1,rfl,k2,k3⟩
   | pan v =>
    simp only [Option.some.injEq,Prod.mk.injEq] at h
    obtain ⟨rfl,rfl,rfl⟩:=h
    exact ⟨Tl1,rfl,k2,k3⟩
 | .loop b,bc,Tl,T,T',S,S',x,hb,hn,hT,h=>by
  simp only [aI1] at hb
  obtain ⟨b',hb',rfl⟩:=Option.map_eq_some_iff.1 hb
  simp only [af6] at h
  simp only [ae6]
  have key : ∀ (m : Nat) (Tl : TM) (T : BT) (S : AS),Tl.length = nt → TR Tl T → bl4 (af6 P Δ n b') m T S = some (x,T',S') → ∃ Tl',aY6 (ae6 P Δ n b) m Tl S = some (x,Tl',S') ∧ TR Tl' T' ∧ Tl'.length = nt:=by
   intro m
   induction m with
   | zero=>intro Tl T S _ _ h; cases h
   | succ m ih =>
    intro Tl T S hn hT h
    unfold bl4 at h
    unfold aY6
    cases h1 : af6 P Δ n b' T S with
    | none=>rw [h1] at h; cases h
    | some y =>
     obtain ⟨y,T1,S1⟩:=y
     obtain ⟨Tl1,k1,k2,k3⟩:=aE7 b b' Tl T T1 S S1 y hb' hn hT h1
     rw [h1] at h
     rw [k1]
     cases y with
     | normal=>exact ih Tl1 T1 S1 k3 k2 h
     | exit j =>
      simp only [Option.some.injEq,Prod.mk.injEq] at h
      obtain ⟨rfl,rfl,rfl⟩:=h
      exact ⟨Tl1,rfl,k2,k3⟩
     | ret =>
      simp only [Option.some.injEq,Prod.mk.injEq] at h
      obtain ⟨rfl,rfl,rfl⟩:=h
      exact ⟨Tl1,rfl,k2,k3⟩
     | pan v =>
      simp only [Option.some.injEq,Prod.mk.injEq] at h
      obtain ⟨rfl,rfl,rfl⟩:=h
      exact ⟨Tl1,rfl,k2,k3⟩
  exact key n Tl T S hn hT h
 | .rangeFunc ..,_,_,_,_,_,_,_,hb,_,_,h=>by simp [aI1] at hb; subst hb; cases h
 | .scope _,_,_,_,_,_,_,_,hb,_,_,h=>by simp [aI1] at hb; subst hb; cases h
 | .goto _,_,_,_,_,_,_,_,hb,_,_,h=>by simp [aI1] at hb; subst hb; cases h
 | .refuse _,_,_,_,_,_,_,_,hb,_,_,h=>by simp [aI1] at hb; subst hb; cases h
end
open Go.RowKit
section
variable {P : Program}
theorem ba4 {f g : BT → AS → XB} (h : ∀ T S r,f T S = some r → g T S = some r) : ∀ (n m : Nat),n ≤ m → ∀ T S r,bl4 f n T S = some r → bl4 g m T S = some r
 | 0,_,_,T,S,r,hs=>by cases hs
 | n + 1,0,hm,_,_,_,_=>by omega
 | n + 1,m + 1,hm,T,S,r,hs=>by
  unfold bl4 at hs ⊢
  cases h1 : f T S with
  | none=>simp [h1] at hs
  | some y =>
   obtain ⟨x,T1,S1⟩:=y
   rw [h T S _ h1]
   rw [h1] at hs
   cases x with
   | normal=>exact ba4 h n m (by omega) T1 S1 r hs
   | _=>exact hs
theorem al6 [Cfg] {Δ : af4} {n m : Nat} (hnm : n ≤ m) : ∀ (c : BC) (T : BT) (S : AS) (r : AX × BT × AS),af6 P Δ n c T S = some r → af6 P Δ m c T S = some r
 | .skip,T,S,r,hs=>hs
 | .ops l,T,S,r,hs=>hs
 | .draw l L,T,S,r,hs=>hs
 | .seq a b,T,S,r,hs=>by
  simp only [af6] at hs ⊢
  cases h1 : af6 P Δ n a T S with
  | none=>simp [h1] at hs
  | some y =>
   obtain ⟨x,T1,S1⟩:=y
   rw [al6 hnm a T S _ h1]
   rw [h1] at hs
   cases x with
   | normal=>exact al6 hnm b T1 S1 r hs
   | _=>exact hs
 | .cond c a b,T,S,r,hs=>by
  simp only [af6] at hs ⊢
  split at hs
  ·rename_i t ht
   try simp only [ht]
   cases t with
   | true=>exact al6 hnm a T S r hs
   | false=>exact al6 hnm b T S r hs
  ·cases hs
 | .block id b,T,S,r,hs=>by
  simp only [af6] at hs ⊢
  cases h1 : af6 P Δ n b T S with
  | none=>simp [h1] at hs
  | some y =>
   obtain ⟨x,T1,S1⟩:=y
   rw [al6 hnm b T S _ h1]
   rw [h1] at hs
   exact hs
 | .loop b,T,S,r,hs=>by
  simp only [af6] at hs ⊢
  exact ba4 (fun T S r hr=>al6 hnm b T S r hr) n m hnm T S r hs
 | .exit id,T,S,r,hs=>hs
 | .ret,T,S,r,hs=>hs
 | .bad,T,S,r,hs=>hs
noncomputable def an3 [Cfg] (P : Program) (c : BC) (T : BT) (S : AS) : XB:=lim fun n=>af6 P (ah6 P) n c T S
theorem ac2 [Cfg] {c : BC} {T : BT} {S : AS} {r : AX × BT × AS} : an3 P c T S = some r ↔ ∃ n,af6 P (ah6 P) n c T S = some r :=
 bV5 fun n m r h hr=>al6 h c T S r hr
theorem bs4 [Cfg] (T : BT) (S : AS) : an3 P .skip T S = some (.normal,T,S):=ac2.2 ⟨0,rfl⟩
theorem bQ8 [Cfg] (id : Nat) (T : BT) (S : AS) : an3 P (.exit id) T S = some (.exit id,T,S):=ac2.2 ⟨0,rfl⟩
theorem bC9 [Cfg] (T : BT) (S : AS) : an3 P .ret T S = some (.ret,T,S):=ac2.2 ⟨0,rfl⟩
theorem bC4 [Cfg] {c : BC} {T : BT} {S : AS} {x : XB} (h : ∀ n,af6 P (ah6 P) n c T S = x) : an3 P c T S = x:=by
 apply Option.ext
 intro r
 rw [ac2]
 exact ⟨fun ⟨n,hn⟩=>by rw [← h n]; exact hn,fun hx=>⟨0,by rw [h 0]; exact hx⟩⟩
theorem aC4 [Cfg] (l : List BI) (T : BT) (S : AS) : an3 P (.ops l) T S = bend (aa8 P (ah6 P) none l T S):=bC4 fun _=>rfl
theorem bO0 [Cfg] (l : List BI) (L : List (Nat × Nat)) (T : BT) (S : AS) : an3 P (.draw l L) T S = bx9 L (aa8 P (ah6 P) (acc0 L) l T S):=bC4 fun _=>rfl
def seqB (k : BT → AS → XB) : XB → XB
 | some (.normal,T',S')=>k T' S'
 | r=>r
theorem aq1 [Cfg] (a b : BC) (T : BT) (S : AS) : an3 P (.seq a b) T S = seqB (an3 P b) (an3 P a T S):=by
 apply Option.ext
 intro r
 rw [ac2]
 constructor
 ·rintro ⟨n,h⟩
  simp only [af6] at h
  cases h1 : af6 P (ah6 P) n a T S with
  | none=>simp [h1] at h
  | some y =>
   obtain ⟨x,T1,S1⟩:=y
   rw [ac2.2 ⟨n,h1⟩]
   rw [h1] at h
   cases x with
   | normal=>exact ac2.2 ⟨n,h⟩
   | _=>exact h
 ·intro h
  cases h1 : an3 P a T S with
  | none=>simp [h1,seqB] at h
  | some y =>
   obtain ⟨x,T1,S1⟩:=y
   obtain ⟨n,k⟩:=ac2.1 h1
   rw [h1] at h
   cases x with
   | normal =>
    obtain ⟨m,k'⟩:=ac2.1 (show an3 P b T1 S1 = some r from h)
    refine ⟨max n m,?_⟩
    simp only [af6]
    rw [al6 (Nat.le_max_left n m) a T S _ k]
    exact al6 (Nat.le_max_right n m) b T1 S1 r k'
   | _=>exact ⟨n,by simp only [af6]; rw [k]; exact h⟩
def condB (a b : XB) : AV → XB
 | .lit (.bool t)=>if t then a else b
 | _=>none
theorem bQ0 [Cfg] (c : X) (a b : BC) (T : BT) (S : AS) : an3 P (.cond c a b) T S = condB (an3 P a T S) (an3 P b T S) (c.at T):=by
 apply Option.ext
 intro r
 rw [ac2]
 unfold condB
 constructor
 ·rintro ⟨n,h⟩
  simp only [af6] at h
  split at h
  ·rename_i t ht
   try simp only [ht]
   cases t with
   | true=>exact ac2.2 ⟨n,h⟩
   | false=>exact ac2.2 ⟨n,h⟩
  ·cases h
 ·intro h
  split at h
  ·rename_i t ht
   cases t with
   | true=>obtain ⟨n,k⟩:=ac2.1 (show an3 P a T S = some r from h); exact ⟨n,by simp only [af6,ht]; exact k⟩
   | false=>obtain ⟨n,k⟩:=ac2.1 (show an3 P b T S = some r from h); exact ⟨n,by simp only [af6,ht]; exact k⟩
  ·cases h
def aT6 (id : Nat) : XB → XB
 | some (.exit j,T',S')=>if j = id then some (.normal,T',S') else some (.exit j,T',S')
 | r=>r
theorem aN4 [Cfg] (id : Nat) (b : BC) (T : BT) (S : AS) : an3 P (.block id b) T S = aT6 id (an3 P b T S):=by
 apply Option.ext
 intro r
 rw [ac2]
 constructor
 ·rintro ⟨n,h⟩
  simp only [af6] at h
  cases h1 : af6 P (ah6 P) n b T S with
  | none=>simp [h1] at h
  | some y=>rw [ac2.2 ⟨n,h1⟩]; rw [h1] at h; exact h
 ·intro h
  cases h1 : an3 P b T S with
  | none=>simp [h1,aT6] at h
  | some y =>
   obtain ⟨n,k⟩:=ac2.1 h1
   exact ⟨n,by simp only [af6]; rw [k]; rw [h1] at h; exact h⟩
theorem bO6 [Cfg] (b : BC) (T : BT) (S : AS) : an3 P (.loop b) T S = seqB (an3 P (.loop b)) (an3 P b T S):=by
 apply Option.ext
 intro r
 rw [ac2]
 constructor
 ·rintro ⟨n,h⟩
  simp only [af6] at h
  cases n with
  | zero=>cases h
  | succ n =>
   unfold bl4 at h
   cases h1 : af6 P (ah6 P) (n + 1) b T S with
   | none=>simp [h1] at h
   | some y =>
    obtain ⟨x,T1,S1⟩:=y
    rw [ac2.2 ⟨n + 1,h1⟩]
    rw [h1] at h
    cases x with
    | normal =>
     refine ac2.2 ⟨n + 1,?_⟩
     simp only [af6]
     exact ba4 (fun _ _ _ h=>h) n (n + 1) (by omega) T1 S1 r h
    | _=>exact h
 ·intro h
  cases h1 : an3 P b T S with
  | none=>simp [h1,seqB] at h
  | some y =>
   obtain ⟨x,T1,S1⟩:=y
   obtain ⟨n,k⟩:=ac2.1 h1
   rw [h1] at h
   cases x with
   | normal =>
    obtain ⟨m,k'⟩:=ac2.1 (show an3 P (.loop b) T1 S1 = some r from h)
    refine ⟨max n m + 1,?_⟩
    simp only [af6] at k' ⊢
    unfold bl4
    rw [al6 (show n ≤ max n m + 1 by omega) b T S _ k]
    exact ba4 (fun T S r hr=>al6 (show m ≤ max n m + 1 by omega) b T S r hr) m (max n m) (Nat.le_max_right n m) T1 S1 r k'
   | _=>exact ⟨n + 1,by simp only [af6]; unfold bl4; rw [al6 (Nat.le_succ n) b T S _ k]; exact h⟩
theorem bn1 {S : AS} {Tl : TM} {T : BT} (hT : TR Tl T) : ∀ {rs : List ResultVar} {l : List BR} {vs : List AV},bQ2 P rs = some l → az2 S T l = some vs → aG3 P S Tl rs = some vs
 | [],l,vs,h,h2=>by
  simp only [bQ2,Option.some.injEq] at h
  subst h
  exact h2
 | r :: rs,l,vs,h,h2=>by
  unfold bQ2 at h
  split at h
  case h_2=>cases h
  rename_i x l' hx hl'
  cases h
  unfold az2 at h2
  split at h2
  case h_2=>cases h2
  rename_i v vs' hv hvs
  cases h2
  unfold aG3
  have : aX8 P S Tl r = some v:=by
   cases r with
   | tmp t =>
    cases hx
    simp only [bres,Option.some.injEq] at hv
    subst hv
    simp only [aX8]
    exact congrArg some (hT t)
   | cell a t =>
    unfold compR at hx
    simp only at hx
    split at hx
    case h_2=>cases hx
    rename_i d i hd hi
    have ha : Tl.getD a (.lit undef) = T a:=hT a
    simp only [aX8,bV1,ha,hd,hi]
    split at hx
    ·rename_i hagg
     cases hx
     simp only [bres,ldnV] at hv
     split at hv
     ·rename_i cs hcs; simp only [hcs,hagg,if_true]; exact hv
     ·cases hv
    ·rename_i hagg
     cases hx
     simp only [bres,ld1V] at hv
     split at hv
     ·rename_i cs hcs; simp only [hcs,hagg]; exact hv
     ·cases hv
  rw [this,bn1 hT hl' hvs]
theorem bS8 {fn : Func} (args : List AV) : TR (aq9 fn args) (aC5 args):=by
 intro t
 unfold aq9 aC5
 simp only [List.getD_eq_getElem?_getD]
 by_cases ht : t < args.length
 ·rw [List.getElem?_append_left ht]
 ·rw [List.getElem?_append_right (by omega),List.getElem?_eq_none (show args.length ≤ t by omega)]
  rw [List.getElem?_replicate]
  split <;> rfl
theorem a97 [Cfg] {f : FuncId} {b : BFn} (hg : Cfg.given f = none) (hf : ak2 P f = some b) {args : List AV} (ha : args.length ≤ b.nt) {S : AS} {r : AE × Upd}
  (h : bfin f b.res S (an3 P b.code (aC5 (aE8 f S.fn args)) (S.enter f)) = some r) : ah6 P f args S = some r:=by
 unfold ak2 at hf
 split at hf
 case h_2=>cases hf
 rename_i fn hfn
 split at hf
 case h_2=>cases hf
 rename_i c hc
 obtain ⟨hn,hf⟩:=ab4 hf
 split at hf
 case h_2=>cases hf
 rename_i bc l hbc hl
 cases hf
 simp only at ha h
 cases hx : an3 P bc (aC5 (aE8 f S.fn args)) (S.enter f) with
 | none=>rw [hx] at h; cases h
 | some y =>
  obtain ⟨x,T',S'⟩:=y
  obtain ⟨n,hn'⟩:=ac2.1 hx
  rw [hx] at h
  have hlen : (aE8 f S.fn args).length = args.length:=by unfold aE8; simp
  obtain ⟨Tl',k1,k2,k3⟩:=aE7 c bc (aq9 fn (aE8 f S.fn args)) _ T' _ S' x hbc (by simp [aq9,hlen]; omega) (bS8 _) hn'
  refine bD7 (n:=n) hg hfn hc hn ha ?_
  rw [k1]
  unfold finish
  simp only
  unfold bfin at h
  simp only at h
  split at h
  case h_2=>cases h
  rename_i hd
  have e : ({ S' with dfr:=[] } : AS) = S':=by cases S'; simp only at hd; subst hd; rfl
  have fin : ∀ vs,az2 S' T' l = some vs → az0 P fn S' Tl' = some (ao0 vs):=fun vs hvs=>by
   unfold az0
   rw [bn1 k2 hl hvs]
   rfl
  cases x with
  | exit i=>cases h
  | normal =>
   simp only [AX.mode,hd,ai1,e,aJ9]
   simp only at h
   cases hr : az2 S' T' l with
   | none=>rw [hr] at h; cases h
   | some vs=>rw [fin vs hr]; rw [hr] at h; exact h
  | ret =>
   simp only [AX.mode,hd,ai1,e,aJ9]
   simp only at h
   cases hr : az2 S' T' l with
   | none=>rw [hr] at h; cases h
   | some vs=>rw [fin vs hr]; rw [hr] at h; exact h
  | pan v =>
   simp only [AX.mode,hd,ai1,e,aJ9]
   exact h
end
open Go.RowKit
section
variable {P : Program} {T : BT} {S : AS}
theorem X_t (n : Nat) : X.at T (.t n) = T n:=rfl
theorem X_c (a : AV) : X.at T (.c a) = a:=rfl
theorem put_at (d t : Nat) (v : AV) : BT.put T (some d) v t = if t = d then v else T t:=rfl
theorem put_no (v : AV) : BT.put T none v = T:=rfl
theorem ct5 (a : AV) (l : List AV) : aC5 (a :: l) 0 = a:=rfl
theorem cv2 (a : AV) (l : List AV) (n : Nat) : aC5 (a :: l) (n + 1) = aC5 l n:=by simp [aC5]
theorem cC0 (n : Nat) : aC5 [] n = .lit undef:=rfl
noncomputable def condK [Cfg] (P : Program) (a b : BC) (T : BT) (S : AS) : AV → XB
 | .lit (.bool t)=>if t then an3 P a T S else an3 P b T S
 | _=>none
theorem bm8 [Cfg] (c : X) (a b : BC) : an3 P (.cond c a b) T S = condK P a b T S (c.at T):=by
 rw [bQ0]
 unfold condB condK
 rfl
theorem bP0 [Cfg] (a b : BC) : condK P a b T S (.lit (.bool true)) = an3 P a T S:=rfl
theorem bD9 [Cfg] (a b : BC) : condK P a b T S (.lit (.bool false)) = an3 P b T S:=rfl
theorem aq6 (k : BT → AS → XB) : seqB k (some (.normal,T,S)) = k T S:=rfl
theorem cB4 (k : BT → AS → XB) (i : Nat) : seqB k (some (.exit i,T,S)) = some (.exit i,T,S):=rfl
theorem seqB_ret (k : BT → AS → XB) : seqB k (some (.ret,T,S)) = some (.ret,T,S):=rfl
theorem seqB_pan (k : BT → AS → XB) (v : AV) : seqB k (some (.pan v,T,S)) = some (.pan v,T,S):=rfl
theorem bZ0 (id : Nat) : aT6 id (some (.normal,T,S)) = some (.normal,T,S):=rfl
theorem ct7 (id : Nat) : aT6 id (some (.ret,T,S)) = some (.ret,T,S):=rfl
theorem cr6 (id : Nat) (v : AV) : aT6 id (some (.pan v,T,S)) = some (.pan v,T,S):=rfl
theorem cl2 (id : Nat) : aT6 id (some (.exit id,T,S)) = some (.normal,T,S):=by simp [aT6]
theorem cb8 (id j : Nat) (h : j ≠ id) : aT6 id (some (.exit j,T,S)) = some (.exit j,T,S):=by simp [aT6,h]
theorem aw4 (acc : Acc) : bend (some (acc,T,S,none)) = some (.normal,T,S):=rfl
theorem bend_pan (acc : Acc) (v : AV) : bend (some (acc,T,S,some v)) = some (.pan v,T,S):=rfl
theorem cD3 (acc : Acc) : bx9 [] (some (acc,T,S,none)) = some (.normal,T,S):=rfl
theorem bP5 (p : Nat × Nat) (L : List (Nat × Nat)) (fs : List Foot) (h : (p :: L).all (bW1 fs) = true) : bx9 (p :: L) (some (some fs,T,S,none)) = some (.normal,T,S):=by
 simp only [bx9]
 rw [if_pos h]
theorem acc0_nil : acc0 [] = none:=rfl
theorem cD9 (p : Nat × Nat) (L : List (Nat × Nat)) : acc0 (p :: L) = some []:=rfl
theorem push_no (f : Foot) : Acc.push none f = none:=rfl
theorem push_yes (fs : List Foot) (f : Foot) : Acc.push (some fs) f = some (fs ++ [f]):=rfl
variable {Δ : af4} {acc : Acc} {d : Option Nat} {f : BF} {r : List BI}
def kv [Cfg] (P : Program) (Δ : af4) (acc : Acc) (d : Option Nat) (f : BF) (r : List BI) (T : BT) (S : AS) : Option AV → BO4
 | some v=>aa8 P Δ (acc.push ⟨f.foot S T d,.none⟩) r (T.put d v) S
 | none=>none
def kc [Cfg] (P : Program) (Δ : af4) (acc : Acc) (d : Option Nat) (f : BF) (r : List BI) (T : BT) (S : AS) : Option (AV × Loc × ab3) → BO4
 | some (v,p,s)=>aa8 P Δ (acc.push ⟨f.foot S T d,.slot p⟩) r (T.put d v) (S.set p s)
 | none=>none
def kr [Cfg] (P : Program) (Δ : af4) (acc : Acc) (d : Option Nat) (f : BF) (w : Bool) (r : List BI) (T : BT) (S : AS) : Option AR → BO4
 | some (.val v)=>aa8 P Δ (acc.push ⟨f.foot S T d,.none⟩) r (T.put d v) S
 | some (.chg v p s)=>if w then aa8 P Δ (acc.push ⟨f.foot S T d,.slot p⟩) r (T.put d v) (S.set p s) else none
 | some (.call g args) => if w then (if !Cfg.up g S.fn && AV.ac4 (args.map AV.ac1) then (match Δ g (args.map AV.ac1) .bare with
    | some (.ret v,none)=>aa8 P Δ (acc.push ⟨f.foot S T d,.none⟩) r (T.put d v) S
    | some (.pan v,none)=>some (acc,T,S,some v)
    | _=>none)
   else (match Δ g args S with
    | some (.ret v,u)=>aa8 P Δ (acc.push ⟨.all,u.kind⟩) r (T.put d v) (S.after u)
    | some (.pan v,u)=>some (acc,T,S.after u,some v)
    | none=>none)) else none
 | some (.pan v)=>some (acc,T,S,some v)
 | some (.dfr g args)=>if w then aa8 P Δ (acc.push ⟨.all,.all⟩) r (T.put d (.lit undef)) { S with dfr:=(g,args) :: S.dfr } else none
 | none=>none
def kcl [Cfg] (P : Program) (Δ : af4) (acc : Acc) (d : Option Nat) (f : BF) (r : List BI) (T : BT) (S : AS) : Option (AE × Upd) → BO4
 | some (.ret v,none)=>aa8 P Δ (acc.push ⟨f.foot S T d,.none⟩) r (T.put d v) S
 | some (.pan v,none)=>some (acc,T,S,some v)
 | _=>none
def kop [Cfg] (P : Program) (Δ : af4) (acc : Acc) (d : Option Nat) (r : List BI) (T : BT) (S : AS) : Option (AE × Upd) → BO4
 | some (.ret v,u)=>aa8 P Δ (acc.push ⟨.all,u.kind⟩) r (T.put d v) (S.after u)
 | some (.pan v,u)=>some (acc,T,S.after u,some v)
 | none=>none
def cw7 [Cfg] (P : Program) (Δ : af4) (acc : Acc) (d : Option Nat) (f : BF) (r : List BI) (T : BT) (S : AS) (g : FuncId) (args : List AV) : Bool → BO4
 | true=>kcl P Δ acc d f r T S (Δ g (args.map AV.ac1) .bare)
 | false=>kop P Δ acc d r T S (Δ g args S)
def kg [Cfg] (P : Program) (Δ : af4) (acc : Acc) (i : BI) (r : List BI) (T : BT) (S : AS) : Bool → BO4
 | true=>aa8 P Δ acc ({ i with g:=none } :: r) T S
 | false=>aa8 P Δ (acc.push ⟨.none,.none⟩) r (T.put i.d (.lit undef)) S
theorem cj4 [Cfg] : aa8 P Δ acc [] T S = some (acc,T,S,none):=rfl
theorem af5 [Cfg] (o : BO) : aa8 P Δ acc (⟨d,none,f,o⟩ :: r) T S = kr P Δ acc d f o.w r T S (bop P S T d o):=by
 conv=>lhs; unfold aa8
 simp only [aF8,if_true]
 cases bop P S T d o with
 | none=>rfl
 | some x=>cases x <;> rfl
theorem bF6 [Cfg] (o : BO) (t : Nat) (w : Bool) : aa8 P Δ acc (⟨d,some (t,w),f,o⟩ :: r) T S = kg P Δ acc ⟨d,some (t,w),f,o⟩ r T S (aF8 T (some (t,w))):=by
 conv=>lhs; unfold aa8
 simp only
 cases h : aF8 T (some (t,w)) with
 | false=>rfl
 | true =>
  simp only [kg,if_true]
  rw [af5]
  cases bop P S T d o with
  | none=>rfl
  | some x=>cases x <;> rfl
def cc9 (w : Bool) : AV → Bool
 | .lit (.bool b)=>b == w
 | _=>false
theorem aG4 (t : Nat) (w : Bool) : aF8 T (some (t,w)) = cc9 w (T t):=rfl
theorem bP8 (b : Bool) : cc9 true (.lit (.bool b)) = b:=by cases b <;> rfl
theorem bE5 (b : Bool) : cc9 false (.lit (.bool b)) = !b:=by cases b <;> rfl
theorem ax9 [Cfg] {o : BO} (x : Option AV) : kr P Δ acc d f o.w r T S (x.map .val) = kv P Δ acc d f r T S x:=by cases x <;> rfl
theorem bj1 [Cfg] (v : AV) : kv P Δ acc d f r T S (some v) = aa8 P Δ (acc.push ⟨f.foot S T d,.none⟩) r (T.put d v) S:=rfl
theorem cg3 [Cfg] (v : AV) (p : Loc) (s : ab3) : kc P Δ acc d f r T S (some (v,p,s)) = aa8 P Δ (acc.push ⟨f.foot S T d,.slot p⟩) r (T.put d v) (S.set p s):=rfl
theorem bo4 [Cfg] (w : Bool) (v : AV) : kr P Δ acc d f w r T S (some (.val v)) = aa8 P Δ (acc.push ⟨f.foot S T d,.none⟩) r (T.put d v) S:=rfl
theorem bq5 [Cfg] (v : AV) (p : Loc) (s : ab3) : kr P Δ acc d f true r T S (some (.chg v p s)) = aa8 P Δ (acc.push ⟨f.foot S T d,.slot p⟩) r (T.put d v) (S.set p s):=rfl
theorem kr_pan [Cfg] (w : Bool) (v : AV) : kr P Δ acc d f w r T S (some (.pan v)) = some (acc,T,S,some v):=rfl
theorem kr_dfr [Cfg] (g : FuncId) (args : List AV) : kr P Δ acc d f true r T S (some (.dfr g args)) = aa8 P Δ (acc.push ⟨.all,.all⟩) r (T.put d (.lit undef)) { S with dfr:=(g,args) :: S.dfr }:=rfl
theorem bX0 [Cfg] (g : FuncId) (args : List AV) : kr P Δ acc d f true r T S (some (.call g args)) = cw7 P Δ acc d f r T S g args (!Cfg.up g S.fn && AV.ac4 (args.map AV.ac1)):=by
 cases h : (!Cfg.up g S.fn && AV.ac4 (args.map AV.ac1)) with
 | true =>
  simp only [kr,h,if_true,cw7]
  unfold kcl
  rfl
 | false =>
  simp only [kr,h,if_true,cw7]
  unfold kop
  rfl
theorem cG0 [Cfg] (v : AV) : kcl P Δ acc d f r T S (some (.ret v,none)) = aa8 P Δ (acc.push ⟨f.foot S T d,.none⟩) r (T.put d v) S:=rfl
theorem kcl_pan [Cfg] (v : AV) : kcl P Δ acc d f r T S (some (.pan v,none)) = some (acc,T,S,some v):=rfl
theorem bA7 [Cfg] (v : AV) (u : Upd) : kop P Δ acc d r T S (some (.ret v,u)) = aa8 P Δ (acc.push ⟨.all,u.kind⟩) r (T.put d v) (S.after u):=rfl
theorem kop_pan [Cfg] (v : AV) (u : Upd) : kop P Δ acc d r T S (some (.pan v,u)) = some (acc,T,S.after u,some v):=rfl
theorem bx4 [Cfg] (g : FuncId) (args : List AV) : cw7 P Δ acc d f r T S g args true = kcl P Δ acc d f r T S (Δ g (args.map AV.ac1) .bare):=rfl
theorem aK2 [Cfg] (g : FuncId) (args : List AV) : cw7 P Δ acc d f r T S g args false = kop P Δ acc d r T S (Δ g args S):=rfl
theorem ce4 [Cfg] (i : BI) : kg P Δ acc i r T S true = aa8 P Δ acc ({ i with g:=none } :: r) T S:=rfl
theorem b05 [Cfg] (i : BI) : kg P Δ acc i r T S false = aa8 P Δ (acc.push ⟨.none,.none⟩) r (T.put i.d (.lit undef)) S:=rfl
theorem b_gen [Cfg] (op : Op) (ty : TypeId) : aa8 P Δ acc (⟨d, none, f, .gen op ty⟩ :: r) T S = kr P Δ acc d f (mayW ⟨none, op, ty, "", #[], none⟩) r T S (aop P S (aevF T) ⟨d, op, ty, "", #[], none⟩) := af5 _
theorem b_mv [Cfg] (x : X) : aa8 P Δ acc (⟨d,none,f,.mv x⟩ :: r) T S = aa8 P Δ (acc.push ⟨f.foot S T d,.none⟩) r (T.put d (x.at T)) S:=af5 _
def pkV : AV → AV → AV → Option AV
 | .lit (.bool t),a,b=>some (if t then a else b)
 | _,_,_=>none
theorem b_pk [Cfg] (c a b : X) : aa8 P Δ acc (⟨d,none,f,.pk c a b⟩ :: r) T S = kv P Δ acc d f r T S (pkV (c.at T) (a.at T) (b.at T)):=by
 rw [af5]
 simp only [bop]
 unfold pkV
 cases c.at T <;> first | rfl | (rename_i v; cases v <;> rfl)
def newV (S : AS) (e : TypeId) : Option Nat → List AV → Option (AV × Loc × ab3)
 | some d,cs=>some (.ptr (S.here d) (S.fresh (S.here d)) 0 0,S.here d,.obj (S.fresh (S.here d)) e cs)
 | none,_=>none
theorem b_al [Cfg] (e : TypeId) (cs : List AV) : aa8 P Δ acc (⟨d,none,f,.al e cs⟩ :: r) T S = kc P Δ acc d f r T S (newV S e d cs):=by
 rw [af5]; cases d <;> rfl
theorem b_bx [Cfg] (e : TypeId) (x : X) : aa8 P Δ acc (⟨d,none,f,.bx e x⟩ :: r) T S = kc P Δ acc d f r T S (newV S e d (x.at T).cells):=by
 rw [af5]; cases d <;> rfl
theorem b_bd [Cfg] (z : List AV) (pl : List (Nat × Nat × X)) : aa8 P Δ acc (⟨d,none,f,.bd z pl⟩ :: r) T S = kv P Δ acc d f r T S ((aK6 T z pl).map .agg):=by
 rw [af5]; simp only [bop]; cases aK6 T z pl <;> rfl
theorem cy6 [Cfg] (x : X) : aa8 P Δ acc (⟨d,none,f,.ld1 x⟩ :: r) T S = kv P Δ acc d f r T S (ld1V S (x.at T)):=by rw [af5]; exact ax9 _
theorem b_ldn [Cfg] (n : Nat) (x : X) : aa8 P Δ acc (⟨d,none,f,.ldn n x⟩ :: r) T S = kv P Δ acc d f r T S (ldnV n S (x.at T)):=by rw [af5]; exact ax9 _
theorem b_st [Cfg] (n : Nat) (x v : X) : aa8 P Δ acc (⟨d,none,f,.st n x v⟩ :: r) T S = kc P Δ acc d f r T S ((stV n S (v.at T).cells (x.at T)).map fun y=>(.lit undef,y.1,y.2)):=by
 rw [af5]; simp only [bop]; cases stV n S (v.at T).cells (x.at T) <;> rfl
theorem b_nc [Cfg] (x : X) : aa8 P Δ acc (⟨d,none,f,.nc x⟩ :: r) T S = kr P Δ acc d f false r T S (bop P S T d (.nc x)):=af5 _
theorem bz6 [Cfg] {x : X} {p : Loc} {g n o : Nat} (h : x.at T = .ptr p g n o) : bop P S T d (.nc x) = some (.val (.ptr p g n o)):=by simp only [bop,h,anil]
theorem bC5 [Cfg] {x : X} {cs : List AV} (h : x.at T = .cref cs) : bop P S T d (.nc x) = some (.val (.cref cs)):=by simp only [bop,h,anil]
theorem b_nc_fn [Cfg] {x : X} {g : FuncId} {cs : List AV} (h : x.at T = .fn g cs) : bop P S T d (.nc x) = some (.val (.fn g cs)):=by simp only [bop,h,anil]
theorem b_ib [Cfg] (op : BinOp) (x y : X) : aa8 P Δ acc (⟨d,none,f,.ib op x y⟩ :: r) T S = kv P Δ acc d f r T S (ibV op (x.at T) (y.at T)):=by rw [af5]; exact ax9 _
theorem b_sb [Cfg] (op : BinOp) (x y : X) : aa8 P Δ acc (⟨d,none,f,.sb op x y⟩ :: r) T S = kv P Δ acc d f r T S (sbV op (x.at T) (y.at T)):=by rw [af5]; exact ax9 _
theorem b_nt [Cfg] (x : X) : aa8 P Δ acc (⟨d,none,f,.nt x⟩ :: r) T S = kv P Δ acc d f r T S (ntV (x.at T)):=by rw [af5]; exact ax9 _
theorem b_bb [Cfg] (ne : Bool) (x y : X) : aa8 P Δ acc (⟨d,none,f,.bb ne x y⟩ :: r) T S = kv P Δ acc d f r T S (bbV ne (x.at T) (y.at T)):=by rw [af5]; exact ax9 _
theorem b_ce [Cfg] (ne : Bool) (offs : List (Nat × Nat)) (x y : X) : aa8 P Δ acc (⟨d,none,f,.ce ne offs x y⟩ :: r) T S = kv P Δ acc d f r T S (ceV ne offs (x.at T) (y.at T)):=by rw [af5]; exact ax9 _
theorem b_cvi [Cfg] (k : IntKind) (x : X) : aa8 P Δ acc (⟨d,none,f,.cvi k x⟩ :: r) T S = kv P Δ acc d f r T S (cviV k (x.at T)):=by rw [af5]; exact ax9 _
theorem b_mi [Cfg] (t : TypeId) (x : X) : aa8 P Δ acc (⟨d,none,f,.mi t x⟩ :: r) T S = aa8 P Δ (acc.push ⟨f.foot S T d,.none⟩) r (T.put d (.iface t (x.at T).ac1)) S:=af5 _
theorem b_mf [Cfg] (g : FuncId) (xs : List X) : aa8 P Δ acc (⟨d,none,f,.mf g xs⟩ :: r) T S = aa8 P Δ (acc.push ⟨f.foot S T d,.none⟩) r (T.put d (.fn g (xs.map (X.at T)))) S:=af5 _
theorem b_fa [Cfg] (off : Nat) (x : X) : aa8 P Δ acc (⟨d,none,f,.fa off x⟩ :: r) T S = kv P Δ acc d f r T S (offV off (x.at T)):=by rw [af5]; exact ax9 _
theorem b_fd1 [Cfg] (off : Nat) (x : X) : aa8 P Δ acc (⟨d,none,f,.fd1 off x⟩ :: r) T S = kv P Δ acc d f r T S (fd1V off (x.at T)):=by rw [af5]; exact ax9 _
theorem b_fdn [Cfg] (off n : Nat) (x : X) : aa8 P Δ acc (⟨d,none,f,.fdn off n x⟩ :: r) T S = kv P Δ acc d f r T S (fdnV off n (x.at T)):=by rw [af5]; exact ax9 _
theorem b_ia [Cfg] (n : Nat) (x i : X) : aa8 P Δ acc (⟨d,none,f,.ia n x i⟩ :: r) T S = kv P Δ acc d f r T S (iaV n (x.at T) (i.at T)):=by rw [af5]; exact ax9 _
theorem b_iaa [Cfg] (len n : Nat) (x i : X) : aa8 P Δ acc (⟨d,none,f,.iaa len n x i⟩ :: r) T S = kv P Δ acc d f r T S (iaaV len n (x.at T) (i.at T)):=by rw [af5]; exact ax9 _
theorem b_xs [Cfg] (x i : X) : aa8 P Δ acc (⟨d,none,f,.xs x i⟩ :: r) T S = kv P Δ acc d f r T S (xsV (x.at T) (i.at T)):=by rw [af5]; exact ax9 _
theorem b_ls [Cfg] (x : X) : aa8 P Δ acc (⟨d,none,f,.ls x⟩ :: r) T S = kv P Δ acc d f r T S (lsV (x.at T)):=by rw [af5]; exact ax9 _
theorem b_ll [Cfg] (x : X) : aa8 P Δ acc (⟨d,none,f,.ll x⟩ :: r) T S = kv P Δ acc d f r T S (llV (x.at T)):=by rw [af5]; exact ax9 _
theorem b_sls [Cfg] (x : X) (lo hi : Option X) : aa8 P Δ acc (⟨d,none,f,.sls x lo hi⟩ :: r) T S = kv P Δ acc d f r T S (slsV (x.at T) (lo.map (X.at T)) (hi.map (X.at T))):=by rw [af5]; exact ax9 _
theorem b_sll [Cfg] (n : Nat) (x : X) (lo hi mx : Option X) : aa8 P Δ acc (⟨d,none,f,.sll n x lo hi mx⟩ :: r) T S = kv P Δ acc d f r T S (sllV n (x.at T) (lo.map (X.at T)) (hi.map (X.at T)) (mx.map (X.at T))):=by rw [af5]; exact ax9 _
theorem b_ex [Cfg] (x : X) (i : Nat) : aa8 P Δ acc (⟨d,none,f,.ex x i⟩ :: r) T S = kv P Δ acc d f r T S (exV i (x.at T)):=by rw [af5]; exact ax9 _
theorem b_bsl [Cfg] (e : TypeId) (n : Nat) (xs : List X) : aa8 P Δ acc (⟨d,none,f,.bsl e n xs⟩ :: r) T S = kr P Δ acc d f true r T S (bop P S T d (.bsl e n xs)):=af5 _
theorem bw1 [Cfg] {d0 : Nat} {e : TypeId} {n : Nat} {xs : List X} (hl : Cfg.live S.fn d0 = false) (h1 : xs.all (fun x=>(x.at T).cells.length == n) = true) (h2 : xs.all (fun x=>(x.at T).cells.all AV.one) = true) :
  bop P S T (some d0) (.bsl e n xs) = some (.val (.list .full n (xs.map fun x=>(x.at T).cells))):=by
 simp only [bop]
 rw [if_pos ⟨h1,h2⟩,hl]
 rfl
def apV [Cfg] (S : AS) (d : Option Nat) (e : TypeId) (n bytes : Nat) (s : AV) : Option (List (List AV)) → Option AR
 | some news=>match d with
  | some d=>appB S d e n bytes s news
  | none=>none
 | none=>none
theorem b_ap [Cfg] (e : TypeId) (n bytes : Nat) (s x : X) : aa8 P Δ acc (⟨d,none,f,.ap e n bytes s x⟩ :: r) T S = kr P Δ acc d f true r T S (apV S d e n bytes (s.at T) (al2 S n (x.at T))):=by
 rw [af5]
 simp only [bop]
 unfold apV
 cases d with
 | none=>cases al2 S n (x.at T) <;> rfl
 | some d=>cases al2 S n (x.at T) <;> rfl
theorem b_cl [Cfg] (g : FuncId) (xs : List X) : aa8 P Δ acc (⟨d,none,f,.cl g xs⟩ :: r) T S = cw7 P Δ acc d f r T S g (xs.map (X.at T)) (!Cfg.up g S.fn && AV.ac4 ((xs.map (X.at T)).map AV.ac1)):=by
 rw [af5]
 exact bX0 g _
def cdV (P : Program) : Option (FuncId × List AV) → List AV → Option AR
 | some (f,cs),args=>if bv3 P f then some (.call f (args ++ cs)) else none
 | none,_=>none
theorem b_cd [Cfg] (x : X) (xs : List X) : aa8 P Δ acc (⟨d,none,f,.cd x xs⟩ :: r) T S = kr P Δ acc d f true r T S (cdV P (aC8 (x.at T)) (xs.map (X.at T))):=by
 rw [af5]
 simp only [bop]
 unfold cdV
 cases aC8 (x.at T) <;> rfl
theorem cdV_some {g : FuncId} (h : bv3 P g = true) (cs args : List AV) : cdV P (some (g,cs)) args = some (.call g (args ++ cs)):=by simp only [cdV,h,if_true]
theorem cw8 (g : FuncId) (cs : List AV) : aC8 (.fn g cs) = some (g,cs):=rfl
theorem b75 (g : FuncId) : aC8 (.lit (.func (.func g) #[] #[])) = some (g,[]):=rfl
theorem pkV_true (a b : AV) : pkV (.lit (.bool true)) a b = some a:=rfl
theorem cy4 (a b : AV) : pkV (.lit (.bool false)) a b = some b:=rfl
theorem cy8 (e : TypeId) (d0 : Nat) (cs : List AV) : newV S e (some d0) cs = some (.ptr (S.here d0) (S.fresh (S.here d0)) 0 0,S.here d0,.obj (S.fresh (S.here d0)) e cs):=rfl
theorem ib_add (k : IntKind) (a b : Int) : ibV .add (.lit (.int k a)) (.lit (.int k b)) = some (.lit (.int k (k.wrap (a + b)))):=by simp [ibV,intB]
theorem ib_sub (k : IntKind) (a b : Int) : ibV .sub (.lit (.int k a)) (.lit (.int k b)) = some (.lit (.int k (k.wrap (a - b)))):=by simp [ibV,intB]
theorem ib_mul (k : IntKind) (a b : Int) : ibV .mul (.lit (.int k a)) (.lit (.int k b)) = some (.lit (.int k (k.wrap (a * b)))):=by simp [ibV,intB]
theorem ib_quo (k : IntKind) (a b : Int) (h : b ≠ 0) : ibV .quo (.lit (.int k a)) (.lit (.int k b)) = some (.lit (.int k (k.wrap (a.tdiv b)))):=by simp [ibV,intB,h]
theorem ib_rem (k : IntKind) (a b : Int) (h : b ≠ 0) : ibV .rem (.lit (.int k a)) (.lit (.int k b)) = some (.lit (.int k (a.tmod b))):=by simp [ibV,intB,h]
theorem ib_and (k : IntKind) (a b : Int) : ibV .and (.lit (.int k a)) (.lit (.int k b)) = some (.lit (.int k (k.wrap (BitVec.ofInt k.bits a &&& BitVec.ofInt k.bits b).toNat))):=by simp [ibV,intB]
theorem ib_or (k : IntKind) (a b : Int) : ibV .or (.lit (.int k a)) (.lit (.int k b)) = some (.lit (.int k (k.wrap (BitVec.ofInt k.bits a ||| BitVec.ofInt k.bits b).toNat))):=by simp [ibV,intB]
theorem cz9 (k : IntKind) (a b : Int) : ibV .andNot (.lit (.int k a)) (.lit (.int k b)) = some (.lit (.int k (k.wrap (BitVec.ofInt k.bits a &&& ~~~(BitVec.ofInt k.bits b)).toNat))):=by simp [ibV,intB]
theorem ib_shl (k k' : IntKind) (a b : Int) (h : 0 ≤ b) : ibV .shl (.lit (.int k a)) (.lit (.int k' b)) = some (.lit (.int k (k.wrap (a * 2 ^ (min b.toNat k.bits))))):=by simp [ibV,intB,h]
theorem ib_shr (k k' : IntKind) (a b : Int) (h : 0 ≤ b) : ibV .shr (.lit (.int k a)) (.lit (.int k' b)) = some (.lit (.int k (a.fdiv (2 ^ (min b.toNat k.bits))))):=by simp [ibV,intB,h]
theorem ib_eql (k : IntKind) (a b : Int) : ibV .eql (.lit (.int k a)) (.lit (.int k b)) = some (.lit (.bool (decide (a = b)))):=by simp [ibV,intB]
theorem ib_neq (k : IntKind) (a b : Int) : ibV .neq (.lit (.int k a)) (.lit (.int k b)) = some (.lit (.bool (decide (a ≠ b)))):=by simp [ibV,intB]
theorem ib_lss (k : IntKind) (a b : Int) : ibV .lss (.lit (.int k a)) (.lit (.int k b)) = some (.lit (.bool (decide (a < b)))):=by simp [ibV,intB]
theorem ib_leq (k : IntKind) (a b : Int) : ibV .leq (.lit (.int k a)) (.lit (.int k b)) = some (.lit (.bool (decide (a ≤ b)))):=by simp [ibV,intB]
theorem ib_gtr (k : IntKind) (a b : Int) : ibV .gtr (.lit (.int k a)) (.lit (.int k b)) = some (.lit (.bool (decide (b < a)))):=by simp [ibV,intB]
theorem ib_geq (k : IntKind) (a b : Int) : ibV .geq (.lit (.int k a)) (.lit (.int k b)) = some (.lit (.bool (decide (b ≤ a)))):=by simp [ibV,intB]
theorem quo_int (k : IntKind) (a : Nat) (b : Int) (h : 0 < b) : ibV .quo (.lit (.int k a)) (.lit (.int k b)) = some (.lit (.int k (k.wrap (a / b.toNat : Nat)))):=by
 rw [ib_quo k a b (by omega)]
 obtain ⟨n,rfl⟩ : ∃ n : Nat,b = n:=⟨b.toNat,by omega⟩
 congr 4
theorem rem_int (k : IntKind) (a : Nat) (b : Int) (h : 0 < b) : ibV .rem (.lit (.int k a)) (.lit (.int k b)) = some (.lit (.int k (a % b.toNat : Nat))):=by
 rw [ib_rem k a b (by omega)]
 obtain ⟨n,rfl⟩ : ∃ n : Nat,b = n:=⟨b.toNat,by omega⟩
 congr 4
theorem sb_add (a b : ByteArray) (h : (toL a).length + (toL b).length ≤ 9223372036854775807) : sbV .add (.lit (.string a)) (.lit (.string b)) = some (.lit (.string (bs (toL a ++ toL b)))):=by
 simp only [sbV,strB]; rw [if_pos h]; rfl
theorem sb_eql (a b : ByteArray) : sbV .eql (.lit (.string a)) (.lit (.string b)) = some (.lit (.bool (decide (toL a = toL b)))):=rfl
theorem sb_neq (a b : ByteArray) : sbV .neq (.lit (.string a)) (.lit (.string b)) = some (.lit (.bool (decide (toL a ≠ toL b)))):=rfl
theorem sb_lss (a b : ByteArray) : sbV .lss (.lit (.string a)) (.lit (.string b)) = some (.lit (.bool (Op.bytesLess (toL a) (toL b)))):=rfl
theorem ntV_bool (b : Bool) : ntV (.lit (.bool b)) = some (.lit (.bool !b)):=rfl
theorem cviV_int (k k' : IntKind) (n : Int) : cviV k (.lit (.int k' n)) = some (.lit (.int k (k.wrap n))):=rfl
theorem offV_ptr (off : Nat) (p : Loc) (g n o : Nat) : offV off (.ptr p g n o) = some (.ptr p g n (o + off)):=rfl
theorem cI0 (off : Nat) (cs : List AV) : offV off (.cref cs) = some (.cref (cs.drop off)):=rfl
theorem fd1V_agg (off : Nat) (cs : List AV) : fd1V off (.agg cs) = cs[off]?:=rfl
theorem fdnV_agg (off n : Nat) (cs : List AV) : fdnV off n (.agg cs) = if off + n ≤ cs.length then some (.agg ((cs.drop off).take n)) else none:=rfl
theorem co4 (n : Nat) (sp : ap1) (es : List (List AV)) (k : IntKind) (i : Int) (h : 0 ≤ i) : iaV n (.list sp n es) (.lit (.int k i)) = (es[i.toNat]?).map .cref:=by simp [iaV,h]
theorem iaaV_in (len n : Nat) (a : AV) (k : IntKind) (i : Int) (h0 : 0 ≤ i) (h1 : i < len) : iaaV len n a (.lit (.int k i)) = offV (i.toNat * n) a:=by simp [iaaV,h0,h1]
theorem xsV_in (s : ByteArray) (k : IntKind) (i : Int) (h0 : 0 ≤ i) (h1 : i < (toL s).length) : xsV (.lit (.string s)) (.lit (.int k i)) = some (.lit (.int .u8 ((toL s).getD i.toNat 0).toNat)):=by simp only [xsV]; rw [if_pos ⟨h0,h1⟩]
theorem lsV_str (s : ByteArray) : lsV (.lit (.string s)) = some (.lit (.int .i64 (toL s).length)):=rfl
theorem llV_list (sp : ap1) (sz : Nat) (es : List (List AV)) : llV (.list sp sz es) = some (.lit (.int .i64 es.length)):=rfl
theorem llV_nil (a : Option Addr) (c : Nat) : llV (.lit (.slice a 0 c)) = some (.lit (.int .i64 0)):=rfl
theorem b41 (s : ByteArray) (k k' : IntKind) (l h : Int) (h0 : 0 ≤ l) (h1 : l ≤ h) (h2 : h ≤ (toL s).length) : slsV (.lit (.string s)) (some (.lit (.int k l))) (some (.lit (.int k' h))) = some (.lit (.string (bs (((toL s).take h.toNat).drop l.toNat)))):=by
 have : 0 ≤ h:=by omega
 simp only [slsV,an6,h0,this,if_true]
 rw [if_pos ⟨by omega,by omega⟩]
theorem slsV_lo (s : ByteArray) (k : IntKind) (l : Int) (h0 : 0 ≤ l) (h1 : l ≤ (toL s).length) : slsV (.lit (.string s)) (some (.lit (.int k l))) none = some (.lit (.string (bs ((toL s).drop l.toNat)))):=by
 simp only [slsV,an6,h0,if_true]
 rw [if_pos ⟨by omega,Nat.le_refl _⟩,List.take_length]
theorem slsV_hi (s : ByteArray) (k : IntKind) (h : Int) (h0 : 0 ≤ h) (h1 : h ≤ (toL s).length) : slsV (.lit (.string s)) none (some (.lit (.int k h))) = some (.lit (.string (bs ((toL s).take h.toNat)))):=by
 simp only [slsV,an6,h0,if_true]
 rw [if_pos ⟨Nat.zero_le _,by omega⟩]
 rfl
theorem exV_tup (i : Nat) (cs : List AV) : exV i (.tup cs) = cs[i]?:=rfl
theorem cF6 (cs : List AV) : ld1V S (.cref cs) = cs.head?:=rfl
theorem cG1 (n : Nat) (cs : List AV) : ldnV n S (.cref cs) = if n ≤ cs.length then some (.agg (cs.take n)) else none:=rfl
theorem bS0 {p : Loc} {g off : Nat} {t : TypeId} {cs : List AV} (h : S.get p = some (.obj g t cs)) : ld1V S (.ptr p g 0 off) = (cs.drop off).head?:=by simp [ld1V,bg7,AS.ai0,h]
theorem ba9 {p : Loc} {g off n : Nat} {t : TypeId} {cs : List AV} (h : S.get p = some (.obj g t cs)) : ldnV n S (.ptr p g 0 off) = if n ≤ (cs.drop off).length then some (.agg ((cs.drop off).take n)) else none:=by simp [ldnV,bg7,AS.ai0,h]
theorem bu8 {p : Loc} {g off n : Nat} {t : TypeId} {cs xs : List AV} (h : S.get p = some (.obj g t cs)) (h1 : xs.length = n) (h2 : off + xs.length ≤ cs.length) (h3 : xs.all AV.one = true) : stV n S xs (.ptr p g 0 off) = some (p,.obj g t (splice cs off xs)):=by
 simp only [stV,AS.write,AS.ai0,h,and_self,if_true]
 rw [if_pos h1,if_pos ⟨h2,h3⟩]
 rfl
theorem cx0 (cs xs : List AV) : splice cs 0 xs = xs ++ cs.drop xs.length:=by simp [splice]
theorem ci8 (c : AV) (cs xs : List AV) (n : Nat) : splice (c :: cs) (n + 1) xs = c :: splice cs n xs:=by
 simp only [splice,List.take_succ_cons,List.cons_append,show n + 1 + xs.length = (n + xs.length) + 1 by omega,List.drop_succ_cons]
theorem cE2 (cs : List AV) : aK6 T cs [] = some cs:=rfl
theorem br9 (cs : List AV) (off size : Nat) (x : X) (l : List (Nat × Nat × X)) (h : (x.at T).cells.length = size) (h2 : off + size ≤ cs.length) : aK6 T cs ((off,size,x) :: l) = aK6 T (splice cs off (x.at T).cells) l:=by
 conv=>lhs; unfold aK6
 rw [if_pos ⟨h,h2⟩]
theorem aK4 (n : Nat) (sp : ap1) (es : List (List AV)) : al2 S n (.list sp n es) = some es:=by simp [al2]
theorem cx7 (a : Option Addr) (n : Nat) : al2 S n (.lit (.slice a 0 0)) = some []:=rfl
theorem apV_some [Cfg] (d0 : Nat) (e : TypeId) (n bytes : Nat) (s : AV) (news : List (List AV)) : apV S (some d0) e n bytes s (some news) = appB S d0 e n bytes s news:=rfl
theorem b80 {m bytes : Nat} (hb : bytes ≤ 100000) (hl : m ≤ 1000000000) : m ≤ maxLen ∧ m * bytes ≤ 140737488355328:=by
 refine ⟨by unfold maxLen; omega,?_⟩
 have:=Nat.mul_le_mul hl hb
 omega
theorem ce7 [Cfg] (d0 : Nat) (e : TypeId) (n bytes : Nat) : appB S d0 e n bytes (.lit (.slice none 0 0)) [] = some (.val (.lit (.slice none 0 0))):=rfl
theorem aV7 [Cfg] (d0 : Nat) (e : TypeId) (n bytes : Nat) (sp : ap1) (sz : Nat) (es : List (List AV)) : appB S d0 e n bytes (.list sp sz es) [] = some (.val (.list sp sz es)):=rfl
theorem aS3 [Cfg] {d0 : Nat} {e : TypeId} {sz : Nat} {es : List (List AV)} (hl : Cfg.live S.fn d0 = false) : ay3 S d0 e sz es = .chg (.list (.own (S.here d0) (S.fresh (S.here d0))) sz es) (S.here d0) (.tok (S.fresh (S.here d0)) es.length sz e):=by
 unfold ay3; rw [hl]; rfl
theorem appB_nil [Cfg] {d0 : Nat} {e : TypeId} {n bytes : Nat} {news : List (List AV)} (hl : Cfg.live S.fn d0 = false) (h1 : news.all (fun e=>e.all AV.one) = true) (h0 : 0 < news.length) (hb : bytes ≤ 100000) (hn : news.length ≤ 1000000000) :
  appB S d0 e n bytes (.lit (.slice none 0 0)) news = some (.chg (.list (.own (S.here d0) (S.fresh (S.here d0))) n news) (S.here d0) (.tok (S.fresh (S.here d0)) news.length n e)):=by
 unfold appB
 rw [if_pos h1,if_neg (by omega)]
 simp only
 rw [if_pos (b80 hb hn),aS3 hl]
theorem cc1 [Cfg] {d0 : Nat} {e : TypeId} {n bytes : Nat} {news es : List (List AV)} (hl : Cfg.live S.fn d0 = false) (h1 : news.all (fun e=>e.all AV.one) = true) (h0 : 0 < news.length) (hb : bytes ≤ 100000) (hn : es.length + news.length ≤ 1000000000) :
  appB S d0 e n bytes (.list .full n es) news = some (.chg (.list (.own (S.here d0) (S.fresh (S.here d0))) n (es ++ news)) (S.here d0) (.tok (S.fresh (S.here d0)) (es.length + news.length) n e)):=by
 unfold appB
 rw [if_pos h1,if_neg (by omega)]
 simp only
 rw [if_pos ⟨trivial,b80 hb hn⟩,aS3 hl,List.length_append]
theorem cn9 [Cfg] {d0 : Nat} {e : TypeId} {n bytes : Nat} {news es : List (List AV)} {p : Loc} {g : Nat} (hs : S.get p = some (.tok g es.length n e)) (h1 : news.all (fun e=>e.all AV.one) = true) (h0 : 0 < news.length) (hb : bytes ≤ 100000)
  (hn : es.length + news.length ≤ 1000000000) : appB S d0 e n bytes (.list (.own p g) n es) news = some (.chg (.list (.own p g) n (es ++ news)) p (.tok g (es.length + news.length) n e)):=by
 unfold appB
 rw [if_pos h1,if_neg (by omega)]
 simp only [hs]
 rw [if_pos ⟨trivial,trivial,trivial,trivial,trivial,b80 hb hn⟩]
theorem wrap_i64 {a : Int} (h1 : -9223372036854775808 ≤ a) (h2 : a ≤ 9223372036854775807) : IntKind.i64.wrap a = a:=IntWalk.i64_in a ⟨h1,h2⟩
theorem wrap_u8 {a : Int} (h1 : 0 ≤ a) (h2 : a ≤ 255) : IntKind.u8.wrap a = a:=by
 unfold IntKind.wrap
 have : IntKind.u8.bits = 8:=rfl
 have hs : IntKind.u8.signed = false:=rfl
 simp only [this,hs,Bool.false_and]
 have : a % 2 ^ 8 = a:=Int.emod_eq_of_lt h1 (by omega)
 simpa using this
theorem cC1 (g : FuncId) : (S.enter g).lvl = S.lvl + 1:=rfl
theorem enter_fn (g : FuncId) : (S.enter g).fn = g:=rfl
theorem cG8 (g : FuncId) : (S.enter g).dfr = []:=rfl
theorem cH2 (g : FuncId) (p : Loc) : (S.enter g).get p = S.get p:=rfl
theorem set_lvl (p : Loc) (s : ab3) : (S.set p s).lvl = S.lvl:=rfl
theorem set_fn (p : Loc) (s : ab3) : (S.set p s).fn = S.fn:=rfl
theorem set_dfr (p : Loc) (s : ab3) : (S.set p s).dfr = S.dfr:=rfl
theorem set_get (p q : Loc) (s : ab3) : (S.set p s).get q = if q = p then some s else S.get q:=by
 by_cases h : q = p
 ·subst h; rw [if_pos rfl]; exact AS.get_set_same _ _ _
 ·rw [if_neg h]; exact AS.ad6 _ _ h
theorem bare_get (p : Loc) : AS.bare.get p = none:=rfl
theorem bu6 (d0 : Nat) : S.here d0 = ⟨S.lvl,d0,0⟩:=rfl
theorem loc_eq (a b c x y z : Nat) : ((⟨a,b,c⟩ : Loc) = ⟨x,y,z⟩) = (a = x ∧ b = y ∧ c = z):=by simp
theorem bq8 (f : Loc → Bool) : ∀ (lg : List Loc) (p : Loc),f p = false → (ap9 lg p).filter f = lg.filter f
 | [],p,h=>by simp [ap9,h]
 | q :: r,p,h=>by
  unfold ap9
  split
  ·rfl
  ·split
   ·simp only [List.filter_cons,bq8 f r p h]
   ·simp [List.filter_cons,h]
theorem cx9 (g : FuncId) (l : Nat) : (S.enter g).outs l = []:=rfl
theorem cd2 (l : Nat) (p : Loc) (s : ab3) (h : l < p.l) : (S.set p s).outs l = S.outs l:=bq8 _ _ _ (by simpa using h)
theorem ad1 {l n : Nat} {a : AV} (h : a.lv l = true) : frz l S (n + 1) a = some a:=by
 unfold frz
 rw [if_pos h]
theorem aM3 [Cfg] {S' : AS} {g : FuncId} {v : AV} (hup : Cfg.up g S.fn = false) (ho : S'.outs S.lvl = []) : ak3 g S S' v = (frz S.lvl S' 100000 v).map fun x=>(x,none):=by
 unfold ak3
 simp only [hup,Bool.false_eq_true,if_false,ho]
 cases frz S.lvl S' 100000 v <;> rfl
theorem cc2 [Cfg] {S' : AS} {g : FuncId} {v : AV} (hup : Cfg.up g S.fn = false) (ho : S'.outs S.lvl = []) (hv : v.lv S.lvl = true) : ak3 g S S' v = some (v,none):=by
 rw [aM3 hup ho,ad1 hv]
 rfl
def bret [Cfg] (g : FuncId) (S S' : AS) : Option (List AV) → Option (AE × Upd)
 | some vs=>(ak3 g S S' (ao0 vs)).map fun y=>(.ret y.1,y.2)
 | none=>none
theorem bo6 [Cfg] {S' : AS} {g : FuncId} {res : List BR} (hd : S'.dfr = []) : bfin g res S (some (.ret,T,S')) = bret g S S' (az2 S' T res):=by
 unfold bfin bret
 simp only [hd] <;> (cases az2 S' T res <;> rfl)
theorem bj8 [Cfg] {S' : AS} {g : FuncId} {res : List BR} (hd : S'.dfr = []) : bfin g res S (some (.normal,T,S')) = bret g S S' (az2 S' T res):=by
 unfold bfin bret
 simp only [hd] <;> (cases az2 S' T res <;> rfl)
theorem cq8 [Cfg] {S' : AS} {g : FuncId} {res : List BR} {v : AV} (hd : S'.dfr = []) : bfin g res S (some (.pan v,T,S')) = (ak3 g S S' v).map fun y=>(.pan y.1,y.2):=by
 unfold bfin
 simp only [hd]
theorem ct9 [Cfg] {S' : AS} {g : FuncId} {vs : List AV} (hup : Cfg.up g S.fn = false) (ho : S'.outs S.lvl = []) (hv : (ao0 vs).lv S.lvl = true) : bret g S S' (some vs) = some (.ret (ao0 vs),none):=by
 unfold bret
 simp only
 rw [cc2 hup ho hv]
 rfl
theorem cA4 : az2 S T [] = some []:=rfl
def bresK (v : Option AV) (vs : Option (List AV)) : Option (List AV):=match v,vs with
 | some v,some vs=>some (v :: vs)
 | _,_=>none
theorem an9 (x : BR) (l : List BR) : az2 S T (x :: l) = bresK (bres S T x) (az2 S T l):=by
 conv=>lhs; unfold az2
 unfold bresK
 cases bres S T x <;> cases az2 S T l <;> rfl
theorem cx2 (v : AV) (vs : List AV) : bresK (some v) (some vs) = some (v :: vs):=rfl
theorem bG2 (n : Nat) : bres S T (.t n) = some (T n):=rfl
theorem ce0 (a : Nat) : bres S T (.c1 a) = ld1V S (T a):=rfl
theorem cg2 (a n : Nat) : bres S T (.cn a n) = ldnV n S (T a):=rfl
theorem tupled_1 (v : AV) : ao0 [v] = v:=rfl
theorem tupled_2 (v u : AV) (l : List AV) : ao0 (v :: u :: l) = .tup (v :: u :: l):=rfl
theorem tupled_0 : ao0 [] = .tup []:=rfl
theorem bt4 [Cfg] {g h : FuncId} (_hup : Cfg.up g h = false) (args : List AV) : aE8 g h args = args.map AV.ac1:=rfl
theorem cC3 (v : Value) : AV.ac1 (.lit v) = .lit v:=rfl
theorem cu1 (sp : ap1) (sz : Nat) (es : List (List AV)) : AV.ac1 (.list sp sz es) = .list .no sz es:=rfl
theorem cK5 (cs : List AV) : AV.ac1 (.agg cs) = .agg (cs.map AV.as6):=rfl
theorem cf6 (t : TypeId) (a : AV) : AV.ac1 (.iface t a) = .iface t a:=rfl
theorem cE5 (p : Loc) (g n o : Nat) : AV.ac1 (.ptr p g n o) = .ptr p g n o:=rfl
theorem cv0 (cs : List AV) : AV.ac1 (.cref cs) = .cref cs:=rfl
theorem normA_fn (g : FuncId) (cs : List AV) : AV.ac1 (.fn g cs) = .fn g cs:=rfl
theorem cH7 (v : Value) : AV.as6 (.lit v) = .lit v:=rfl
theorem cx5 (sp : ap1) (sz : Nat) (es : List (List AV)) : AV.as6 (.list sp sz es) = .list .no sz es:=rfl
theorem cK0 (cs : List AV) : AV.as6 (.agg cs) = .agg cs:=rfl
theorem ci7 (t : TypeId) (a : AV) : AV.as6 (.iface t a) = .iface t a:=rfl
theorem cF9 (p : Loc) (g n o : Nat) : AV.as6 (.ptr p g n o) = .ptr p g n o:=rfl
theorem cv4 (cs : List AV) : AV.as6 (.cref cs) = .cref cs:=rfl
theorem norm1_fn (g : FuncId) (cs : List AV) : AV.as6 (.fn g cs) = .fn g cs:=rfl
theorem cH1 (k : IntKind) (n : Int) : AV.cells (.lit (.int k n)) = [.lit (.int k n)]:=rfl
theorem ct4 (b : Bool) : AV.cells (.lit (.bool b)) = [.lit (.bool b)]:=rfl
theorem cG7 (s : ByteArray) : AV.cells (.lit (.string s)) = [.lit (.string s)]:=rfl
theorem cj6 (a : Option Addr) (n c : Nat) : AV.cells (.lit (.slice a n c)) = [.lit (.slice a n c)]:=rfl
theorem bU2 (a : Option Addr) : AV.cells (.lit (.pointer a)) = [.lit (.pointer a)]:=rfl
theorem bK2 : AV.cells (.lit .nilIface) = [.lit .nilIface]:=rfl
theorem cC4 (a : Option Nat) : AV.cells (.lit (.map a)) = [.lit (.map a)]:=rfl
theorem cells_func (g : Fn) (a b : Array Value) : AV.cells (.lit (.func g a b)) = [.lit (.func g a b)]:=rfl
theorem cI7 (cs : List AV) : AV.cells (.agg cs) = cs:=rfl
theorem cv8 (sp : ap1) (sz : Nat) (es : List (List AV)) : AV.cells (.list sp sz es) = [.list sp sz es]:=rfl
theorem cj8 (t : TypeId) (a : AV) : AV.cells (.iface t a) = [.iface t a]:=rfl
theorem cJ9 (p : Loc) (g n o : Nat) : AV.cells (.ptr p g n o) = [.ptr p g n o]:=rfl
theorem cs8 (cs : List AV) : AV.cells (.cref cs) = [.cref cs]:=rfl
theorem cells_fn (g : FuncId) (cs : List AV) : AV.cells (.fn g cs) = [.fn g cs]:=rfl
theorem cy0 (p : Loc) (g : Nat) : AV.cells (.mref p g) = [.mref p g]:=rfl
end
attribute [go_sem]
 X_t X_c put_at put_no ct5 cv2 cC0 bP0 bD9 aq6 cB4 seqB_ret seqB_pan bZ0 ct7 cr6 cl2 aw4
 bend_pan cD3 acc0_nil cD9 push_no push_yes cj4 bF6 bj1 cg3 bo4 bq5 kr_pan kr_dfr cG0 kcl_pan bA7 kop_pan bx4 aK2 ce4
 b05 b_gen b_mv b_pk b_al b_bx b_bd cy6 b_ldn b_st b_nc b_ib b_sb b_nt b_bb b_ce b_cvi b_mi b_mf b_fa b_fd1 b_fdn b_ia b_iaa b_xs b_ls b_ll b_sls b_sll b_ex b_bsl b_ap b_cl b_cd
 cw8 b75 pkV_true cy4 cy8 ib_add ib_sub ib_mul ib_and ib_or cz9 ib_eql ib_neq ib_lss ib_leq ib_gtr ib_geq sb_eql sb_neq sb_lss ntV_bool cviV_int offV_ptr
 cI0 fd1V_agg fdnV_agg lsV_str llV_list llV_nil exV_tup cF6 cG1 cx0 ci8 cE2 aK4 cx7 apV_some ce7 aV7
 cC1 enter_fn cG8 cH2 set_lvl set_fn set_dfr set_get bare_get loc_eq cx9 cA4 an9 cx2 bG2 ce0 cg2 tupled_1 tupled_2 tupled_0
 cC3 cu1 cK5 cf6 cE5 cv0 normA_fn cH7 cx5 cK0 ci7 cF9 cv4 norm1_fn cH1 ct4 cG7
 cj6 bU2 bK2 cC4 cells_func cI7 cv8 cj8 cJ9 cs8 cells_fn cy0 bs4 bQ8 bC9 aC4
 bO0 aq1 aN4 aW8 bm8 bz6 bC5 b_nc_fn bw1 aG4 bP8 bE5 bP5 appB_nil cc1 cn9 bu8 bS0 ba9 wrap_i64
 wrap_u8 ct9 bo6 bj8 cq8 quo_int rem_int ib_shl ib_shr sb_add co4 iaaV_in xsV_in b41 slsV_lo slsV_hi br9 cdV_some cb8 cd2
open Go.RowKit
def u8s (l : List UInt8) : List (List AV):=l.map fun b=>[.lit (.int .u8 b.toNat)]
def bq4 : List (List AV) → Option (List UInt8)
 | []=>some []
 | [.lit (.int .u8 n)] :: r=>if 0 ≤ n ∧ n < 256 then (bq4 r).map (UInt8.ofNat n.toNat :: ·) else none
 | _=>none
theorem bx6 : ∀ {es : List (List AV)} {l : List UInt8},bq4 es = some l → es = u8s l
 | [],l,h=>by
  simp only [bq4,Option.some.injEq] at h
  subst h; rfl
 | e :: r,l,h=>by
  unfold bq4 at h
  split at h
  ·rename_i e1; cases e1
  ·rename_i n r' e1
   cases e1
   split at h
   ·rename_i hn
    obtain ⟨l',h1,rfl⟩:=Option.map_eq_some_iff.1 h
    have:=bx6 h1
    subst this
    have hto : ((UInt8.ofNat n.toNat).toNat : Int) = n:=by
     have : (UInt8.ofNat n.toNat).toNat = n.toNat:=by simp [UInt8.toNat_ofNat']; omega
     rw [this]; omega
    simp only [u8s,List.map_cons,hto]
   ·cases h
  ·cases h
def aF9 (u8 : TypeId) : List AV → AS → Option (AE × Upd)
 | [.ptr p g n off],S=>match bg7 S (.ptr p g n off) with
  | some (_ :: .list (.own q h) 1 es :: _)=>match S.get q with
   | some (.tok h' m 1 e)=>if h' = h ∧ m = es.length ∧ e = u8 ∧ es.length ≠ 0 ∧ es.length ≤ maxLen then (bq4 es).map fun b=>(.ret (.lit (.string (bs b))),none) else none
   | _=>none
  | some (_ :: .lit (.slice none 0 0) :: _)=>some (.ret (.lit (.string (bs []))),none)
  | _=>none
 | _,_=>none
open Go.RowKit
abbrev F.ac8 : Nat:=3
abbrev F.ai3 : Nat:=4
abbrev F.al9 : Nat:=5
abbrev F.ae2 : Nat:=6
abbrev F.ae1 : Nat:=7
abbrev F.ac7 : Nat:=8
abbrev F.ag5 : Nat:=9
abbrev F.al7 : Nat:=13
abbrev F.ag8 : Nat:=14
abbrev F.aa9 : Nat:=15
abbrev F.ao9 : Nat:=16
abbrev F.ae0 : Nat:=17
abbrev F.o5 : Nat:=18
abbrev F.al4 : Nat:=20
abbrev F.al8 : Nat:=21
abbrev F.ac9 : Nat:=22
abbrev F.aa6 : Nat:=23
abbrev F.o6 : Nat:=24
abbrev F.ak8 : Nat:=25
abbrev F.ac6 : Nat:=26
abbrev F.bi7 : Nat:=28
abbrev F.ab6 : Nat:=29
abbrev F.aD6 : Nat:=31
abbrev F.ab9 : Nat:=34
abbrev F.y5 : Nat:=36
abbrev F.ab7 : Nat:=37
abbrev F.aq8 : Nat:=40
abbrev F.ac5 : Nat:=41
abbrev F.af7 : Nat:=48
abbrev F.o7 : Nat:=55
abbrev F.ad9 : Nat:=79
abbrev F.ab2 : Nat:=80
abbrev F.an8 : Nat:=81
abbrev F.at7 : Nat:=82
abbrev F.ae7 : Nat:=97
abbrev F.ar1 : Nat:=98
def liveL : List Nat:=[31]
def upL : List Nat:=[18,23,24,29,30,36,38,39,55,56,58,59,61,62,84,147]
def sameL : List Nat:=[99]
def bF1 : List Nat:=[62]
def u8T : TypeId:=5
def upFrom : List Nat:=[31]
def upTo : List Nat:=[18]
def liveA : List Nat:=[23,31]
def upA : List Nat:=[18,23,24,28,29,30,34,36,38,39,49,55,56,57,58,59,61,62,80,84,147]
@[reducible] def cfgA : Cfg where
 live f _:=liveA.contains f
 up f g:=upA.contains f || (upFrom.contains f && upTo.contains g)
 same f:=sameL.contains f
 given f:=if bF1.contains f then some (aF9 u8T) else none
def ba7 (args : List AV) (S : AS) : Option (AE × Upd):=match args,S.lvl,S.fn,S.tab,S.log with
 | [],0,0,[],[]=>some (.ret (.lit (.bool true)),none)
 | _,_,_,_,_=>none
instance theCfg : Cfg where
 live f _:=liveL.contains f
 up f g:=upL.contains f || (upFrom.contains f && upTo.contains g)
 same _:=false
 given f:=if f = F.ai3 then some ba7 else none
open Go.RowKit
def aw_T : AV:=(.agg [(.lit (.int .i64 (2))),(.lit (.int .u64 (0))),(.lit (.int .u64 (0))),(.lit (.int .u64 (0))),(.lit (.int .u64 (0))),(.list .no 9 [[(.lit (.int .i64 (5))),(.lit (.int .u64 (0))),(.lit (.int .u64 (0))),(.lit (.int .u64 (0))),(.lit (.int .u64 (0))),(.list .no 9 [[(.lit (.int .i64 (3))),(.lit (.int .u64 (0))),(.lit (.int .u64 (0))),(.lit (.int .u64 (0))),(.lit (.int .u64 (0))),(.list .no 9 [[(.lit (.int .i64 (1))),(.lit (.int .u64 (0))),(.lit (.int .u64 (8589934592))),(.lit (.int .u64 (0))),(.lit (.int .u64 (0))),(.lit (.slice none 0 0)),(.lit (.int .i64 (0))),(.lit (.int .i64 (0))),(.lit (.int .i64 (0)))],[(.lit (.int .i64 (2))),(.lit (.int .u64 (0))),(.lit (.int .u64 (0))),(.lit (.int .u64 (0))),(.lit (.int .u64 (0))),(.list .no 9 [[(.lit (.int .i64 (1))),(.lit (.int .u64 (0))),(.lit (.int .u64 (8589934592))),(.lit (.int .u64 (0))),(.lit (.int .u64 (0))),(.lit (.slice none 0 0)),(.lit (.int .i64 (0))),(.lit (.int .i64 (0))),(.lit (.int .i64 (0)))],[(.lit (.int .i64 (1))),(.lit (.int .u64 (0))),(.lit (.int .u64 (17179869184))),(.lit (.int .u64 (0))),(.lit (.int .u64 (0))),(.lit (.slice none 0 0)),(.lit (.int .i64 (0))),(.lit (.int .i64 (0))),(.lit (.int .i64 (0)))]]),(.lit (.int .i64 (0))),(.lit (.int .i64 (0))),(.lit (.int .i64 (0)))]]),(.lit (.int .i64 (0))),(.lit (.int .i64 (0))),(.lit (.int .i64 (0)))]]),(.lit (.int .i64 (0))),(.lit (.int .i64 (0))),(.lit (.int .i64 (1)))],[(.lit (.int .i64 (5))),(.lit (.int .u64 (0))),(.lit (.int .u64 (0))),(.lit (.int .u64 (0))),(.lit (.int .u64 (0))),(.list .no 9 [[(.lit (.int .i64 (3))),(.lit (.int .u64 (0))),(.lit (.int .u64 (0))),(.lit (.int .u64 (0))),(.lit (.int .u64 (0))),(.list .no 9 [[(.lit (.int .i64 (1))),(.lit (.int .u64 (0))),(.lit (.int .u64 (34359738368))),(.lit (.int .u64 (0))),(.lit (.int .u64 (0))),(.lit (.slice none 0 0)),(.lit (.int .i64 (0))),(.lit (.int .i64 (0))),(.lit (.int .i64 (0)))],[(.lit (.int .i64 (2))),(.lit (.int .u64 (0))),(.lit (.int .u64 (0))),(.lit (.int .u64 (0))),(.lit (.int .u64 (0))),(.list .no 9 [[(.lit (.int .i64 (1))),(.lit (.int .u64 (0))),(.lit (.int .u64 (17179869184))),(.lit (.int .u64 (0))),(.lit (.int .u64 (0))),(.lit (.slice none 0 0)),(.lit (.int .i64 (0))),(.lit (.int .i64 (0))),(.lit (.int .i64 (0)))],[(.lit (.int .i64 (1))),(.lit (.int .u64 (0))),(.lit (.int .u64 (34359738368))),(.lit (.int .u64 (0))),(.lit (.int .u64 (0))),(.lit (.slice none 0 0)),(.lit (.int .i64 (0))),(.lit (.int .i64 (0))),(.lit (.int .i64 (0)))],[(.lit (.int .i64 (1))),(.lit (.int .u64 (0))),(.lit (.int .u64 (68719476736))),(.lit (.int .u64 (0))),(.lit (.int .u64 (0))),(.lit (.slice none 0 0)),(.lit (.int .i64 (0))),(.lit (.int .i64 (0))),(.lit (.int .i64 (0)))]]),(.lit (.int .i64 (0))),(.lit (.int .i64 (0))),(.lit (.int .i64 (0)))]]),(.lit (.int .i64 (0))),(.lit (.int .i64 (0))),(.lit (.int .i64 (0)))]]),(.lit (.int .i64 (0))),(.lit (.int .i64 (0))),(.lit (.int .i64 (2)))]]),(.lit (.int .i64 (0))),(.lit (.int .i64 (0))),(.lit (.int .i64 (0)))])
def aw_R : AV:=(.cref [(.list .no 7 [[(.lit (.int .i64 (3))),(.lit (.int .u64 (0))),(.lit (.int .u64 (0))),(.lit (.int .u64 (0))),(.lit (.int .u64 (0))),(.lit (.int .i64 (0))),(.lit (.int .i64 (0)))],[(.lit (.int .i64 (3))),(.lit (.int .u64 (0))),(.lit (.int .u64 (0))),(.lit (.int .u64 (0))),(.lit (.int .u64 (0))),(.lit (.int .i64 (2))),(.lit (.int .i64 (0)))],[(.lit (.int .i64 (1))),(.lit (.int .u64 (0))),(.lit (.int .u64 (0))),(.lit (.int .u64 (0))),(.lit (.int .u64 (0))),(.lit (.int .i64 (3))),(.lit (.int .i64 (5)))],[(.lit (.int .i64 (0))),(.lit (.int .u64 (0))),(.lit (.int .u64 (8589934592))),(.lit (.int .u64 (0))),(.lit (.int .u64 (0))),(.lit (.int .i64 (0))),(.lit (.int .i64 (0)))],[(.lit (.int .i64 (2))),(.lit (.int .u64 (0))),(.lit (.int .u64 (0))),(.lit (.int .u64 (0))),(.lit (.int .u64 (0))),(.lit (.int .i64 (7))),(.lit (.int .i64 (0)))],[(.lit (.int .i64 (0))),(.lit (.int .u64 (0))),(.lit (.int .u64 (8589934592))),(.lit (.int .u64 (0))),(.lit (.int .u64 (0))),(.lit (.int .i64 (0))),(.lit (.int .i64 (0)))],[(.lit (.int .i64 (0))),(.lit (.int .u64 (0))),(.lit (.int .u64 (17179869184))),(.lit (.int .u64 (0))),(.lit (.int .u64 (0))),(.lit (.int .i64 (0))),(.lit (.int .i64 (0)))],[(.lit (.int .i64 (3))),(.lit (.int .u64 (0))),(.lit (.int .u64 (0))),(.lit (.int .u64 (0))),(.lit (.int .u64 (0))),(.lit (.int .i64 (3))),(.lit (.int .i64 (0)))],[(.lit (.int .i64 (3))),(.lit (.int .u64 (0))),(.lit (.int .u64 (0))),(.lit (.int .u64 (0))),(.lit (.int .u64 (0))),(.lit (.int .i64 (4))),(.lit (.int .i64 (0)))],[(.lit (.int .i64 (1))),(.lit (.int .u64 (0))),(.lit (.int .u64 (0))),(.lit (.int .u64 (0))),(.lit (.int .u64 (0))),(.lit (.int .i64 (10))),(.lit (.int .i64 (12)))],[(.lit (.int .i64 (0))),(.lit (.int .u64 (0))),(.lit (.int .u64 (34359738368))),(.lit (.int .u64 (0))),(.lit (.int .u64 (0))),(.lit (.int .i64 (0))),(.lit (.int .i64 (0)))],[(.lit (.int .i64 (2))),(.lit (.int .u64 (0))),(.lit (.int .u64 (0))),(.lit (.int .u64 (0))),(.lit (.int .u64 (0))),(.lit (.int .i64 (15))),(.lit (.int .i64 (0)))],[(.lit (.int .i64 (0))),(.lit (.int .u64 (0))),(.lit (.int .u64 (17179869184))),(.lit (.int .u64 (0))),(.lit (.int .u64 (0))),(.lit (.int .i64 (0))),(.lit (.int .i64 (0)))],[(.lit (.int .i64 (0))),(.lit (.int .u64 (0))),(.lit (.int .u64 (34359738368))),(.lit (.int .u64 (0))),(.lit (.int .u64 (0))),(.lit (.int .i64 (0))),(.lit (.int .i64 (0)))],[(.lit (.int .i64 (0))),(.lit (.int .u64 (0))),(.lit (.int .u64 (68719476736))),(.lit (.int .u64 (0))),(.lit (.int .u64 (0))),(.lit (.int .i64 (0))),(.lit (.int .i64 (0)))],[(.lit (.int .i64 (3))),(.lit (.int .u64 (0))),(.lit (.int .u64 (0))),(.lit (.int .u64 (0))),(.lit (.int .u64 (0))),(.lit (.int .i64 (5))),(.lit (.int .i64 (0)))],[(.lit (.int .i64 (3))),(.lit (.int .u64 (0))),(.lit (.int .u64 (0))),(.lit (.int .u64 (0))),(.lit (.int .u64 (0))),(.lit (.int .i64 (1))),(.lit (.int .i64 (0)))],[(.lit (.int .i64 (9))),(.lit (.int .u64 (0))),(.lit (.int .u64 (0))),(.lit (.int .u64 (0))),(.lit (.int .u64 (0))),(.lit (.int .i64 (0))),(.lit (.int .i64 (0)))]]),(.lit (.int .i64 (2))),(.lit (.int .i64 (0))),(.lit (.bool false))])
def aw_a : Nat × List AV × AV:=(10,[(.lit (.string (bs [40,97,124,97,98,41,40,99,124,98,99,100,41])))],(.tup [aw_T,(.lit (.slice none 0 0)),(.lit (.int .i64 (0))),(.lit (.int .i64 (0)))]))
def aw_b : Nat × List AV × AV:=(6,[aw_T],(.tup [aw_R,(.lit (.bool true))]))
def aw_c : Nat × List AV × AV:=(8,[aw_R,(.lit (.string (bs [120,97,98,99,100]))),(.lit (.int .i64 (0)))],(.tup [(.list .no 1 [[(.lit (.int .i64 (1)))],[(.lit (.int .i64 (5)))],[(.lit (.int .i64 (1)))],[(.lit (.int .i64 (2)))],[(.lit (.int .i64 (2)))],[(.lit (.int .i64 (5)))]]),(.lit (.bool true))]))
def aw_d : Nat × List AV × AV:=(11,[aw_R,(.lit (.string (bs [97,98,99])))],(.lit (.bool true)))
def aw_e : Nat × List AV × AV:=(11,[aw_R,(.lit (.string (bs [97,98])))],(.lit (.bool false)))
def aw_f : Nat × List AV × AV:=(12,[aw_R],(.lit (.int .i64 (2))))
def valB : Value → Value → Bool
 | .int k a,.int k' b=>decide (k = k') && decide (a = b)
 | .bool a,.bool b=>decide (a = b)
 | .string a,.string b=>decide (toL a = toL b)
 | .pointer none,.pointer none=>true
 | .nilIface,.nilIface=>true
 | .slice none 0 0,.slice none 0 0=>true
 | _,_=>false
theorem valB_eq {a b : Value} (h : valB a b = true) : a = b:=by
 unfold valB at h
 split at h
 ·simp only [Bool.and_eq_true,decide_eq_true_eq] at h
  rw [h.1,h.2]
 ·rw [of_decide_eq_true h]
 ·rw [cj5 (of_decide_eq_true h)]
 ·rfl
 ·rfl
 ·rfl
 ·cases h
def spB : ap1 → ap1 → Bool
 | .no,.no=>true
 | .full,.full=>true
 | _,_=>false
theorem spB_eq {a b : ap1} (h : spB a b = true) : a = b:=by
 unfold spB at h
 split at h
 ·rfl
 ·rfl
 ·cases h
mutual
def avB : AV → AV → Bool
 | .lit a,b=>(match b with | .lit b=>valB a b | _=>false)
 | .agg xs,b=>(match b with | .agg ys=>avBL xs ys | _=>false)
 | .tup xs,b=>(match b with | .tup ys=>avBL xs ys | _=>false)
 | .cref xs,b=>(match b with | .cref ys=>avBL xs ys | _=>false)
 | .list sp n es,b=>(match b with | .list sp' n' es'=>spB sp sp' && decide (n = n') && cy9 es es' | _=>false)
 | .iface t a,b=>(match b with | .iface t' b=>decide (t = t') && avB a b | _=>false)
 | _,_=>false
def avBL : List AV → List AV → Bool
 | [],ys=>ys.isEmpty
 | x :: xs,ys=>(match ys with | y :: ys=>avB x y && avBL xs ys | []=>false)
def cy9 : List (List AV) → List (List AV) → Bool
 | [],ys=>ys.isEmpty
 | x :: xs,ys=>(match ys with | y :: ys=>avBL x y && cy9 xs ys | []=>false)
end
mutual
theorem avB_eq : ∀ {a b : AV},avB a b = true → a = b
 | .lit a,b,h=>by
  unfold avB at h
  split at h
  ·rw [valB_eq h]
  ·cases h
 | .agg xs,b,h=>by
  unfold avB at h
  split at h
  ·rw [bs1 h]
  ·cases h
 | .tup xs,b,h=>by
  unfold avB at h
  split at h
  ·rw [bs1 h]
  ·cases h
 | .cref xs,b,h=>by
  unfold avB at h
  split at h
  ·rw [bs1 h]
  ·cases h
 | .list sp n es,b,h=>by
  unfold avB at h
  split at h
  ·simp only [Bool.and_eq_true,decide_eq_true_eq] at h
   rw [spB_eq h.1.1,h.1.2,cn6 h.2]
  ·cases h
 | .iface t a,b,h=>by
  unfold avB at h
  split at h
  ·simp only [Bool.and_eq_true,decide_eq_true_eq] at h
   rw [h.1,avB_eq h.2]
  ·cases h
 | .ptr ..,_,h=>by unfold avB at h; cases h
 | .row ..,_,h=>by unfold avB at h; cases h
 | .mref ..,_,h=>by unfold avB at h; cases h
 | .fn ..,_,h=>by unfold avB at h; cases h
theorem bs1 : ∀ {xs ys : List AV},avBL xs ys = true → xs = ys
 | [],ys,h=>by unfold avBL at h; exact (List.isEmpty_iff.1 h).symm
 | x :: xs,ys,h=>by
  unfold avBL at h
  split at h
  ·simp only [Bool.and_eq_true] at h
   rw [avB_eq h.1,bs1 h.2]
  ·cases h
theorem cn6 : ∀ {xs ys : List (List AV)},cy9 xs ys = true → xs = ys
 | [],ys,h=>by unfold cy9 at h; exact (List.isEmpty_iff.1 h).symm
 | x :: xs,ys,h=>by
  unfold cy9 at h
  split at h
  ·simp only [Bool.and_eq_true] at h
   rw [bs1 h.1,cn6 h.2]
  ·cases h
end
def bareB (S : AS) : Bool:=decide (S.lvl = 0) && decide (S.fn = 0) && S.tab.isEmpty && S.log.isEmpty && S.dfr.isEmpty
theorem bareB_eq {S : AS} (h : bareB S = true) : S = .bare:=by
 unfold bareB at h
 simp only [Bool.and_eq_true,decide_eq_true_eq,List.isEmpty_iff] at h
 obtain ⟨⟨⟨⟨h1,h2⟩,h3⟩,h4⟩,h5⟩:=h
 cases S
 simp only at h1 h2 h3 h4 h5
 subst h1 h2 h3 h4 h5
 rfl
abbrev Told:=List (Nat × List AV × AV)
def toldΔ (t : Told) : af4:=fun f args S=>match t.find? fun e=>decide (e.1 = f) && avBL e.2.1 args && bareB S with
 | some e=>some (.ret e.2.2,none)
 | none=>none
theorem told_le {t : Told} {Δ : af4} (h : ∀ e ∈ t,Δ e.1 e.2.1 .bare = some (.ret e.2.2,none)) : (toldΔ t).le Δ:=fun f args S r hr=>by
 unfold toldΔ at hr
 split at hr
 ·rename_i e he
  cases hr
  have h1:=List.find?_some he
  simp only [Bool.and_eq_true,decide_eq_true_eq] at h1
  obtain ⟨⟨rfl,h2⟩,h3⟩:=h1
  obtain rfl:=bs1 h2
  obtain rfl:=bareB_eq h3
  exact h e (List.mem_of_find?_eq_some he)
 ·cases hr
section
variable [Cfg] {P : Program}
def cA1 (P : Program) (Δ : af4) (n : Nat) (f : FuncId) (args : List AV) (S : AS) : Option (AE × Upd):=match Cfg.given f with
 | some _=>none
 | none=>match P.funcs[f]? with
  | none=>none
  | some fn=>match fn.body with
   | none=>none
   | some c => if (fn.name == "runtime.NumGoroutine") = false ∧ args.length ≤ fn.ntmps then finish P Δ n fn f S (ae6 P Δ n c (aq9 fn (aE8 f S.fn args)) (S.enter f)) else none
theorem cH5 {Δ : af4} {n : Nat} (hΔ : Δ.le (aj2 P n)) {f : FuncId} {args : List AV} {S : AS} {r : AE × Upd} (h : cA1 P Δ n f args S = some r) : aj2 P (n + 1) f args S = some r:=by
 unfold cA1 at h
 split at h
 ·cases h
 rename_i hg
 split at h
 ·cases h
 rename_i fn hf
 split at h
 ·cases h
 rename_i c hb
 split at h
 ·rename_i hn
  rw [ba0 n hg hf hb hn.1 hn.2]
  exact bF0 hΔ (Nat.le_refl n) (fun z hz=>al5 hΔ (Nat.le_refl n) c _ _ z hz) h
 ·cases h
end
open Go.RowKit
theorem awk8_a : @aj2 cfgA Tryz.prog 300 aw_a.1 aw_a.2.1 .bare = some (.ret aw_a.2.2,none):=by kernel_rfl
open Go.RowKit
theorem awk8_b : @aj2 cfgA Tryz.prog 300 aw_b.1 aw_b.2.1 .bare = some (.ret aw_b.2.2,none):=by kernel_rfl
open Go.RowKit
theorem awk8_c : @aj2 cfgA Tryz.prog 300 aw_c.1 aw_c.2.1 .bare = some (.ret aw_c.2.2,none):=by kernel_rfl
open Go.RowKit
theorem awk8_d : @aj2 cfgA Tryz.prog 300 aw_d.1 aw_d.2.1 .bare = some (.ret aw_d.2.2,none):=by kernel_rfl
open Go.RowKit
theorem awk8_e : @aj2 cfgA Tryz.prog 300 aw_e.1 aw_e.2.1 .bare = some (.ret aw_e.2.2,none):=by kernel_rfl
open Go.RowKit
theorem awk8_f : @aj2 cfgA Tryz.prog 300 aw_f.1 aw_f.2.1 .bare = some (.ret aw_f.2.2,none):=by kernel_rfl
open Go.RowKit
def awTold : Told:=[aw_a,aw_b,aw_c,aw_d,aw_e,aw_f]
theorem cs5 : @aj2 cfgA Tryz.prog 300 F.ag5 [.list .no 1 [[.lit (.int .i64 1)],[.lit (.int .i64 5)],[.lit (.int .i64 1)],[.lit (.int .i64 2)],[.lit (.int .i64 2)],[.lit (.int .i64 5)]],.list .no 1 [[.lit (.int .i64 1)],[.lit (.int .i64 5)],[.lit (.int .i64 1)],[.lit (.int .i64 2)],[.lit (.int .i64 2)],[.lit (.int .i64 5)]]] .bare = some (.ret (.lit (.bool true)),none):=by kernel_rfl
def aw_s : Nat × List AV × AV:=(F.ag5,[.list .no 1 [[.lit (.int .i64 1)],[.lit (.int .i64 5)],[.lit (.int .i64 1)],[.lit (.int .i64 2)],[.lit (.int .i64 2)],[.lit (.int .i64 5)]],.list .no 1 [[.lit (.int .i64 1)],[.lit (.int .i64 5)],[.lit (.int .i64 1)],[.lit (.int .i64 2)],[.lit (.int .i64 2)],[.lit (.int .i64 5)]]],.lit (.bool true))
theorem awake8_w : @cA1 cfgA Tryz.prog (toldΔ (aw_s :: awTold)) 300 F.ai3 [] .bare = some (.ret (.lit (.bool true)),none):=by kernel_rfl
theorem cr7 : @aj2 cfgA Tryz.prog 301 F.ai3 [] .bare = some (.ret (.lit (.bool true)),none) :=
 @cH5 cfgA _ _ _ (told_le fun e he=>by
  simp only [awTold,List.mem_cons,List.not_mem_nil,or_false] at he
  rcases he with rfl | rfl | rfl | rfl | rfl | rfl | rfl
  ·exact cs5
  ·exact awk8_a
  ·exact awk8_b
  ·exact awk8_c
  ·exact awk8_d
  ·exact awk8_e
  ·exact awk8_f) _ _ _ _ awake8_w
open Go.RowKit Go.Shelf
section
variable {P : Program} {ρ : Ren}
set_option maxHeartbeats 1000000 in
set_option maxRecDepth 100000 in
theorem bL9 (L : Lays.n169 P ρ) (X : Builder.Extra P ρ) (b off g cap : Nat) (l : List UInt8) (cur : Array Value) (fr : Nat × Nat) (w : World) (h0 : l ≠ []) (c1 : w.cell? ⟨b,off + 1,none⟩ = some (.slice (some ⟨g,0,none⟩) l.length cap))
  (hg : w.heap[g]? = some (.cells cur (ρ.t 5) fr)) (hnc : l.length ≤ cap) (hlen : l.length ≤ cur.size) (hcm : l.length ≤ maxLen) (hcells : ∀ j x,l[j]? = some x → w.cell? ⟨g,j,none⟩ = some (.int .u8 x.toNat)) :
  Calls P (ρ.f 169) #[.pointer (some ⟨b,off,none⟩)] w fun e w'=>e = .returned (.string ⟨l.toArray⟩) ∧ w' = w.drew.freeze ⟨g,0,none⟩ l.length:=by
 have hl0 : l.length ≠ 0:=by simpa using h0
 have c1 : w.drew.cell? ⟨b,off + 1,none⟩ = some (.slice (some ⟨g,0,none⟩) l.length cap):=c1
 have hSD : (Builtin.unsafeSliceData_ #[(ρ.t 37)] (ρ.t 127) #[.slice (some ⟨g,0,none⟩) l.length cap]).run P w.drew = .ok (.pointer (some ⟨g,0,none⟩)) w.drew :=
  Lib.run_unsafeSliceData_row _ _ _ _ _ _ (by omega)
 have hUS : (Builtin.unsafeString_ #[(ρ.t 127),(ρ.t 3)] (ρ.t 9) #[.pointer (some ⟨g,0,none⟩),.int .i64 l.length]).run P w.drew = .ok (.string ⟨l.toArray⟩) (w.drew.freeze ⟨g,0,none⟩ l.length):=by
  refine Lib.run_unsafeString_row w.drew (ρ.t 127) (ρ.t 3) (ρ.t 9) (ρ.t 5) L.t127 X.cellsByte g cur.size (by have hg' : w.drew.heap[g]? = some (.cells cur (ρ.t 5) fr):=hg; simp [World.shape?,hg']) l h0 (by omega) (by unfold maxLen at hcm; omega) ?_
  intro j x hx
  have:=hcells j x hx
  simp only [Addr.add]
  split
  ·rename_i hj; subst hj; exact this
  ·simpa using this
 have mixed:=L.mixed
 have t72:=L.t72; have a72:=L.a72; have z72:=L.z72; have v72:=L.v72; have u72:=run_underlying L.t72
 have t70:=L.t70; have a70:=L.a70; have z70:=L.z70; have v70:=L.v70; have u70:=run_underlying L.t70
 have t37:=L.t37; have a37:=L.a37; have z37:=L.z37; have v37:=L.v37; have u37:=run_underlying L.t37
 have t127:=L.t127; have a127:=L.a127; have z127:=L.z127; have v127:=L.v127; have u127:=run_underlying L.t127
 have t3:=L.t3; have a3:=L.a3; have z3:=L.z3; have v3:=L.v3; have u3:=run_underlying L.t3
 have t9:=L.t9; have a9:=L.a9; have z9:=L.z9; have v9:=L.v9; have u9:=run_underlying L.t9
 have t5:=X.t5; have a5:=X.a5; have z5:=X.z5; have v5:=X.v5; have u5:=run_underlying X.t5
 go_enter L.f169,Body.n169_ntmps ρ
 go_wp2
 go_region_o
 all_goals (go_wp2; go_ret; exact ⟨rfl,rfl⟩)
set_option maxHeartbeats 1000000 in
set_option maxRecDepth 100000 in
theorem bp3 (L : Lays.n169 P ρ) (X : Builder.Extra P ρ) (b off : Nat) (w : World) (c1 : w.cell? ⟨b,off + 1,none⟩ = some (.slice none 0 0)) :
  Calls P (ρ.f 169) #[.pointer (some ⟨b,off,none⟩)] w fun e w'=>e = .returned (.string ⟨#[]⟩) ∧ w' = w.drew:=by
 have hUS:=Any.unsafeString_none L X
 have c1 : w.drew.cell? ⟨b,off + 1,none⟩ = some (.slice none 0 0):=c1
 have hSD : (Builtin.unsafeSliceData_ #[(ρ.t 37)] (ρ.t 127) #[.slice none 0 0]).run P w.drew = .ok (.pointer none) w.drew:=rfl
 have mixed:=L.mixed
 have t72:=L.t72; have a72:=L.a72; have z72:=L.z72; have v72:=L.v72; have u72:=run_underlying L.t72
 have t70:=L.t70; have a70:=L.a70; have z70:=L.z70; have v70:=L.v70; have u70:=run_underlying L.t70
 have t37:=L.t37; have a37:=L.a37; have z37:=L.z37; have v37:=L.v37; have u37:=run_underlying L.t37
 have t127:=L.t127; have a127:=L.a127; have z127:=L.z127; have v127:=L.v127; have u127:=run_underlying L.t127
 have t3:=L.t3; have a3:=L.a3; have z3:=L.z3; have v3:=L.v3; have u3:=run_underlying L.t3
 have t9:=L.t9; have a9:=L.a9; have z9:=L.z9; have v9:=L.v9; have u9:=run_underlying L.t9
 have t5:=X.t5; have a5:=X.a5; have z5:=X.z5; have v5:=X.v5; have u5:=run_underlying X.t5
 go_enter L.f169,Body.n169_ntmps ρ
 go_wp2
 go_region_o
 all_goals (go_wp2; go_ret; exact ⟨rfl,rfl⟩)
theorem bB5 {G : Gh} {w : World} {b : Nat} {cur : Array Value} {t : TypeId} {fr : Nat × Nat} {n : Nat} (hb : w.heap[b]? = some (.cells cur t fr)) (hn : 0 < n) (hfar : G.far ≤ b) (himm : ∀ o,o < n → ∃ v,G.imm b o = some v) :
  bm0 G w.heap[b]? (w.freeze ⟨b,0,none⟩ n).heap[b]? b:=by
 have hlt : b < w.heap.size:=(Array.getElem?_eq_some_iff.1 hb).1
 have hne : ¬ n = 0:=by omega
 refine ⟨cur,t,fr,if fr.1 == fr.2 then (0,0 + n) else (min fr.1 0,max fr.2 (0 + n)),hb,?_,⟨0,himm 0 hn⟩,hfar,fun o ho=>?_⟩
 ·unfold World.freeze
  rw [if_neg hne]
  simp only [Array.getElem?_modify,if_true,hb,Option.map_some]
 ·have ho' : o < n ∨ o < fr.2:=by
   split at ho
   ·exact .inl (by simpa using ho)
   ·simp only at ho; omega
  rcases ho' with h | h
  ·exact .inr ⟨o,(himm o h).choose,Nat.le_refl _,(himm o h).choose_spec⟩
  ·exact .inl h
theorem bI8 [Cfg] (L : Lays.n169 P ρ) (X : Builder.Extra P ρ) {args : List AV} {S : AS} {x : AE} {r : Upd} (h : aF9 (ρ.t 5) args S = some (x,r)) {G : Gh} {w : World} {B : Nat → Nat} {args' : List Value} (hW : WRel G S w B) (ha : CRel G args args') :
  Calls P (ρ.f 169) args'.toArray w fun e w'=>∃ G',AE.rel G' x e ∧ WRel G' (S.after r) w' B ∧ Mod G S w G' (S.after r) w':=by
 unfold aF9 at h
 split at h
 case h_2=>cases h
 rename_i p g n off
 obtain ⟨v,hv,hr⟩ : ∃ v,args' = [v] ∧ VRel G (.ptr p g n off) v:=by
  cases args' with
  | nil=>exact absurd ha.1 (by simp)
  | cons v t=>cases t with
   | nil=>exact ⟨v,rfl,ha.head⟩
   | cons _ _=>exact absurd ha.1 (by simp)
 subst hv
 split at h
 ·rename_i a q hh es rest hread
  split at h
  case h_2=>cases h
  rename_i h' m e hq
  split at h
  case isFalse=>cases h
  rename_i hc
  obtain ⟨rfl,rfl,rfl,hne,hml⟩:=hc
  obtain ⟨l,hl,hx⟩:=Option.map_eq_some_iff.1 h
  cases hx
  have hes:=bx6 hl
  subst hes
  obtain ⟨b,off',vs,rfl,hcr,hcell⟩:=aM6 hW hread hr
  obtain ⟨u,hu,hvr⟩:=hcr.get (i:=1) (a:=.list (.own q h') 1 (u8s l)) rfl
  have hc1:=hcell 1 u hu
  have hlen : (u8s l).length = l.length:=by simp [u8s]
  cases hvr with
  | list _ _ _ gb o cap val hn hm hsz h1 h2 hs =>
   obtain ⟨rfl,hown⟩:=hs
   obtain ⟨k1,vs2,fr,k2,k3,k4,k5⟩:=hW.slot q _ hq rfl gb cap hown
   have hpos : 0 < l.length:=by rw [hlen] at hne; omega
   have himm : ∀ j x,l[j]? = some x → G.imm gb j = some (.int .u8 x.toNat):=fun j x hx=>by
    have hj : j < l.length:=(List.getElem?_eq_some_iff.1 hx).1
    have e1:=h1 j 0 (by omega) (by omega)
    have e2:=h2 j 0 [.lit (.int .u8 x.toNat)] (.lit (.int .u8 x.toNat)) (by simp [u8s,hx]) rfl
    rw [e2.al0] at e1
    simpa using e1
   have hcells : ∀ j x,l[j]? = some x → w.cell? ⟨gb,j,none⟩ = some (.int .u8 x.toNat):=fun j x hx=>hW.imm _ _ _ (himm j x hx)
   have hbase:=hW.base _ _ _ _ _ hown
   have hql:=(hW.dom _ _ _ _ hown).1
   rw [hlen] at hc1 hn k4
   have hnb:=hc1
   refine (bL9 L X b off' gb cap l vs2 fr w (by intro e; subst e; simp at hpos) (by simpa using hc1) k2 hn (by rw [k3]; omega) (by omega) hcells).mono ?_
   rintro e w' ⟨rfl,rfl⟩
   have hfz : bm0 G w.drew.heap[gb]? (w.drew.freeze ⟨gb,0,none⟩ l.length).heap[gb]? gb:=bB5 (w:=w.drew) k2 hpos (Nat.le_trans hW.far.1 (Nat.le_trans (hW.mono 0 q.l (Nat.zero_le _) hql) hbase.1)) fun o ho =>
    ⟨_,himm o l[o] (List.getElem?_eq_getElem ho)⟩
   have hne : ¬ l.length = 0:=by omega
   obtain ⟨m1,m2⟩:=hW.drew.froze hfz (fun x hx=>by unfold World.freeze; rw [if_neg hne]; simp only [Array.getElem?_modify]; rw [if_neg (Ne.symm hx)]) (by unfold World.freeze; rw [if_neg hne]; simp) (by unfold World.freeze; rw [if_neg hne]) (by unfold World.freeze; rw [if_neg hne]) (by unfold World.freeze; rw [if_neg hne])
   exact ⟨G,⟨_,rfl,.lit _⟩,m1,(Mod.drew G S w).trans m2⟩
 ·rename_i a rest hread
  cases h
  obtain ⟨b,off',vs,rfl,hcr,hcell⟩:=aM6 hW hread hr
  obtain ⟨u,hu,hvr⟩:=hcr.get (i:=1) (a:=.lit (.slice none 0 0)) rfl
  have hc1:=hcell 1 u hu
  rw [hvr.al0] at hc1
  refine (bp3 L X b off' w (by simpa using hc1)).mono ?_
  rintro e w' ⟨rfl,rfl⟩
  exact ⟨G,⟨_,rfl,.lit _⟩,hW.drew,Mod.drew G S w⟩
 ·cases h
end
open Go.RowKit
mutual
theorem ar9 {l : Nat} : ∀ {a : AV},a.closed = true → AV.deep l a = []
 | .lit _,_=>rfl
 | .agg cs,h=>by simp only [AV.closed] at h; simp only [AV.deep]; exact aw8 h
 | .tup cs,h=>by simp only [AV.closed] at h; simp only [AV.deep]; exact aw8 h
 | .cref cs,h=>by simp only [AV.closed] at h; simp only [AV.deep]; exact aw8 h
 | .fn _ cs,h=>by simp only [AV.closed] at h; simp only [AV.deep]; exact aw8 h
 | .iface _ x,h=>by simp only [AV.closed] at h; simp only [AV.deep]; exact ar9 h
 | .list sp _ es,h=>by
  simp only [AV.closed,Bool.and_eq_true] at h
  simp only [AV.deep,au0 h.2,List.append_nil]
  cases sp with
  | own p g=>cases h.1
  | _=>rfl
 | .ptr ..,h=>by cases h
 | .row ..,h=>by cases h
 | .mref ..,h=>by cases h
theorem aw8 {l : Nat} : ∀ {a : List AV},AV.ac4 a = true → AV.am4 l a = []
 | [],_=>rfl
 | a :: r,h=>by
  simp only [AV.ac4,Bool.and_eq_true] at h
  simp only [AV.am4,ar9 h.1,aw8 h.2,List.append_nil]
theorem au0 {l : Nat} : ∀ {a : List (List AV)},AV.ah3 a = true → AV.cq5 l a = []
 | [],_=>rfl
 | a :: r,h=>by
  simp only [AV.ah3,Bool.and_eq_true] at h
  simp only [AV.cq5,aw8 h.1,au0 h.2,List.append_nil]
end
mutual
theorem bu2 {l : Nat} {S : AS} {N : Names} : ∀ {a : AV},a.closed = true → ren l S N a = some a
 | .lit _,_=>by simp only [ren]
 | .agg cs,h=>by simp only [AV.closed] at h; simp only [ren,aA7 h,Option.map_some]
 | .tup cs,h=>by simp only [AV.closed] at h; simp only [ren,aA7 h,Option.map_some]
 | .cref cs,h=>by simp only [AV.closed] at h; simp only [ren,aA7 h,Option.map_some]
 | .fn _ cs,h=>by simp only [AV.closed] at h; simp only [ren,aA7 h,Option.map_some]
 | .iface _ x,h=>by simp only [AV.closed] at h; simp only [ren,bu2 h,Option.map_some]
 | .list sp _ es,h=>by
  simp only [AV.closed,Bool.and_eq_true] at h
  simp only [ren,aG2 h.2,Option.map_some]
  cases sp with
  | own p g=>cases h.1
  | _=>rfl
 | .ptr ..,h=>by cases h
 | .row ..,h=>by cases h
 | .mref ..,h=>by cases h
theorem aA7 {l : Nat} {S : AS} {N : Names} : ∀ {a : List AV},AV.ac4 a = true → renL l S N a = some a
 | [],_=>by simp only [renL]
 | a :: r,h=>by
  simp only [AV.ac4,Bool.and_eq_true] at h
  simp only [renL,bu2 h.1,aA7 h.2]
theorem aG2 {l : Nat} {S : AS} {N : Names} : ∀ {a : List (List AV)},AV.ah3 a = true → bB3 l S N a = some a
 | [],_=>by simp only [bB3]
 | a :: r,h=>by
  simp only [AV.ah3,Bool.and_eq_true] at h
  simp only [bB3,aA7 h.1,aG2 h.2]
end
theorem before_trans {a b c : Loc} (h : a.before b = true) (h' : b.before c = true) : a.before c = true:=by
 simp only [Loc.before,Bool.or_eq_true,Bool.and_eq_true,decide_eq_true_eq] at *
 omega
theorem cs6 {a b : Loc} (h : a ≠ b) (h' : ¬ a.before b = true) : b.before a = true:=by
 have hne : ¬ (a.l = b.l ∧ a.k = b.k ∧ a.i = b.i):=fun ⟨h1,h2,h3⟩=>h (by cases a; cases b; simp only at h1 h2 h3; subst h1; subst h2; subst h3; rfl)
 simp only [Loc.before,Bool.or_eq_true,Bool.and_eq_true,decide_eq_true_eq] at *
 omega
theorem cx3 {a : Loc} : ¬ a.before a = true:=by
 simp only [Loc.before,Bool.or_eq_true,Bool.and_eq_true,decide_eq_true_eq]
 omega
abbrev ay4 (l : List Loc) : Prop:=l.Pairwise fun a b=>a.before b = true
theorem ay4.put : ∀ {l : List Loc} {p : Loc},ay4 l → ay4 (ap9 l p)
 | [],p,_=>by simp [ap9,ay4]
 | q :: r,p,h=>by
  unfold ap9
  split
  ·exact h
  ·rename_i hne
   have h:=List.pairwise_cons.1 h
   split
   ·rename_i hb
    refine List.pairwise_cons.2 ⟨fun x hx=>?_,ay4.put h.2⟩
    rcases ae5.1 hx with hx | rfl
    ·exact h.1 x hx
    ·exact hb
   ·rename_i hb
    have hpq:=cs6 hne hb
    refine List.pairwise_cons.2 ⟨fun x hx=>?_,List.pairwise_cons.2 h⟩
    rcases List.mem_cons.1 hx with rfl | hx
    ·exact hpq
    ·exact before_trans hpq (h.1 x hx)
theorem ay4.merge : ∀ {m l : List Loc},ay4 l → ay4 (aH7 l m)
 | [],l,h=>h
 | p :: r,l,h=>ay4.merge (m:=r) h.put
theorem ay4.nodup {l : List Loc} (h : ay4 l) : l.Nodup:=List.Pairwise.imp (R:=fun a b=>a.before b = true) (S:=fun a b=>a ≠ b) (fun {a b} hab e=>by subst e; exact cx3 hab) h
theorem aW1 (l : Nat) : ∀ t : Tab,1 ≤ aG8 l t
 | []=>Nat.le_refl _
 | (q,s) :: r=>by
  unfold aG8
  split
  ·exact Nat.le_trans (aW1 l r) (Nat.le_max_right ..)
  ·exact aW1 l r
theorem aE0 {l : Nat} : ∀ {t : Tab} {j : Nat},aG8 l (t.cut l) ≤ j → t.get ⟨l,0,j⟩ = none
 | [],j,_=>rfl
 | (q,s) :: r,j,h=>by
  unfold Tab.cut at h
  unfold Tab.get
  split at h
  ·rename_i hq
   unfold aG8 at h
   split at h
   ·rw [if_neg (fun e=>by subst e; simp only at h; omega)]
    exact aE0 (by omega)
   ·rename_i hk
    rw [if_neg (fun e=>hk (by subst e; exact ⟨rfl,rfl⟩))]
    exact aE0 h
  ·rename_i hq
   rw [if_neg (fun e=>hq (by subst e; exact Nat.le_refl _))]
   exact aE0 h
theorem bj5 {l : Nat} : ∀ {D : List Loc} {j : Nat} {p q : Loc} {g : Nat},(p,q,g) ∈ aC7 l j D → p ∈ D ∧ g = 0 ∧ ∃ i,j ≤ i ∧ q = ⟨l,0,i⟩
 | [],_,_,_,_,h=>by cases h
 | d :: r,j,p,q,g,h=>by
  unfold aC7 at h
  rcases List.mem_cons.1 h with h | h
  ·cases h
   exact ⟨List.mem_cons_self ..,rfl,j,Nat.le_refl _,rfl⟩
  ·obtain ⟨h1,h2,i,h3,h4⟩:=bj5 h
   exact ⟨List.mem_cons_of_mem _ h1,h2,i,by omega,h4⟩
theorem bG7 {l : Nat} : ∀ {D : List Loc} {j : Nat},(aC7 l j D).map (·.1) = D
 | [],_=>rfl
 | d :: r,j=>by simp [aC7,bG7]
theorem bF7 : ∀ {l : List Loc},l.Nodup → nodupB l = true
 | [],_=>rfl
 | p :: r,h=>by
  have h:=List.nodup_cons.1 h
  unfold nodupB
  rw [bF7 h.2,Bool.and_true,Bool.not_eq_true']
  cases hc : r.contains p with
  | false=>rfl
  | true=>exact absurd (List.contains_iff_mem.1 hc) h.1
theorem bC0 {l : Nat} : ∀ {D : List Loc} {j : Nat},((aC7 l j D).map (·.2.1)).Nodup
 | [],_=>by simp [aC7]
 | d :: r,j=>by
  simp only [aC7,List.map_cons]
  refine List.nodup_cons.2 ⟨fun h=>?_,bC0⟩
  obtain ⟨⟨p,q,g⟩,h1,h2⟩:=List.mem_map.1 h
  obtain ⟨_,_,i,h3,h4⟩:=bj5 h1
  simp only at h2
  rw [h4] at h2
  have:=(Loc.mk.inj h2).2.2
  omega
theorem Names.get_of {N : Names} : ∀ {p : Loc},p ∈ N.map (·.1) → ∃ q g,N.get p = some (q,g):=by
 induction N with
 | nil=>intro p h; cases h
 | cons x r ih =>
  obtain ⟨a,b,c⟩:=x
  intro p h
  unfold Names.get
  by_cases e : a = p
  ·exact ⟨b,c,if_pos e⟩
  ·rw [if_neg e]
   simp only [List.map_cons,List.mem_cons] at h
   exact ih (h.resolve_left fun h=>e h.symm)
theorem bx7 {f : Loc → ab3 → Option ab3} {S' : AS} : ∀ {ps : List Loc} {t : Tab},(∀ p ∈ ps,∃ s s',S'.get p = some s ∧ f p s = some s') → ∃ t',ax8 f S' ps t = some t'
 | [],t,_=>⟨t,rfl⟩
 | p :: r,t,h=>by
  obtain ⟨s,s',h1,h2⟩:=h p (List.mem_cons_self ..)
  unfold ax8
  simp only [h1,h2]
  exact bx7 fun x hx=>h x (List.mem_cons_of_mem _ hx)
open Go.RowKit
def Gh.start (w : World) : Gh:={ own:=fun _ _ _=>none,imm:=fun b o=>w.cell? ⟨b,o,none⟩,far:=w.heap.size }
theorem WRel.start [Cfg] (w : World) (ht : ∀ x ∈ Cfg.tabs,∃ v,w.cell? ⟨x.1,x.2.1,none⟩ = some v ∧ x.2.2 v) : WRel (Gh.start w) .bare w (fun _=>w.heap.size):=by
 refine ⟨fun _ _ _ h=>h,fun p s hp=>?_,fun p s hp=>?_,fun p q s t hp=>?_,fun p g n x ho=>?_,fun p g n b c ho=>?_,fun l m _ _=>Nat.le_refl _,fun l _=>Nat.le_refl _,Nat.le_refl _,ht⟩
 ·cases hp
 ·cases hp
 ·cases hp
 ·cases ho
 ·cases ho
theorem Mod.below {w w' : World} {G' : Gh} {S' : AS} (h : Mod (Gh.start w) .bare w G' S' w') (hl : S'.log = []) : Below w.heap.size w w':=by
 obtain ⟨nl,k1,k2,_,_⟩:=h.log
 refine ⟨h.os,h.tape,h.output,h.size,fun b hb=>?_⟩
 have hno : ∀ p,¬ nl p:=fun p hp=>by
  have:=(k1 p).2 (.inr hp)
  rw [hl] at this
  cases this
 rcases k2 b hb with e | ⟨_,_,_,_,_,_,_,hf,_⟩ | ⟨p,hp,_⟩
 ·exact e
 ·rw [h.le.far] at hf
  have : w.heap.size ≤ b:=hf
  omega
 ·exact absurd hp (hno p)
theorem cw6 [Cfg] {P : Program} (hC : bp6 P) (hG : bl0 P) (hm : P.follows .mixedOrders = true) {f : FuncId} {args : List AV} (h : ah6 P f args .bare = some (.ret (.lit (.bool true)),none)) {W : World} {args' : Array Value} (ht : ∀ x ∈ Cfg.tabs,∃ v,W.cell? ⟨x.1,x.2.1,none⟩ = some v ∧ x.2.2 v)
  (ha : CRel (Gh.start W) args args'.toList) : Calls P f args' W fun e W'=>e = .returned (.bool true) ∧ Below W.heap.size W W':=by
 have:=(ck8 hC hG hm f args .bare _ _ h).2 (Gh.start W) W _ args'.toList (WRel.start W ht) ha
 refine this.mono fun e W' ⟨G',h1,h2,h3⟩=>⟨?_,h3.below rfl⟩
 obtain ⟨v,rfl,hv⟩:=h1
 rw [hv.al0]
end Go.Proofs.YtdcfkmgnkhkoeaaGreatDoor
