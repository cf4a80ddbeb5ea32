/-
  A part of the proof: packed by a program.
-/
import Derived.Test.YtbinfgmdamlkbaaGreatDoorQP3
import Derived.MapKept
import Derived.Test.YtbinfgmdamlkbaaGreatDoorProg
import Derived.KernelRfl
import Derived.ProofKit
import Derived.OpenShut
import Derived.Test.YtbinfgmdamlkbaaGreatDoorCards
import Derived.Test.YtbinfgmdamlkbaaGreatDoorTie
import Derived.Deep.DeepHandedRow
import Derived.Lib.LaidTab
import Derived.SizedLaws
set_option maxRecDepth 100000
set_option maxHeartbeats 4000000
set_option linter.unusedVariables false
set_option linter.unusedSimpArgs false
namespace Go.Proofs.YtbinfgmdamlkbaaGreatDoor
open Go.RowKit
theorem It.there {S : AS} {L : Nat} {it : It} (h : it.ok S L) : ∀ q ∈ it.foot,(∃ s,S.get q = some s) ∧ Pl L it.keys q:=by
 cases it with
 | own u ks o a F =>
  intro q hq
  obtain ⟨_,_,h3⟩:=AtO.reg (l:=0) (.inl (Nat.le_refl _)) h.1
  obtain ⟨s,h4,_⟩:=h3 q hq
  exact ⟨⟨s,h4⟩,h.2 q hq⟩
 | cel u ks p g t cs =>
  intro q hq
  rw [List.mem_singleton.1 hq]
  exact ⟨⟨_,h.1⟩,h.2.1⟩
 | jnk u ks J =>
  intro q hq
  obtain ⟨s,h4,_⟩:=h.1 q hq
  exact ⟨⟨s,h4⟩,h.2 q hq⟩
 | _=>intro q hq; cases hq
def okO (K : List Nat) : It → Bool
 | .obj k _ _ _=>!K.contains k
 | .tok ks _ _ _=>ks.all fun k=>!K.contains k
 | .bld _ _ _ _ _=>false
 | _=>true
theorem It.stay {S S' : AS} {L : Nat} {K : List Nat} {it : It} (h : it.ok S L) (ho : okO K it = true) (hF : ∀ q ∈ it.foot,S'.get q = S.get q) (hk : ∀ k,K.contains k = false → S'.get ⟨L,k,0⟩ = S.get ⟨L,k,0⟩) : it.ok S' L:=by
 cases it with
 | obj k g t cs =>
  simp only [okO,Bool.not_eq_true'] at ho
  show S'.get _ = _
  rw [hk k ho]; exact h
 | tok ks n e x =>
  simp only [okO,List.all_eq_true,Bool.not_eq_true'] at ho
  rcases h with h | h | ⟨p,g,es,h1,h2,h3,h4,h5⟩
  ·exact .inl h
  ·exact .inr (.inl h)
  ·refine .inr (.inr ⟨p,g,es,h1,?_,h3,h4,h5⟩)
   have e : p = ⟨L,p.k,0⟩:=by cases p; simp only at h3 h4; rw [h3,h4]
   rw [e,hk _ (ho _ h5),← e]
   exact h2
 | bld=>cases ho
 | own u ks o a F=>exact ⟨h.1.local hF,h.2⟩
 | cel u ks p g t cs=>exact ⟨by rw [hF p (List.mem_singleton.2 rfl)]; exact h.1,h.2⟩
 | jnk u ks J=>exact ⟨h.1.local hF,h.2⟩
def OA.given : OA → Bool
 | .r _=>true
 | .o _=>true
 | _=>false
theorem cT0 {os : List OA} (h : os.all OA.given = true) : os.all OA.keep = true:=by
 rw [List.all_eq_true] at h ⊢
 intro o ho
 have:=h o ho
 cases o <;> first | rfl | cases this
def InI : List OA → List AV → List Loc → List It → Prop
 | [],l,F,A=>l = [] ∧ F = [] ∧ A = []
 | .x :: _,_,_,_=>False
 | .ag _ :: _,_,_,_=>False
 | .r v :: r,l,F,A=>∃ a t,l = a :: t ∧ v.C a ∧ InI r t F A
 | .o v :: r,l,F,A=>∃ a t F1 F2 A',l = a :: t ∧ F = F1 ++ F2 ∧ A = .own true [] v a F1 :: A' ∧ InI r t F2 A'
theorem InI.of {S : AS} : ∀ {ins : List OA} {l : List AV} {F : List Loc},AtAs S ins l F → ins.all OA.given = true → ∃ A,InI ins l F A ∧ A.flatMap It.foot = F ∧ (∀ it ∈ A,it.up = true) ∧ ∀ S' L,(∀ q,S'.get q = S.get q) → (∀ q ∈ F,q.l < L) → ∀ it ∈ A,it.ok S' L
 | [],l,F,h,_=>by
  obtain ⟨rfl,rfl⟩:=h
  exact ⟨[],⟨rfl,rfl,rfl⟩,rfl,fun _ h=>(nomatch h),fun _ _ _ _ _ h=>(nomatch h)⟩
 | o :: r,l,F,h,hk=>by
  obtain ⟨a,t,F1,F2,rfl,rfl,h2,h3⟩:=h
  simp only [List.all_cons,Bool.and_eq_true] at hk
  obtain ⟨A,k1,k2,k3,k4⟩:=InI.of h3 hk.2
  cases o with
  | x=>cases hk.1
  | ag os=>cases hk.1
  | r v =>
   obtain ⟨h2,rfl⟩:=h2
   exact ⟨A,⟨a,t,rfl,h2,k1⟩,k2,k3,k4⟩
  | o v =>
   refine ⟨.own true [] v a F1 :: A,⟨a,t,F1,F2,A,rfl,rfl,rfl,k1⟩,by rw [List.flatMap_cons,k2]; rfl,fun it hi=>?_,fun S' L hg hl it hi=>?_⟩
   ·rcases List.mem_cons.1 hi with rfl | hi
    ·rfl
    ·exact k3 it hi
   ·rcases List.mem_cons.1 hi with rfl | hi
    ·exact ⟨AtO.local h2 fun q _=>hg q,fun q hq=>.inl (hl q (List.mem_append.2 (.inl hq)))⟩
    ·exact k4 S' L hg (fun q hq=>hl q (List.mem_append.2 (.inr hq))) it hi
def OutI : List OA → List AV → List It → Prop
 | [],l,A=>l = [] ∧ A = []
 | .r v :: r,a :: t,A=>v.C a ∧ OutI r t A
 | .o v :: r,a :: t,.own _ _ v' a' _ :: A=>v = v' ∧ a = a' ∧ OutI r t A
 | .x :: r,_ :: t,A=>OutI r t A
 | _,_,_=>False
theorem OutI.at {S : AS} {L : Nat} : ∀ {outs : List OA} {l : List AV} {A : List It},OutI outs l A → (∀ it ∈ A,it.ok S L) → AtAs S outs l (A.flatMap It.foot)
 | [],l,A,h,_=>by
  unfold OutI at h
  obtain ⟨rfl,rfl⟩:=h
  exact ⟨rfl,rfl⟩
 | .r v :: r,[],A,h,_=>by unfold OutI at h; exact h.elim
 | .r v :: r,a :: t,A,h,hA=>by
  unfold OutI at h
  exact ⟨a,t,[],_,rfl,rfl,⟨h.1,rfl⟩,h.2.at hA⟩
 | .x :: r,[],A,h,_=>by unfold OutI at h; exact h.elim
 | .x :: r,a :: t,A,h,hA=>by
  unfold OutI at h
  exact ⟨a,t,[],_,rfl,rfl,rfl,OutI.at h hA⟩
 | .ag os :: r,l,A,h,_=>by unfold OutI at h; exact h.elim
 | .o v :: r,[],A,h,_=>by unfold OutI at h; exact h.elim
 | .o v :: r,a :: t,[],h,_=>by unfold OutI at h; exact h.elim
 | .o v :: r,a :: t,it :: A,h,hA=>by
  cases it with
  | own u ks v' a' F =>
   unfold OutI at h
   obtain ⟨rfl,rfl,h2⟩:=h
   exact ⟨a,t,F,_,rfl,rfl,(hA _ (List.mem_cons_self ..)).1,h2.at fun it hi=>hA it (List.mem_cons_of_mem _ hi)⟩
  | _=>unfold OutI at h; exact h.elim
def celAt (A : List It) (i : Nat) (p : Loc) (g : Nat) (cs : List AV) : Prop:=∃ u ks t,A[i]? = some (.cel u ks p g t cs)
def AgO : List OV → List AV → List It → Prop
 | [],cs,A=>cs = [] ∧ A = []
 | o :: r,cs,A=>∃ a t,cs = a :: t ∧ ((∃ v,o = .c v ∧ RelC v a ∧ AgO r t A) ∨ ∃ u ks F A',A = .own u ks o a F :: A' ∧ AgO r t A')
theorem AgO.at {S : AS} {L : Nat} : ∀ {os : List OV} {cs : List AV} {A : List It} {i : Nat},AgO os cs A → (∀ it ∈ A,it.ok S L) → os.all OV.sel = true → AtL S bF9 0 i os cs (A.flatMap It.foot)
 | [],cs,A,i,h,_,_=>by
  unfold AgO at h
  obtain ⟨rfl,rfl⟩:=h
  unfold AtL
  exact ⟨rfl,rfl⟩
 | o :: r,cs,A,i,h,hA,hs=>by
  simp only [List.all_cons,Bool.and_eq_true] at hs
  unfold AgO at h
  obtain ⟨a,t,rfl,⟨v,rfl,h1,h2⟩ | ⟨u,ks,F,A',rfl,h2⟩⟩:=h
  ·unfold AtL
   exact ⟨a,t,[],_,rfl,rfl,by unfold AtO; exact ⟨h1,rfl⟩,h2.at hA hs.2⟩
  ·unfold AtL
   have h0:=(hA _ (List.mem_cons_self ..)).1
   exact ⟨a,t,F,_,rfl,rfl,AtO.place h0 hs.1,h2.at (fun it hi=>hA it (List.mem_cons_of_mem _ hi)) hs.2⟩
inductive ResI (A : List It) (E : Env) : List BR → List OA → List AV → List It → Prop
 | nil : ResI A E [] [] [] []
 | tr {n : Nat} {a : AV} {v : RV} {b : List BR} {r : List OA} {t : List AV} {N : List It} (hx : look E n = some a) (hv : v.C a) (h : ResI A E b r t N) : ResI A E (.t n :: b) (.r v :: r) (a :: t) N
 | l7 {n : Nat} {a : AV} {v : OV} {u : Bool} {ks : List Nat} {F : List Loc} {b : List BR} {r : List OA} {t : List AV} {N : List It} (hx : look E n = some a) (h : ResI A E b r t N) : ResI A E (.t n :: b) (.o v :: r) (a :: t) (.own u ks v a F :: N)
 | ta {n : Nat} {cs : List AV} {os : List OV} {b : List BR} {r : List OA} {t : List AV} {N1 N : List It} (hx : look E n = some (.agg cs)) (hs : os.all OV.sel = true) (ho : AgO os cs N1) (h : ResI A E b r t N) : ResI A E (.t n :: b) (.ag os :: r) (.agg cs :: t) (N1 ++ N)
 | c1 {n i g : Nat} {p : Loc} {cs : List AV} {a : AV} {v : RV} {b : List BR} {r : List OA} {t : List AV} {N : List It} (hx : look E n = some (.ptr p g 0 0)) (hA : celAt A i p g cs) (hc : cs[0]? = some a) (hv : v.C a) (h : ResI A E b r t N) : ResI A E (.c1 n :: b) (.r v :: r) (a :: t) N
 | cn {n m i g : Nat} {p : Loc} {cs : List AV} {M : List V} {b : List BR} {r : List OA} {t : List AV} {N : List It} (hx : look E n = some (.ptr p g 0 0)) (hA : celAt A i p g cs) (hM : ab7 M cs) (hm : M.length = m) (h : ResI A E b r t N) : ResI A E (.cn n m :: b) (.r (.agg M) :: r) (.agg cs :: t) N
theorem ResI.at {A0 : List It} {E : Env} {T : BT} {S : AS} {L : Nat} (hT : Ag E T) (h0 : ∀ it ∈ A0,it.ok S L) {br : List BR} {res : List OA} {l : List AV} {A : List It} (h : ResI A0 E br res l A) : (∀ it ∈ A,it.ok S L) → aT1 S T br = some l ∧ AtAs S res l (A.flatMap It.foot):=by
 induction h with
 | nil=>exact fun _=>⟨rfl,rfl,rfl⟩
 | @tr n a v b r t N hx hv h ih =>
  intro hA
  obtain ⟨k1,k2⟩:=ih hA
  refine ⟨?_,a,t,[],_,rfl,rfl,⟨hv,rfl⟩,k2⟩
  rw [ar6,k1,cb9,hT n a hx]
  rfl
 | @l7 n a v u ks F b r t N hx h ih =>
  intro hA
  obtain ⟨k1,k2⟩:=ih fun it hi=>hA it (List.mem_cons_of_mem _ hi)
  refine ⟨?_,a,t,F,_,rfl,rfl,(hA _ (List.mem_cons_self ..)).1,k2⟩
  rw [ar6,k1,cb9,hT n a hx]
  rfl
 | @ta n cs os b r t N1 N hx hs ho h ih =>
  intro hA
  obtain ⟨k1,k2⟩:=ih fun it hi=>hA it (List.mem_append.2 (.inr hi))
  refine ⟨?_,_,t,N1.flatMap It.foot,N.flatMap It.foot,rfl,by rw [List.flatMap_append],⟨cs,rfl,ho.at (fun it hi=>hA it (List.mem_append.2 (.inl hi))) hs⟩,k2⟩
  rw [ar6,k1,cb9,hT n _ hx]
  rfl
 | @c1 n i g p cs a v b r t N hx hA0 hc hv h ih =>
  intro hA
  obtain ⟨k1,k2⟩:=ih hA
  obtain ⟨u,ks,ty,hA0⟩:=hA0
  refine ⟨?_,a,t,[],_,rfl,rfl,⟨hv,rfl⟩,k2⟩
  rw [ar6,k1,cg7,hT n _ hx]
  rw [bk9 (h0 _ (List.mem_of_getElem? hA0)).1 hc]
  rfl
 | @cn n m i g p cs M b r t N hx hA0 hM hm h ih =>
  intro hA
  obtain ⟨k1,k2⟩:=ih hA
  obtain ⟨u,ks,ty,hA0⟩:=hA0
  refine ⟨?_,_,t,[],_,rfl,rfl,⟨⟨cs,rfl,hM⟩,rfl⟩,k2⟩
  have hl : cs.length = m:=by rw [ab7.length hM,hm]
  rw [ar6,k1,cf9,hT n _ hx]
  rw [bu0 (h0 _ (List.mem_of_getElem? hA0)).1,if_pos (by simp [hl]),List.drop_zero,List.take_of_length_le (by omega)]
  rfl
def RetO (f : Fr) (L : Nat) (pan : Bool) (args : List AV) (br : List BR) (outs res : List OA) : az3:=fun x T S =>
 (match pan with
  | true=>∃ v,x = .pan v ∧ AtAs S res [v] []
  | false=>x = .ret ∨ x = .normal) ∧ S.dfr = [] ∧ FrOk f S L ∧ ∃ as1 F1 F2 J,(pan = false → aT1 S T br = some as1) ∧ (pan = true → ∃ v,x = .pan v ∧ as1 = [v]) ∧ AtAs S outs args F1 ∧ AtAs S res as1 F2 ∧ aI6 S J ∧ (F1 ++ (F2 ++ J)).Nodup ∧ (∀ q ∈ f.W,q ∈ F1 ++ (F2 ++ J)) ∧ ∀ q ∈ F1 ++ (F2 ++ J),q ∈ f.W ∨ L < q.l
def isJnk : It → Bool
 | .jnk _ _ _=>true
 | _=>false
theorem jnk_at {S : AS} {L : Nat} : ∀ {A : List It},A.all isJnk = true → (∀ it ∈ A,it.ok S L) → aI6 S (A.flatMap It.foot)
 | [],_,_=>fun q hq=>(nomatch hq)
 | it :: r,h,hA=>by
  simp only [List.all_cons,Bool.and_eq_true] at h
  intro q hq
  rw [List.flatMap_cons] at hq
  rcases List.mem_append.1 hq with hq | hq
  ·cases it with
   | jnk u ks J=>exact (hA _ (List.mem_cons_self ..)).1 q hq
   | _=>cases h.1
  ·exact jnk_at h.2 (fun it hi=>hA it (List.mem_cons_of_mem _ hi)) q hq
theorem au0 {A : List It} {q : Loc} (h : q ∈ A.flatMap It.foot) : ∃ it ∈ A,q ∈ it.foot:=List.mem_flatMap.1 h
theorem am2 {x : AX} {f : Fr} {L : Nat} {E : Env} {A A1 A2 A3 B : List It} {args l : List AV} {br : List BR} {outs res : List OA} (hA : A = A1 ++ (A2 ++ (A3 ++ B))) (h1 : OutI outs args A1) (h2 : ResI A E br res l A2) (h3 : A3.all isJnk = true) (hB : (B.all fun it=>!it.up) = true) (hx : x = .ret ∨ x = .normal:=by first | exact .inl rfl | exact .inr rfl) :
  G x L f E A (RetO f L false args br outs res):=by
 intro T S hT hS
 have sub : ∀ it,(it ∈ A1 ∨ it ∈ A2 ∨ it ∈ A3 ∨ it ∈ B) ↔ it ∈ A:=fun it=>by rw [hA]; simp only [List.mem_append]
 have o1:=h1.at fun it hi=>hS.its it ((sub it).1 (.inl hi))
 obtain ⟨o2,o3⟩:=ResI.at hT (fun it hi=>hS.its it hi) h2 fun it hi=>hS.its it ((sub it).1 (.inr (.inl hi)))
 have o4:=jnk_at h3 fun it hi=>hS.its it ((sub it).1 (.inr (.inr (.inl hi))))
 have hflat : A.flatMap It.foot = (A1.flatMap It.foot ++ (A2.flatMap It.foot ++ A3.flatMap It.foot)) ++ B.flatMap It.foot:=by
  rw [hA]; simp only [List.flatMap_append,List.append_assoc]
 have hsep:=hS.reg.sep
 rw [hflat] at hsep
 refine ⟨hx,hS.dfr,hS.out,l,_,_,_,fun _=>o2,fun e=>(nomatch e),o1,o3,o4,(List.nodup_append.1 hsep).1,fun q hq=>?_,fun q hq=>?_⟩
 ·obtain ⟨it,k1,k2,k3⟩:=hS.reg.cov q hq
  rcases (sub it).2 k1 with h | h | h | h
  ·exact List.mem_append.2 (.inl (List.mem_flatMap.2 ⟨it,h,k3⟩))
  ·exact List.mem_append.2 (.inr (List.mem_append.2 (.inl (List.mem_flatMap.2 ⟨it,h,k3⟩))))
  ·exact List.mem_append.2 (.inr (List.mem_append.2 (.inr (List.mem_flatMap.2 ⟨it,h,k3⟩))))
  ·have:=List.all_eq_true.1 hB it h
   rw [k2] at this; cases this
 ·have : q ∈ A.flatMap It.foot:=by rw [hflat]; exact List.mem_append.2 (.inl hq)
  obtain ⟨it,k1,k2⟩:=au0 this
  obtain ⟨_,k4⟩:=It.there (hS.its it k1) q k2
  rcases Nat.lt_or_ge L q.l with h | h
  ·exact .inr h
  ·exact .inl (hS.reg.upr it k1 q k2 h).2
theorem AtAs.length {S : AS} : ∀ {os : List OA} {l : List AV} {F : List Loc},AtAs S os l F → l.length = os.length
 | [],_,_,h=>by rw [h.1]; rfl
 | _ :: r,_,_,h=>by
  obtain ⟨a,t,_,_,rfl,_,_,h⟩:=h
  simp [h.length]
def InC : List OA → List AV → List It → Prop
 | [],l,A=>l = [] ∧ A = []
 | .r v :: r,a :: t,A=>v.C a.ag0 ∧ InC r t A
 | .o v :: r,a :: t,.own _ _ v' a' _ :: A=>v = v' ∧ a = a' ∧ InC r t A
 | _,_,_=>False
def AgI (u : Bool) (K : List Nat) : List OV → List AV → List It → Prop
 | [],cs,A=>cs = [] ∧ A = []
 | .c v :: r,cs,A=>∃ a t,cs = a :: t ∧ RelC v a ∧ AgI u K r t A
 | o :: r,cs,A=>∃ a t F A',cs = a :: t ∧ A = .own u K o a F :: A' ∧ AgI u K r t A'
def OutC (u : Bool) (K : List Nat) : List OA → List AV → List It → Prop
 | [],_,A=>A = []
 | .r _ :: r,_ :: t,A=>OutC u K r t A
 | .x :: r,_ :: t,A=>OutC u K r t A
 | .o v :: r,a :: t,A=>∃ F A',A = .own u K v a F :: A' ∧ OutC u K r t A'
 | _,_,_=>False
def OA.flat : OA → Bool
 | .x=>false
 | .ag os=>os.all OV.sel
 | _=>true
def RsC (u : Bool) (K : List Nat) : List OA → List AV → List It → Prop
 | [],l,A=>l = [] ∧ A = []
 | .r v :: r,l,A=>∃ a t,l = a :: t ∧ v.C a ∧ RsC u K r t A
 | .o v :: r,l,A=>∃ a t F A',l = a :: t ∧ A = .own u K v a F :: A' ∧ RsC u K r t A'
 | .ag os :: r,l,A=>∃ cs t A1 A',l = .agg cs :: t ∧ A = A1 ++ A' ∧ AgI u K os cs A1 ∧ RsC u K r t A'
 | .x :: _,_,_=>False
def RsV (u : Bool) (K : List Nat) : List OA → AV → List It → Prop
 | [.r w],v,A=>w.C v ∧ A = []
 | [.o w],v,A=>∃ F,A = [.own u K w v F]
 | [.ag os],v,A=>∃ cs,v = .agg cs ∧ AgI u K os cs A
 | [.x],_,_=>False
 | res,v,A=>∃ l,v = .tup l ∧ RsC u K res l A
def keysOf (A : List It) : List Nat:=A.flatMap It.keys
def upOf (A : List It) : Bool:=A.any It.up
def nrmO : OA → Bool
 | .o (.ptr _ _)=>true
 | .o (.mp _ _)=>true
 | .o _=>false
 | .r _=>true
 | _=>false
theorem AtO.nrm {S : AS} {p : Loc} {g i : Nat} {o : OV} {a : AV} {F : List Loc} (h : AtO S p g i o a F) (hn : nrmO (.o o) = true) : a.ag0 = a:=by
 cases o with
 | ptr t os =>
  unfold AtO at h
  obtain ⟨_,_,_,_,rfl,_⟩:=h
  rfl
 | mp ks vs =>
  unfold AtO at h
  obtain ⟨_,_,_,_,_,rfl,_⟩:=h
  rfl
 | _=>cases hn
def fitO : List OA → List OA → Bool
 | _,[]=>true
 | .o _ :: r,.o _ :: r'=>fitO r r'
 | _ :: r,.x :: r'=>fitO r r'
 | _,_=>false
theorem InC.at {S : AS} {L : Nat} : ∀ {ins : List OA} {l : List AV} {A : List It},InC ins l A → (∀ it ∈ A,it.ok S L) → ins.all nrmO = true → AtAs S ins (l.map AV.ag0) (A.flatMap It.foot)
 | [],l,A,h,_,_=>by
  unfold InC at h
  obtain ⟨rfl,rfl⟩:=h
  exact ⟨rfl,rfl⟩
 | .x :: r,l,A,h,_,_=>by cases l <;> (unfold InC at h; exact h.elim)
 | .ag os :: r,l,A,h,_,_=>by cases l <;> (unfold InC at h; exact h.elim)
 | .r v :: r,[],A,h,_,_=>by unfold InC at h; exact h.elim
 | .r v :: r,a :: t,A,h,hA,hn=>by
  unfold InC at h
  simp only [List.all_cons,Bool.and_eq_true] at hn
  exact ⟨_,_,[],_,rfl,rfl,⟨h.1,rfl⟩,h.2.at hA hn.2⟩
 | .o v :: r,[],A,h,_,_=>by unfold InC at h; exact h.elim
 | .o v :: r,a :: t,[],h,_,_=>by unfold InC at h; exact h.elim
 | .o v :: r,a :: t,it :: A,h,hA,hn=>by
  simp only [List.all_cons,Bool.and_eq_true] at hn
  cases it with
  | own u ks v' a' F =>
   unfold InC at h
   obtain ⟨rfl,rfl,h2⟩:=h
   have h3:=(hA _ (List.mem_cons_self ..)).1
   exact ⟨_,_,F,_,rfl,rfl,by show AtO _ _ _ _ _ _ _; rw [AtO.nrm h3 hn.1]; exact h3,h2.at (fun it hi=>hA it (List.mem_cons_of_mem _ hi)) hn.2⟩
  | _=>unfold InC at h; exact h.elim
theorem AtAs.unnrm {S S' : AS} {L : Nat} : ∀ {ins outs : List OA} {l : List AV} {A : List It} {F : List Loc},InC ins l A → (∀ it ∈ A,it.ok S L) → ins.all nrmO = true → fitO ins outs = true → AtAs S' outs (l.map AV.ag0) F → AtAs S' outs l F
 | ins,[],l,A,F,_,_,_,_,h=>by
  obtain ⟨h1,rfl⟩:=h
  exact ⟨List.map_eq_nil_iff.1 h1,rfl⟩
 | [],o :: r',l,A,F,_,_,_,hf,_=>by cases o <;> cases hf
 | i :: r,o :: r',[],A,F,_,_,_,_,h=>by
  obtain ⟨a,t,F1,F2,h1,_⟩:=h
  cases h1
 | i :: r,.x :: r',a :: t,A,F,hi,hA,hn,hf,h=>by
  obtain ⟨a',t',F1,F2,h1,rfl,h2,h3⟩:=h
  cases h1
  have hf' : fitO r r' = true:=by cases i <;> exact hf
  simp only [List.all_cons,Bool.and_eq_true] at hn
  cases i with
  | x=>cases hn.1
  | ag os=>cases hn.1
  | r v =>
   unfold InC at hi
   exact ⟨a,t,F1,F2,rfl,rfl,h2,AtAs.unnrm hi.2 hA hn.2 hf' h3⟩
  | o v =>
   cases A with
   | nil=>unfold InC at hi; exact hi.elim
   | cons it A =>
    cases it with
    | own u ks v' a' F' =>
     unfold InC at hi
     exact ⟨a,t,F1,F2,rfl,rfl,h2,AtAs.unnrm hi.2.2 (fun it hi=>hA it (List.mem_cons_of_mem _ hi)) hn.2 hf' h3⟩
    | _=>unfold InC at hi; exact hi.elim
 | .o v :: r,.o v2 :: r',a :: t,A,F,hi,hA,hn,hf,h=>by
  obtain ⟨a',t',F1,F2,h1,rfl,h2,h3⟩:=h
  cases h1
  have hf' : fitO r r' = true:=hf
  simp only [List.all_cons,Bool.and_eq_true] at hn
  cases A with
  | nil=>unfold InC at hi; exact hi.elim
  | cons it A =>
   cases it with
   | own u ks v' a' F' =>
    unfold InC at hi
    obtain ⟨rfl,rfl,hi⟩:=hi
    have e:=AtO.nrm (hA _ (List.mem_cons_self ..)).1 hn.1
    rw [e] at h2
    exact ⟨a,t,F1,F2,rfl,rfl,h2,AtAs.unnrm hi (fun it hi=>hA it (List.mem_cons_of_mem _ hi)) hn.2 hf' h3⟩
   | _=>unfold InC at hi; exact hi.elim
 | .r _ :: _,.o _ :: _,_,_,_,_,_,_,hf,_=>by cases hf
 | .x :: _,.o _ :: _,_,_,_,_,_,_,hf,_=>by cases hf
 | .ag _ :: _,.o _ :: _,_,_,_,_,_,_,hf,_=>by cases hf
 | i :: _,.r _ :: _,_,_,_,_,_,_,hf,_=>by cases i <;> cases hf
 | i :: _,.ag _ :: _,_,_,_,_,_,_,hf,_=>by cases i <;> cases hf
theorem cZ6 : ∀ {ins outs : List OA},fitO ins outs = true → outs.all (fun o=>match o with | .ag _=>false | _=>true) = true
 | _,[],_=>rfl
 | i :: r,.x :: r',h=>by
  have h : fitO r r' = true:=by cases i <;> exact h
  simp only [List.all_cons,cZ6 h,Bool.and_self]
 | .o _ :: r,.o _ :: r',h=>by
  have h : fitO r r' = true:=h
  simp only [List.all_cons,cZ6 h,Bool.and_self]
 | [],o :: _,h=>by cases o <;> cases h
 | .r _ :: _,.o _ :: _,h=>by cases h
 | .x :: _,.o _ :: _,h=>by cases h
 | .ag _ :: _,.o _ :: _,h=>by cases h
 | i :: _,.r _ :: _,h=>by cases i <;> cases h
 | i :: _,.ag _ :: _,h=>by cases i <;> cases h
theorem OutC.of {S : AS} {u : Bool} {K : List Nat} : ∀ {outs : List OA} {l : List AV} {F : List Loc},AtAs S outs l F → outs.all (fun o=>match o with | .ag _=>false | _=>true) = true → ∃ A,OutC u K outs l A ∧ A.flatMap It.foot = F ∧ (∀ it ∈ A,it.up = u ∧ it.keys = K ∧ it.new = true) ∧ ∀ L,(∀ q ∈ F,Pl L K q) → ∀ it ∈ A,it.ok S L
 | [],l,F,h,_=>by
  obtain ⟨rfl,rfl⟩:=h
  exact ⟨[],rfl,rfl,fun _ h=>(nomatch h),fun _ _ _ h=>(nomatch h)⟩
 | o :: r,l,F,h,hk=>by
  obtain ⟨a,t,F1,F2,rfl,rfl,h2,h3⟩:=h
  simp only [List.all_cons,Bool.and_eq_true] at hk
  obtain ⟨A,k1,k2,k3,k4⟩:=OutC.of h3 hk.2
  cases o with
  | ag os=>cases hk.1
  | x =>
   have h2 : F1 = []:=h2
   subst h2
   exact ⟨A,k1,k2,k3,k4⟩
  | r v =>
   obtain ⟨h2,rfl⟩:=h2
   exact ⟨A,k1,k2,k3,k4⟩
  | o v =>
   refine ⟨.own u K v a F1 :: A,⟨F1,A,rfl,k1⟩,by rw [List.flatMap_cons,k2]; rfl,fun it hi=>?_,fun L hl it hi=>?_⟩
   ·rcases List.mem_cons.1 hi with rfl | hi
    ·exact ⟨rfl,rfl,rfl⟩
    ·exact k3 it hi
   ·rcases List.mem_cons.1 hi with rfl | hi
    ·exact ⟨h2,fun q hq=>hl q (List.mem_append.2 (.inl hq))⟩
    ·exact k4 L (fun q hq=>hl q (List.mem_append.2 (.inr hq))) it hi
theorem AgI.of {S : AS} {u : Bool} {K : List Nat} : ∀ {os : List OV} {cs : List AV} {F : List Loc} {i : Nat},AtL S bF9 0 i os cs F → os.all OV.sel = true → ∃ A,AgI u K os cs A ∧ A.flatMap It.foot = F ∧ (∀ it ∈ A,it.up = u ∧ it.keys = K ∧ it.new = true) ∧ ∀ L,(∀ q ∈ F,Pl L K q) → ∀ it ∈ A,it.ok S L
 | [],cs,F,i,h,_=>by
  unfold AtL at h
  obtain ⟨rfl,rfl⟩:=h
  exact ⟨[],⟨rfl,rfl⟩,rfl,fun _ h=>(nomatch h),fun _ _ _ h=>(nomatch h)⟩
 | o :: r,cs,F,i,h,hs=>by
  unfold AtL at h
  obtain ⟨a,t,F1,F2,rfl,rfl,h2,h3⟩:=h
  simp only [List.all_cons,Bool.and_eq_true] at hs
  obtain ⟨A,k1,k2,k3,k4⟩:=AgI.of h3 hs.2
  have gen : ∀ {o : OV},AtO S bF9 0 i o a F1 → o.sel = true → (∀ cs A,(∃ a t F A',cs = a :: t ∧ A = .own u K o a F :: A' ∧ AgI u K r t A') → AgI u K (o :: r) cs A) →
    ∃ A,AgI u K (o :: r) (a :: t) A ∧ A.flatMap It.foot = F1 ++ F2 ∧ (∀ it ∈ A,it.up = u ∧ it.keys = K ∧ it.new = true) ∧ ∀ L,(∀ q ∈ F1 ++ F2,Pl L K q) → ∀ it ∈ A,it.ok S L:=by
   intro o h2 hs hh
   refine ⟨.own u K o a F1 :: A,hh _ _ ⟨a,t,F1,A,rfl,rfl,k1⟩,by rw [List.flatMap_cons,k2]; rfl,fun it hi=>?_,fun L hl it hi=>?_⟩
   ·rcases List.mem_cons.1 hi with rfl | hi
    ·exact ⟨rfl,rfl,rfl⟩
    ·exact k3 it hi
   ·rcases List.mem_cons.1 hi with rfl | hi
    ·exact ⟨AtO.place h2 hs,fun q hq=>hl q (List.mem_append.2 (.inl hq))⟩
    ·exact k4 L (fun q hq=>hl q (List.mem_append.2 (.inr hq))) it hi
  cases o with
  | c v =>
   unfold AtO at h2
   obtain ⟨h2,rfl⟩:=h2
   exact ⟨A,⟨a,t,rfl,h2,k1⟩,k2,k3,k4⟩
  | self=>cases hs.1
  | _=>exact gen h2 rfl fun _ _ h=>h
theorem RsC.of {S : AS} {u : Bool} {K : List Nat} : ∀ {outs : List OA} {l : List AV} {F : List Loc},AtAs S outs l F → outs.all OA.flat = true → ∃ A,RsC u K outs l A ∧ A.flatMap It.foot = F ∧ (∀ it ∈ A,it.up = u ∧ it.keys = K ∧ it.new = true) ∧ ∀ L,(∀ q ∈ F,Pl L K q) → ∀ it ∈ A,it.ok S L
 | [],l,F,h,_=>by
  obtain ⟨rfl,rfl⟩:=h
  exact ⟨[],⟨rfl,rfl⟩,rfl,fun _ h=>(nomatch h),fun _ _ _ h=>(nomatch h)⟩
 | o :: r,l,F,h,hk=>by
  obtain ⟨a,t,F1,F2,rfl,rfl,h2,h3⟩:=h
  simp only [List.all_cons,Bool.and_eq_true] at hk
  obtain ⟨A,k1,k2,k3,k4⟩:=RsC.of h3 hk.2
  cases o with
  | x=>cases hk.1
  | ag os =>
   obtain ⟨cs,rfl,h2⟩:=h2
   obtain ⟨A1,e1,e2,e3,e4⟩:=AgI.of (u:=u) (K:=K) h2 hk.1
   refine ⟨A1 ++ A,⟨cs,t,A1,A,rfl,rfl,e1,k1⟩,by rw [List.flatMap_append,e2,k2],fun it hi=>?_,fun L hl it hi=>?_⟩
   ·rcases List.mem_append.1 hi with hi | hi
    ·exact e3 it hi
    ·exact k3 it hi
   ·rcases List.mem_append.1 hi with hi | hi
    ·exact e4 L (fun q hq=>hl q (List.mem_append.2 (.inl hq))) it hi
    ·exact k4 L (fun q hq=>hl q (List.mem_append.2 (.inr hq))) it hi
  | r v =>
   obtain ⟨h2,rfl⟩:=h2
   exact ⟨A,⟨a,t,rfl,h2,k1⟩,k2,k3,k4⟩
  | o v =>
   refine ⟨.own u K v a F1 :: A,⟨a,t,F1,A,rfl,rfl,k1⟩,by rw [List.flatMap_cons,k2]; rfl,fun it hi=>?_,fun L hl it hi=>?_⟩
   ·rcases List.mem_cons.1 hi with rfl | hi
    ·exact ⟨rfl,rfl,rfl⟩
    ·exact k3 it hi
   ·rcases List.mem_cons.1 hi with rfl | hi
    ·exact ⟨h2,fun q hq=>hl q (List.mem_append.2 (.inl hq))⟩
    ·exact k4 L (fun q hq=>hl q (List.mem_append.2 (.inr hq))) it hi
theorem RsV.of {S : AS} {u : Bool} {K : List Nat} {res : List OA} {v : AV} {F : List Loc} (h : ResO S res v F) (hk : res.all OA.flat = true) : ∃ A,RsV u K res v A ∧ A.flatMap It.foot = F ∧ (∀ it ∈ A,it.up = u ∧ it.keys = K ∧ it.new = true) ∧ ∀ L,(∀ q ∈ F,Pl L K q) → ∀ it ∈ A,it.ok S L:=by
 match res,h,hk with
 | [],h,hk =>
  obtain ⟨l,rfl,hh⟩:=h
  obtain ⟨A,k1,k2⟩:=RsC.of (u:=u) (K:=K) hh hk
  exact ⟨A,⟨l,rfl,k1⟩,k2⟩
 | [.x],h,hk=>simp [OA.flat] at hk
 | [.ag os],h,hk =>
  obtain ⟨cs,rfl,h2⟩:=h
  simp only [List.all_cons,List.all_nil,Bool.and_true] at hk
  obtain ⟨A,k1,k2⟩:=AgI.of (u:=u) (K:=K) h2 hk
  exact ⟨A,⟨cs,rfl,k1⟩,k2⟩
 | [.r w],h,hk =>
  obtain ⟨h1,rfl⟩:=h
  exact ⟨[],⟨h1,rfl⟩,rfl,fun _ h=>(nomatch h),fun _ _ _ h=>(nomatch h)⟩
 | [.o w],h,hk =>
  refine ⟨[.own u K w v F],⟨F,rfl⟩,by simp [It.foot],fun it hi=>?_,fun L hl it hi=>?_⟩
  ·rw [List.mem_singleton.1 hi]; exact ⟨rfl,rfl,rfl⟩
  ·rw [List.mem_singleton.1 hi]; exact ⟨h,hl⟩
 | o :: o' :: r,h,hk =>
  obtain ⟨l,rfl,hh⟩:=h
  obtain ⟨A,k1,k2⟩:=RsC.of (u:=u) (K:=K) hh hk
  exact ⟨A,by cases o <;> exact ⟨l,rfl,k1⟩,k2⟩
theorem ca9 {L : Nat} {f : Fr} {S : AS} {u : Upd} {A1 B N : List It} {F G : List Loc} (hS : StA S L f (A1 ++ B)) (hF : A1.flatMap It.foot = F) (hL : Left S u F G) (hB : (B.all (okO (keysOf A1))) = true) (hN : N.flatMap It.foot = G) (hu : ∀ it ∈ N,it.up = upOf A1 ∧ it.keys = keysOf A1) (hok : (∀ q ∈ G,Pl (L + 1) (keysOf A1) q) → ∀ it ∈ N,it.ok (S.after u) (L + 1)) (hro : f.ro = false ∨ upOf A1 = false) :
  StA (S.after u) L f (N ++ B):=by
 have memA : ∀ it,it ∈ A1 ∨ it ∈ B ↔ it ∈ A1 ++ B:=fun it=>by rw [List.mem_append]
 have hsep:=hS.reg.sep
 rw [List.flatMap_append,hF] at hsep
 have hs1:=List.nodup_append.1 hsep
 have hpl : ∀ q ∈ F,Pl (L + 1) (keysOf A1) q:=fun q hq=>by
  rw [← hF] at hq
  obtain ⟨it,h1,h2⟩:=au0 hq
  obtain ⟨_,h3⟩:=It.there (hS.its it ((memA it).1 (.inl h1))) q h2
  rcases h3 with h | h | h
  ·exact .inl h
  ·exact .inr (.inl h)
  ·exact .inr (.inr ⟨h.1,h.2.1,List.mem_flatMap.2 ⟨it,h1,h.2.2⟩⟩)
 have hnew : ∀ q,New S q → q.l = L + 1 ∧ q.k = 0 ∧ q.i ≠ 0:=fun q h=>⟨by rw [h.1,hS.lvl],h.2.1,h.2.2.1⟩
 have hplG : ∀ q ∈ G,Pl (L + 1) (keysOf A1) q:=fun q hq=>by
  rcases hL.src q hq with h | h
  ·exact hpl q h
  ·exact .inr (.inl (hnew q h))
 have hupF : ∀ q ∈ F,q.l ≤ L → upOf A1 = true ∧ q ∈ f.W:=fun q hq hl=>by
  rw [← hF] at hq
  obtain ⟨it,h1,h2⟩:=au0 hq
  obtain ⟨h3,h4⟩:=hS.reg.upr it ((memA it).1 (.inl h1)) q h2 hl
  exact ⟨List.any_eq_true.2 ⟨it,h1,h3⟩,h4⟩
 have hBF : ∀ q ∈ B.flatMap It.foot,q ∉ F ∧ ¬ New S q:=fun q hq=>by
  refine ⟨fun h=>hs1.2.2 q h q hq rfl,fun h=>?_⟩
  obtain ⟨it,h1,h2⟩:=au0 hq
  obtain ⟨⟨s,h3⟩,_⟩:=It.there (hS.its it ((memA it).1 (.inr h1))) q h2
  rw [h.2.2.2] at h3; cases h3
 refine ⟨by rw [hL.lvl,hS.lvl],by rw [hL.fn,hS.fn],by rw [hL.dfr,hS.dfr],hS.out.after (fun r hr=>?_) hL.frame,fun it hi=>?_,?_⟩
 ·rcases hL.log r hr with h | h
  ·rcases Nat.lt_or_ge L r.l with hl | hl
   ·exact .inl hl
   ·exact .inr ⟨(hupF r h hl).2,hro.elim id fun e=>by rw [(hupF r h hl).1] at e; cases e⟩
  ·exact .inl (by rw [(hnew r h).1]; exact Nat.lt_succ_self L)
 ·rcases List.mem_append.1 hi with hi | hi
  ·exact hok hplG it hi
  ·refine It.stay (hS.its it ((memA it).1 (.inr hi))) (List.all_eq_true.1 hB it hi) (fun q hq=>hL.frame q fun hu=>?_) (fun k hk=>hL.frame _ fun hu=>?_)
   ·obtain ⟨h1,h2⟩:=hBF q (List.mem_flatMap.2 ⟨it,hi,hq⟩)
    rcases hL.log q hu with h | h
    ·exact h1 h
    ·exact h2 h
   ·rcases hL.log _ hu with h | h
    ·rcases hpl _ h with h | h | h
     ·simp at h
     ·exact h.2.2 rfl
     ·rw [List.contains_iff_mem.2 h.2.2] at hk; cases hk
    ·exact (hnew _ h).2.2 rfl
 ·refine ⟨?_,fun it hi q hq hl=>?_,fun q hq=>?_,hS.reg.upl⟩
  ·rw [List.flatMap_append,hN,List.nodup_append]
   refine ⟨hL.dup,hs1.2.1,fun a ha b hb e=>?_⟩
   subst e
   obtain ⟨h1,h2⟩:=hBF a hb
   rcases hL.src a ha with h | h
   ·exact h1 h
   ·exact h2 h
  ·rcases List.mem_append.1 hi with hi | hi
   ·have hqG : q ∈ G:=by rw [← hN]; exact List.mem_flatMap.2 ⟨it,hi,hq⟩
    rcases hL.src q hqG with h | h
    ·obtain ⟨h1,h2⟩:=hupF q h hl
     exact ⟨by rw [(hu it hi).1]; exact h1,h2⟩
    ·have:=(hnew q h).1
     omega
   ·exact hS.reg.upr it ((memA it).1 (.inr hi)) q hq hl
  ·obtain ⟨it,h1,h2,h3⟩:=hS.reg.cov q hq
   rcases (memA it).2 h1 with h | h
   ·have hqF : q ∈ F:=by rw [← hF]; exact List.mem_flatMap.2 ⟨it,h,h3⟩
    have hqG:=hL.cov q hqF
    rw [← hN] at hqG
    obtain ⟨jt,k1,k2⟩:=au0 hqG
    refine ⟨jt,List.mem_append.2 (.inl k1),?_,k2⟩
    rw [(hu jt k1).1]
    exact List.any_eq_true.2 ⟨it,h,h2⟩
   ·exact ⟨it,List.mem_append.2 (.inr h),h2,h3⟩
def Mv (f : Fr) (L : Nat) (A : List It) (Q : List It → Prop) : Prop:=∀ S,StA S L f A → ∃ A',Q A' ∧ StA S L f A'
theorem Mv.sub {f : Fr} {L : Nat} {A A' : List It} {idx : List Nat} (hA : SubP A idx A') (hi : idxOk A idx = true) : Mv f L A (fun B=>B = A'):=fun _ hS=>⟨A',rfl,hS.sub hA hi⟩
section
variable [Cfg] {P : Program}
theorem ao0 {f : FuncId} {b : BFn} {pan : Bool} {ins outs res : List OA} (hg : Cfg.given f = none) (hf : aq2 P f = some b) (hn : Nat.ble ins.length b.nt = true) (hki : ins.all OA.given = true) (hkr : res.all OA.keep = true)
  (h : ∀ L S0 F args A,InI ins args F A → GC P b.code L ⟨f,F,S0,true,false⟩ (numE 0 args) A (RetO ⟨f,F,S0,true,false⟩ L pan args b.res outs res)) : by6 P f ins pan outs res:=by
 intro S args F hup hat hnd hlv
 obtain ⟨A,k1,k2,k3,k4⟩:=InI.of hat hki
 obtain ⟨x,T',S',e1,e2,e3,e4,as1,F1,F2,J,e5,e6,e7,e8,e9,e10,e11,e12⟩:=h S.lvl S F (args.map AV.ag0) A k1 (bF8 (args.map AV.ag0)) (S.enter f) (Ag.args _)
  ⟨rfl,rfl,rfl,FrOk.enter f (.inr rfl),k4 _ _ (fun _=>rfl) (fun q hq=>by have:=hlv q hq; omega),by
   refine ⟨by rw [k2]; exact hnd,fun it hi q hq _=>⟨k3 it hi,?_⟩,fun q hq=>?_,hlv⟩
   ·rw [← k2]; exact List.mem_flatMap.2 ⟨it,hi,hq⟩
   ·have hq : q ∈ F:=hq
    rw [← k2] at hq
    obtain ⟨it,h1,h2⟩:=au0 hq
    exact ⟨it,h1,k3 it h1,h2⟩⟩
 have hun : ∀ r,r.l ≤ S.lvl → r ∉ S'.log → S'.get r = S.get r:=by
  rcases e4.un with h | h
  ·cases h
  ·exact h
 obtain ⟨v,u,G1,G2,J',q1,q2,q3,q4,q5⟩:=handUp_o (f:=f) (S:=S) (S':=S') hup (cT0 hki) hkr hat hlv (fun r h1 h2=>(e4.log r h1 h2).1) hun e7 e8 e9 e10 e11 e12
 refine ⟨aA2 v,u,G1,G2,J',aY9 hg hf (by rw [← List.length_map (f:=AV.ag0),hat.length]; exact am9 hn) ?_,q2,ResO_of q3,q4,q5⟩
 rw [up_args hup,e1]
 cases pan with
 | false =>
  rcases e2 with rfl | rfl
  ·rw [aZ1 e3,e5 rfl]
   unfold bret
   simp only [q1,Option.map_some]
   rfl
  ·rw [aS6 e3,e5 rfl]
   unfold bret
   simp only [q1,Option.map_some]
   rfl
 | true =>
  obtain ⟨w,rfl,rfl⟩:=e6 rfl
  rw [cL1 e3]
  have : aA2 [w] = w:=rfl
  rw [this] at q1
  simp only [q1,Option.map_some]
  rfl
variable {L : Nat} {f : Fr} {E : Env} {A : List It} {Φ : az3} {m : Option (List (Nat × Nat))} {acc : AAcc} {r : List BI} {d : Nat} {bf : BF}
theorem aq7 {l : List BI} {Q : List It → Prop} (h : Mv f L A Q) (k : ∀ A',Q A' → GO1 P m acc l L f E A' Φ) : GO1 P m acc l L f E A Φ:=fun c T S hc hT hS=>by
 obtain ⟨A',h1,h2⟩:=h S hS
 exact k A' h1 c T S hc hT h2
omit [Cfg] in
theorem g_mv {x : AX} {Q : List It → Prop} (h : Mv f L A Q) (k : ∀ A',Q A' → G x L f E A' Φ) : G x L f E A Φ:=fun T S hT hS=>by
 obtain ⟨A',h1,h2⟩:=h S hS
 exact k A' h1 T S hT h2
theorem aJ0 {c : BC} {Q : List It → Prop} (h : Mv f L A Q) (k : ∀ A',Q A' → GC P c L f E A' Φ) : GC P c L f E A Φ:=fun T S hT hS=>by
 obtain ⟨A',h1,h2⟩:=h S hS
 exact k A' h1 T S hT h2
theorem aP5 {g0 : FuncId} {xs : List X} {args : List AV} {ins outs res : List OA} {A1 B : List It} (hup : Cfg.up g0 f.fn = true) (hx : optL E xs = some args) (hin : InC ins args A1) (hA : A = A1 ++ B) (hB : (B.all (okO (keysOf A1))) = true) (hni : ins.all nrmO = true) (hko : fitO ins outs = true) (hkr : res.all OA.flat = true) (hc : by6 P g0 ins false outs res)
  (h : ∀ v A1' A2 J,OutC (upOf A1) (keysOf A1) outs args A1' → RsV (upOf A1) (keysOf A1) res v A2 → GO1 P m (accP acc (none,some (0 :: keysOf A1))) r L f ((d,v) :: E) (A1' ++ (A2 ++ (.jnk (upOf A1) (keysOf A1) J :: B))) Φ) (hro : f.ro = false ∨ upOf A1 = false:=by first | exact .inl rfl | exact .inr rfl) :
  GO1 P m acc (⟨some d,none,bf,.cl g0 xs⟩ :: r) L f E A Φ:=by
 subst hA
 intro c T S hcc hT hS
 have hat:=hin.at (S:=S) (L:=L + 1) (fun it hi=>hS.its it (List.mem_append.2 (.inl hi))) hni
 have hsep:=hS.reg.sep
 rw [List.flatMap_append] at hsep
 obtain ⟨v,u,F1,F2,J,k1,k2,k3,k4,k5⟩:=hc S args _ (by rw [hS.fn]; exact hup) hat (List.nodup_append.1 hsep).1 (fun q hq=>by
  obtain ⟨it,h1,h2⟩:=au0 hq
  obtain ⟨_,h3⟩:=It.there (hS.its it (List.mem_append.2 (.inl h1))) q h2
  rw [hS.lvl]
  rcases h3 with h | h | h
  ·omega
  ·omega
  ·omega)
 obtain ⟨A1',a1,a2,a3,a4⟩:=OutC.of (u:=upOf A1) (K:=keysOf A1) (AtAs.unnrm hin (fun it hi=>hS.its it (List.mem_append.2 (.inl hi))) hni hko k2) (cZ6 hko)
 obtain ⟨A2,b1,b2,b3,b4⟩:=RsV.of (u:=upOf A1) (K:=keysOf A1) k3 hkr
 have hS' : StA (S.after u) L f ((A1' ++ (A2 ++ [.jnk (upOf A1) (keysOf A1) J])) ++ B):=by
  refine ca9 hS rfl k5 hB (by rw [List.flatMap_append,List.flatMap_append,a2,b2]; simp [It.foot]) (fun it hi=>?_) (fun hpl it hi=>?_) hro
  ·rcases List.mem_append.1 hi with hi | hi
   ·exact ⟨(a3 it hi).1,(a3 it hi).2.1⟩
   ·rcases List.mem_append.1 hi with hi | hi
    ·exact ⟨(b3 it hi).1,(b3 it hi).2.1⟩
    ·rw [List.mem_singleton.1 hi]; exact ⟨rfl,rfl⟩
  ·rcases List.mem_append.1 hi with hi | hi
   ·exact a4 (L + 1) (fun q hq=>hpl q (List.mem_append.2 (.inl hq))) it hi
   ·rcases List.mem_append.1 hi with hi | hi
    ·exact b4 (L + 1) (fun q hq=>hpl q (List.mem_append.2 (.inr (List.mem_append.2 (.inl hq))))) it hi
    ·rw [List.mem_singleton.1 hi]
     exact ⟨k4,fun q hq=>hpl q (List.mem_append.2 (.inr (List.mem_append.2 (.inr hq))))⟩
 rw [List.append_assoc,List.append_assoc,List.singleton_append] at hS'
 have hkey : okK (L + 1) (some (0 :: keysOf A1)) u.kind:=by
  have hk : ∀ q ∈ ulog u,keyOf (L + 1) q ∈ 0 :: keysOf A1:=fun q hq=>by
   rcases k5.log q hq with h | h
   ·obtain ⟨it,h1,h2⟩:=au0 h
    obtain ⟨_,h3⟩:=It.there (hS.its it (List.mem_append.2 (.inl h1))) q h2
    unfold keyOf
    split
    ·rename_i e
     rcases h3 with h | h | h
     ·omega
     ·exact absurd e.2 h.2.2
     ·exact List.mem_cons_of_mem _ (List.mem_flatMap.2 ⟨it,h1,h.2.2⟩)
    ·exact List.mem_cons_self ..
   ·rw [keyOf_up (.inr ⟨by rw [h.1,hS.lvl],h.2.1,h.2.2.1⟩)]
    exact List.mem_cons_self ..
  cases u with
  | none=>exact .inl rfl
  | some x=>exact .inr ⟨x.2,rfl,.inr (by simp),hk⟩
 obtain ⟨x1,T',S',q3,q4⟩:=h v A1' A2 J a1 b1 _ (T.put (some d) v) (S.after u) (hcc.push (a:=(none,some (0 :: keysOf A1))) (f:=⟨.all,u.kind⟩) ⟨trivial,hkey⟩) (hT.put d v) hS'
 refine ⟨x1,T',S',?_,q4⟩
 rw [b_cl,b05 hT hx,hS.fn,hup,Bool.not_true,Bool.false_and,aQ9,k1]
 rw [show outE false v = AE.ret v from rfl,bO7]
 exact q3
end
open Go.RowKit
def CV : V → AV → Prop
 | .int k n,a=>a = .lit (.int k n)
 | .bool b,a=>a = .lit (.bool b)
 | .str l,a=>a = .lit (.string (bs l))
 | v,a=>RelC v a
theorem CV.rel {v : V} {a : AV} : CV v a ↔ RelC v a:=by
 cases v <;> simp only [CV,RelC]
def OpnC (up : Bool) (ks : List Nat) (q : Loc) (g : Nat) : Nat → List OV → List AV → List It → Prop
 | _,[],cs,N=>cs = [] ∧ N = []
 | i,.c v :: r,cs,N=>∃ a t,cs = a :: t ∧ CV v a ∧ OpnC up ks q g (i + 1) r t N
 | i,.self :: r,cs,N=>∃ a t,cs = a :: t ∧ (a = .lit (.pointer none) ∨ a = .ptr q g 0 i) ∧ OpnC up ks q g (i + 1) r t N
 | i,o :: r,cs,N=>∃ a t F N',cs = a :: t ∧ N = .own up ks o a F :: N' ∧ OpnC up ks q g (i + 1) r t N'
def selfO : OV → Bool
 | .self=>true
 | _=>false
theorem AtO.noself {S : AS} {p p' : Loc} {g g' i i' : Nat} {o : OV} {a : AV} {F : List Loc} (h : AtO S p g i o a F) (ho : selfO o = false) : AtO S p' g' i' o a F:=by
 cases o with
 | self=>cases ho
 | _=>unfold AtO at h ⊢; exact h
theorem OpnC.of {S : AS} {L : Nat} {up : Bool} {ks : List Nat} {q : Loc} {g : Nat} : ∀ {os : List OV} {i : Nat} {cs : List AV} {F : List Loc},AtL S q g i os cs F → (∀ x ∈ F,Pl L ks x) → ∃ N,OpnC up ks q g i os cs N ∧ N.flatMap It.foot = F ∧ (∀ it ∈ N,it.ok S L) ∧ ∀ it ∈ N,it.up = up
 | [],i,cs,F,h,_=>by
  unfold AtL at h
  obtain ⟨rfl,rfl⟩:=h
  exact ⟨[],⟨rfl,rfl⟩,rfl,fun _ h=>(nomatch h),fun _ h=>(nomatch h)⟩
 | o :: r,i,cs,F,h,hF=>by
  unfold AtL at h
  obtain ⟨a,t,F1,F2,rfl,rfl,h2,h3⟩:=h
  obtain ⟨N,k1,k2,k3,k4⟩:=OpnC.of (up:=up) (ks:=ks) h3 fun x hx=>hF x (List.mem_append.2 (.inr hx))
  have own : selfO o = false → ∃ N,(∃ a' t' F' N',a :: t = a' :: t' ∧ N = .own up ks o a' F' :: N' ∧ OpnC up ks q g (i + 1) r t' N') ∧ N.flatMap It.foot = F1 ++ F2 ∧ (∀ it ∈ N,it.ok S L) ∧ ∀ it ∈ N,it.up = up:=fun ho=>by
   refine ⟨.own up ks o a F1 :: N,⟨a,t,F1,N,rfl,rfl,k1⟩,by rw [List.flatMap_cons,k2]; rfl,fun it hi=>?_,fun it hi=>?_⟩
   ·rcases List.mem_cons.1 hi with rfl | hi
    ·exact ⟨h2.noself ho,fun x hx=>hF x (List.mem_append.2 (.inl hx))⟩
    ·exact k3 it hi
   ·rcases List.mem_cons.1 hi with rfl | hi
    ·rfl
    ·exact k4 it hi
  cases o with
  | c v =>
   unfold AtO at h2
   obtain ⟨h2,rfl⟩:=h2
   exact ⟨N,⟨a,t,rfl,CV.rel.2 h2,k1⟩,k2,k3,k4⟩
  | self =>
   unfold AtO at h2
   obtain ⟨h2,rfl⟩:=h2
   exact ⟨N,⟨a,t,rfl,h2,k1⟩,k2,k3,k4⟩
  | bb te l=>exact own rfl
  | gs n e es=>exact own rfl
  | li n e es=>exact own rfl
  | rw x n e es=>exact own rfl
  | it s pos=>exact own rfl
  | ptr t os=>exact own rfl
  | mp ks vs=>exact own rfl
def ShtC (q : Loc) (g : Nat) : Nat → List OV → List AV → List It → Prop
 | _,[],cs,N=>cs = [] ∧ N = []
 | i,.c v :: r,a :: t,N=>CV v a ∧ ShtC q g (i + 1) r t N
 | i,.self :: r,a :: t,N=>(a = .lit (.pointer none) ∨ a = .ptr q g 0 i) ∧ ShtC q g (i + 1) r t N
 | i,o :: r,a :: t,.own _ _ o' a' _ :: N=>o = o' ∧ a = a' ∧ ShtC q g (i + 1) r t N
 | _,_,_,_=>False
theorem ShtC.at {S : AS} {L : Nat} {q : Loc} {g : Nat} : ∀ {os : List OV} {i : Nat} {cs : List AV} {N : List It},ShtC q g i os cs N → (∀ it ∈ N,it.ok S L) → AtL S q g i os cs (N.flatMap It.foot)
 | [],i,cs,N,h,_=>by
  unfold ShtC at h
  obtain ⟨rfl,rfl⟩:=h
  unfold AtL
  exact ⟨rfl,rfl⟩
 | o :: r,i,cs,N,h,hN=>by
  have own : selfO o = false → ∀ {a t a' : _} {u ks F N'},cs = a :: t → N = .own u ks o a' F :: N' → a = a' → ShtC q g (i + 1) r t N' → AtL S q g i (o :: r) cs (N.flatMap It.foot):=fun ho {a t a' u ks F N'} e1 e2 e3 h4=>by
   subst e1 e2 e3
   unfold AtL
   exact ⟨a,t,F,_,rfl,rfl,(hN _ (List.mem_cons_self ..)).1.noself ho,ShtC.at h4 fun it hi=>hN it (List.mem_cons_of_mem _ hi)⟩
  cases o with
  | c v =>
   cases cs with
   | nil=>unfold ShtC at h; exact h.elim
   | cons a t =>
    unfold ShtC at h
    unfold AtL
    exact ⟨a,t,[],_,rfl,rfl,by unfold AtO; exact ⟨CV.rel.1 h.1,rfl⟩,ShtC.at h.2 hN⟩
  | self =>
   cases cs with
   | nil=>unfold ShtC at h; exact h.elim
   | cons a t =>
    unfold ShtC at h
    unfold AtL
    exact ⟨a,t,[],_,rfl,rfl,by unfold AtO; exact ⟨h.1,rfl⟩,ShtC.at h.2 hN⟩
  | bb te l =>
   cases cs with
   | nil=>unfold ShtC at h; exact h.elim
   | cons a t =>
    cases N with
    | nil=>unfold ShtC at h; exact h.elim
    | cons it N =>
     cases it with
     | own u ks o' a' F=>unfold ShtC at h; obtain ⟨rfl,h2,h3⟩:=h; exact own rfl rfl rfl h2 h3
     | _=>unfold ShtC at h; exact h.elim
  | gs n e es =>
   cases cs with
   | nil=>unfold ShtC at h; exact h.elim
   | cons a t =>
    cases N with
    | nil=>unfold ShtC at h; exact h.elim
    | cons it N =>
     cases it with
     | own u ks o' a' F=>unfold ShtC at h; obtain ⟨rfl,h2,h3⟩:=h; exact own rfl rfl rfl h2 h3
     | _=>unfold ShtC at h; exact h.elim
  | li n e es =>
   cases cs with
   | nil=>unfold ShtC at h; exact h.elim
   | cons a t =>
    cases N with
    | nil=>unfold ShtC at h; exact h.elim
    | cons it N =>
     cases it with
     | own u ks o' a' F=>unfold ShtC at h; obtain ⟨rfl,h2,h3⟩:=h; exact own rfl rfl rfl h2 h3
     | _=>unfold ShtC at h; exact h.elim
  | it s pos =>
   cases cs with
   | nil=>unfold ShtC at h; exact h.elim
   | cons a t =>
    cases N with
    | nil=>unfold ShtC at h; exact h.elim
    | cons it N =>
     cases it with
     | own u ks o' a' F=>unfold ShtC at h; obtain ⟨rfl,h2,h3⟩:=h; exact own rfl rfl rfl h2 h3
     | _=>unfold ShtC at h; exact h.elim
  | rw x n e es =>
   cases cs with
   | nil=>unfold ShtC at h; exact h.elim
   | cons a t =>
    cases N with
    | nil=>unfold ShtC at h; exact h.elim
    | cons it N =>
     cases it with
     | own u ks o' a' F=>unfold ShtC at h; obtain ⟨rfl,h2,h3⟩:=h; exact own rfl rfl rfl h2 h3
     | _=>unfold ShtC at h; exact h.elim
  | ptr ty os =>
   cases cs with
   | nil=>unfold ShtC at h; exact h.elim
   | cons a t =>
    cases N with
    | nil=>unfold ShtC at h; exact h.elim
    | cons it N =>
     cases it with
     | own u ks o' a' F=>unfold ShtC at h; obtain ⟨rfl,h2,h3⟩:=h; exact own rfl rfl rfl h2 h3
     | _=>unfold ShtC at h; exact h.elim
  | mp kk vs =>
   cases cs with
   | nil=>unfold ShtC at h; exact h.elim
   | cons a t =>
    cases N with
    | nil=>unfold ShtC at h; exact h.elim
    | cons it N =>
     cases it with
     | own u ks o' a' F=>unfold ShtC at h; obtain ⟨rfl,h2,h3⟩:=h; exact own rfl rfl rfl h2 h3
     | _=>unfold ShtC at h; exact h.elim
theorem RegA.swap {f : Fr} {L : Nat} {A1 A2 B : List It} (h : RegA f L (A1 ++ B)) (e : A2.flatMap It.foot = A1.flatMap It.foot) (hu : ∀ it ∈ A2,it.foot ≠ [] → it.up = A1.any It.up) : RegA f L (A2 ++ B):=by
 have hsep:=h.sep
 refine ⟨by rw [List.flatMap_append] at hsep ⊢; rw [e]; exact hsep,fun it hi q hq hl=>?_,fun q hq=>?_,h.upl⟩
 ·rcases List.mem_append.1 hi with hi | hi
  ·have : q ∈ A1.flatMap It.foot:=by rw [← e]; exact List.mem_flatMap.2 ⟨it,hi,hq⟩
   obtain ⟨jt,h1,h2⟩:=au0 this
   obtain ⟨h3,h4⟩:=h.upr jt (List.mem_append.2 (.inl h1)) q h2 hl
   exact ⟨by rw [hu it hi (fun e=>by rw [e] at hq; cases hq)]; exact List.any_eq_true.2 ⟨jt,h1,h3⟩,h4⟩
  ·exact h.upr it (List.mem_append.2 (.inr hi)) q hq hl
 ·obtain ⟨it,h1,h2,h3⟩:=h.cov q hq
  rcases List.mem_append.1 h1 with h1 | h1
  ·have : q ∈ A2.flatMap It.foot:=by rw [e]; exact List.mem_flatMap.2 ⟨it,h1,h3⟩
   obtain ⟨jt,k1,k2⟩:=au0 this
   exact ⟨jt,List.mem_append.2 (.inl k1),by rw [hu jt k1 (fun e=>by rw [e] at k2; cases k2)]; exact List.any_eq_true.2 ⟨it,h1,h2⟩,k2⟩
  ·exact ⟨it,List.mem_append.2 (.inr h1),h2,h3⟩
theorem StA.swap {S : AS} {L : Nat} {f : Fr} {A1 A2 B : List It} (h : StA S L f (A1 ++ B)) (e : A2.flatMap It.foot = A1.flatMap It.foot) (hu : ∀ it ∈ A2,it.foot ≠ [] → it.up = A1.any It.up) (hok : (∀ it ∈ A1,it.ok S (L + 1)) → ∀ it ∈ A2,it.ok S (L + 1)) : StA S L f (A2 ++ B) :=
 ⟨h.lvl,h.fn,h.dfr,h.out,fun it hi=>by
  rcases List.mem_append.1 hi with hi | hi
  ·exact hok (fun jt hj=>h.its jt (List.mem_append.2 (.inl hj))) it hi
  ·exact h.its it (List.mem_append.2 (.inr hi)),h.reg.swap e hu⟩
theorem cL2 {it : It} : ∀ {A : List It} {i : Nat} {a : It},A[i]? = some a → it.foot = a.foot → (A.set i it).flatMap It.foot = A.flatMap It.foot
 | [],_,_,e,_=>by cases e
 | b :: r,0,a,e,h=>by cases e; simp [List.flatMap_cons,h]
 | b :: r,i + 1,a,e,h=>by
  rw [List.set_cons_succ,List.flatMap_cons,List.flatMap_cons,cL2 (A:=r) (i:=i) e h]
theorem RegA.set {f : Fr} {L : Nat} {A : List It} {i : Nat} {a it : It} (h : RegA f L A) (hA : A[i]? = some a) (hf : it.foot = a.foot) (hu : it.up = a.up) : RegA f L (A.set i it):=by
 refine ⟨by rw [cL2 hA hf]; exact h.sep,fun jt hj q hq hl=>?_,fun q hq=>?_,h.upl⟩
 ·rcases List.mem_or_eq_of_mem_set hj with hj | rfl
  ·exact h.upr jt hj q hq hl
  ·rw [hf] at hq
   rw [hu]
   exact h.upr a (List.mem_of_getElem? hA) q hq hl
 ·obtain ⟨jt,h1,h2,h3⟩:=h.cov q hq
  obtain ⟨j,hj⟩:=List.getElem?_of_mem h1
  by_cases e : i = j
  ·subst e
   rw [hA] at hj; cases hj
   have hlt : i < A.length:=(List.getElem?_eq_some_iff.1 hA).1
   exact ⟨it,List.mem_of_getElem? (i:=i) (by rw [List.getElem?_set_self hlt]),by rw [hu]; exact h2,by rw [hf]; exact h3⟩
  ·exact ⟨jt,List.mem_of_getElem? (i:=j) (by rw [List.getElem?_set_ne e]; exact hj),h2,h3⟩
theorem cT3 {A : List It} (h : (A.flatMap It.foot).Nodup) {i j : Nat} {a b : It} (hi : A[i]? = some a) (hj : A[j]? = some b) (hne : i ≠ j) : ∀ q ∈ b.foot,q ∉ a.foot:=fun q hq hq'=>cz9 h hi hj hne q hq' hq
theorem Pl.key {L : Nat} {ks : List Nat} {q : Loc} (h : Pl L ks q) : keyOf L q ∈ 0 :: ks:=by
 unfold keyOf
 split
 ·rename_i e
  rcases h with h | h | h
  ·omega
  ·exact absurd e.2 h.2.2
  ·exact List.mem_cons_of_mem _ h.2.2
 ·exact List.mem_cons_self ..
theorem It.cw7 {it : It} {k : Nat} (h : it.free k = true) : k ∉ it.keys:=fun hm=>by
 have key : ∀ ks : List Nat,(!ks.contains k) = true → k ∈ ks → False:=fun ks h hm=>by
  rw [List.contains_iff_mem.2 hm] at h
  cases h
 cases it with
 | own u ks o a F=>exact key ks h hm
 | cel u ks p g t cs=>exact key ks h hm
 | jnk u ks J=>exact key ks h hm
 | _=>cases hm
theorem Pl.own (L k : Nat) : Pl L [k] ⟨L,k,0⟩:=.inr (.inr ⟨rfl,rfl,List.mem_singleton.2 rfl⟩)
theorem StA.wr {S : AS} {L : Nat} {f : Fr} {A : List It} (h : StA S L f A) {it : It} (hi : it ∈ A) {q : Loc} (hq : q ∈ it.foot) (hro : f.ro = false ∨ it.up = false) : L < q.l ∨ q ∈ f.W ∧ f.ro = false:=by
 rcases Nat.lt_or_ge L q.l with hl | hl
 ·exact .inl hl
 ·exact .inr ⟨(h.reg.upr it hi q hq hl).2,hro.elim id fun e=>by rw [(h.reg.upr it hi q hq hl).1] at e; cases e⟩
theorem FrOk.put {F : Fr} {S : AS} {L : Nat} (h : FrOk F S L) {p : Loc} (hp : L < p.l ∨ p ∈ F.W ∧ F.ro = false) (s : ae1) : FrOk F (S.set p s) L:=by
 refine ⟨h.srt.put,fun r hr hl=>?_,h.un.imp id fun h r hl hr=>?_⟩
 ·rcases af8.1 hr with hr | rfl
  ·exact h.log r hr hl
  ·rcases hp with hp | hp
   ·omega
   ·exact hp
 ·have hne : r ≠ p:=fun e=>hr (af8.2 (.inr e))
  rw [AS.ah2 _ _ hne]
  exact h r hl fun hm=>hr (af8.2 (.inl hm))
theorem StA.setI {S : AS} {L : Nat} {f : Fr} {A : List It} {i : Nat} {a it : It} (h : StA S L f A) (hA : A[i]? = some a) {p : Loc} (hp : p ∈ a.foot) {s : ae1} (hok : it.ok (S.set p s) (L + 1)) (hf : it.foot = a.foot) (hu : it.up = a.up) (ho : (A.all fun jt=>okO a.keys jt) = true) (hro : f.ro = false ∨ a.up = false ∨ L < p.l) : StA (S.set p s) L f (A.set i it):=by
 have ha:=List.mem_of_getElem? hA
 obtain ⟨_,hpl⟩:=It.there (h.its a ha) p hp
 refine ⟨h.lvl,h.fn,h.dfr,h.out.put (hro.elim (fun e=>h.wr ha hp (.inl e)) fun e=>e.elim (fun e=>h.wr ha hp (.inr e)) .inl) s,fun jt hj=>?_,h.reg.set hA hf hu⟩
 obtain ⟨j,hj⟩:=List.getElem?_of_mem hj
 by_cases e : i = j
 ·subst e
  rw [List.getElem?_set_self (List.getElem?_eq_some_iff.1 hA).1] at hj
  cases hj
  exact hok
 ·rw [List.getElem?_set_ne e] at hj
  refine It.stay (K:=a.keys) (h.its jt (List.mem_of_getElem? hj)) (List.all_eq_true.1 ho jt (List.mem_of_getElem? hj)) (fun q hq=>?_) (fun k hk=>?_)
  ·exact AS.ah2 _ _ fun e'=>cT3 h.reg.sep hA hj e q hq (e' ▸ hp)
  ·refine AS.ah2 _ _ fun e'=>?_
   rcases hpl with h1 | h1 | h1
   ·rw [← e'] at h1; simp at h1
   ·exact h1.2.2 (by rw [← e'])
   ·rw [← e'] at h1
    rw [List.contains_iff_mem.2 h1.2.2] at hk; cases hk
section
variable {L : Nat} {f : Fr} {A B : List It} {up : Bool} {ks : List Nat} {p : Loc} {g : Nat} {t : TypeId} {cs : List AV}
theorem Cx.co {S : AS} {l : Nat} {a : AV} (h : Cx S l a) (hd : AV.deep l a = []) : Co l a:=by
 cases h with
 | c h=>exact .c h
 | p h=>exact .p h
 | pd h=>simp only [AV.deep,if_neg (Nat.not_le.2 h)] at hd; cases hd
 | m h=>exact .m h
 | md h=>simp only [AV.deep,if_neg (Nat.not_le.2 h)] at hd; cases hd
 | r h=>exact .r h
 | rd h=>simp only [AV.deep,if_neg (Nat.not_le.2 h)] at hd; cases hd
 | t h h'=>exact .t h h'
 | d h h'=>simp only [AV.deep,if_neg (Nat.not_le.2 h')] at hd; cases hd
theorem cA0 {l : Nat} {a : AV} {x : Loc} : ∀ {cs : List AV},a ∈ cs → x ∈ AV.deep l a → x ∈ AV.an2 l cs
 | [],h,_=>by cases h
 | b :: r,h,hx=>by
  simp only [AV.an2]
  rcases List.mem_cons.1 h with rfl | h
  ·exact List.mem_append.2 (.inl hx)
  ·exact List.mem_append.2 (.inr (cA0 h hx))
theorem b87 {cs ys : List AV} {off : Nat} {a : AV} (h : a ∈ splice cs off ys) : a ∈ cs ∨ a ∈ ys:=by
 unfold splice at h
 simp only [List.mem_append] at h
 rcases h with (h | h) | h
 ·exact .inl (List.mem_of_mem_take h)
 ·exact .inr h
 ·exact .inl (List.mem_of_mem_drop h)
theorem own_co {S : AS} {L : Nat} {up : Bool} {ks : List Nat} {o : OV} {a : AV} {F : List Loc} (h : It.ok S L (.own up ks o a F)) : Co L a:=by
 obtain ⟨h1,h2⟩:=h
 obtain ⟨c1,c2,_⟩:=AtO.reg (l:=L) (p:=bF9) (g:=0) (.inl (Nat.zero_le _)) h1
 refine c1.co (List.eq_nil_iff_forall_not_mem.2 fun x hx=>?_)
 have e1:=c1.gt x hx
 rcases c2 x hx with e2 | rfl
 ·rcases h2 x e2 with h | h | h
  ·omega
  ·omega
  ·omega
 ·simp at e1
theorem Mv.opn {os : List OV} {a : AV} {F : List Loc} (hA : A = .own up ks (.ptr t os) a F :: B) : Mv f L A (fun A'=>∃ q g cs N,a = .ptr q g 0 0 ∧ OpnC up ks q g 0 os cs N ∧ A' = .cel up ks q g t cs :: (N ++ B)):=by
 subst hA
 intro S hS
 obtain ⟨h1,h2⟩:=hS.its _ (List.mem_cons_self ..)
 unfold AtO at h1
 obtain ⟨q,g,cs,F',e1,rfl,h3,h4⟩:=h1
 obtain ⟨N,k1,k2,k3,k4⟩:=OpnC.of (up:=up) (ks:=ks) (L:=L + 1) h4 fun x hx=>h2 x (List.mem_cons_of_mem _ hx)
 refine ⟨_,⟨q,g,cs,N,e1,k1,rfl⟩,?_⟩
 refine StA.swap (A1:=[.own up ks (.ptr t os) a (q :: F')]) (A2:=.cel up ks q g t cs :: N) (B:=B) hS (by simp [It.foot,k2]) (fun it hi _=>?_) (fun _ it hi=>?_)
 ·rcases List.mem_cons.1 hi with rfl | hi
  ·simp [It.up]
  ·rw [k4 it hi]; simp [It.up]
 ·rcases List.mem_cons.1 hi with rfl | hi
  ·refine ⟨h3,h2 q (List.mem_cons_self ..),fun a ha=>?_⟩
   have hlv : ∀ x ∈ q :: F',x.l ≤ L + 1:=fun x hx=>by
    rcases h2 x hx with h | h | h
    ·omega
    ·omega
    ·omega
   obtain ⟨c1,c2,_⟩:=AtL.reg (l:=L + 1) (.inl (hlv q (List.mem_cons_self ..))) h4
   refine (c1 a ha).co (List.eq_nil_iff_forall_not_mem.2 fun x hx=>?_)
   have e1:=(c1 a ha).gt x hx
   have e2:=c2 x (cA0 ha hx)
   rcases e2 with e2 | rfl
   ·have:=hlv x (List.mem_cons_of_mem _ e2); omega
   ·have:=hlv x (List.mem_cons_self ..); omega
  ·exact k3 it hi
theorem Mv.opn2 {os : List OV} {F : List Loc} (hA : A = .own up ks (.ptr t os) (.ptr p g 0 0) F :: B) : Mv f L A (fun A'=>∃ cs N,OpnC up ks p g 0 os cs N ∧ A' = .cel up ks p g t cs :: (N ++ B)):=by
 intro S hS
 obtain ⟨A',⟨q,g',cs,N,e,h1,h2⟩,h3⟩:=Mv.opn hA S hS
 injection e with e1 e2
 subst e1 e2
 exact ⟨A',⟨cs,N,h1,h2⟩,h3⟩
theorem Mv.sht {os : List OV} {N : List It} (hA : A = .cel up ks p g t cs :: (N ++ B)) (h0 : ShtC p g 0 os cs N) : Mv f L A (fun A'=>∃ F,A' = .own (up || N.any It.up) (ks ++ N.flatMap It.keys) (.ptr t os) (.ptr p g 0 0) F :: B):=by
 subst hA
 intro S hS
 refine ⟨_,⟨p :: N.flatMap It.foot,rfl⟩,?_⟩
 refine StA.swap (A1:=.cel up ks p g t cs :: N) (A2:=[.own (up || N.any It.up) (ks ++ N.flatMap It.keys) (.ptr t os) (.ptr p g 0 0) (p :: N.flatMap It.foot)]) (B:=B) hS (by simp [It.foot]) (fun it hi _=>?_) (fun hok it hi=>?_)
 ·rw [List.mem_singleton.1 hi]
  simp [It.up,List.any_cons]
 ·rw [List.mem_singleton.1 hi]
  obtain ⟨h1,h2,_⟩:=hok _ (List.mem_cons_self ..)
  refine ⟨?_,fun q hq=>?_⟩
  ·unfold AtO
   exact ⟨p,g,cs,_,rfl,rfl,h1,h0.at fun it hi=>hok it (List.mem_cons_of_mem _ hi)⟩
  ·rcases List.mem_cons.1 hq with rfl | hq
   ·rcases h2 with h | h | h
    ·exact .inl h
    ·exact .inr (.inl h)
    ·exact .inr (.inr ⟨h.1,h.2.1,List.mem_append.2 (.inl h.2.2)⟩)
   ·obtain ⟨it,k1,k2⟩:=au0 hq
    obtain ⟨_,k3⟩:=It.there (hok it (List.mem_cons_of_mem _ k1)) q k2
    rcases k3 with h | h | h
    ·exact .inl h
    ·exact .inr (.inl h)
    ·exact .inr (.inr ⟨h.1,h.2.1,List.mem_append.2 (.inr (List.mem_flatMap.2 ⟨it,k1,h.2.2⟩))⟩)
theorem StA.addF {S : AS} {it : It} (hS : StA S L f A) (hok : it.ok S (L + 1)) (hf : it.foot = []) : StA S L f (it :: A):=by
 refine ⟨hS.lvl,hS.fn,hS.dfr,hS.out,fun jt hj=>?_,by rw [List.flatMap_cons,hf]; exact hS.reg.sep,fun jt hj q hq hl=>?_,fun q hq=>?_,hS.reg.upl⟩
 ·rcases List.mem_cons.1 hj with rfl | hj
  ·exact hok
  ·exact hS.its jt hj
 ·rcases List.mem_cons.1 hj with rfl | hj
  ·rw [hf] at hq; cases hq
  ·exact hS.reg.upr jt hj q hq hl
 ·obtain ⟨jt,h1,h2,h3⟩:=hS.reg.cov q hq
  exact ⟨jt,List.mem_cons_of_mem _ h1,h2,h3⟩
theorem Mv.addN {ks : List Nat} {n : Nat} {e : TypeId} {a : AV} (ha : ∃ p,a = .lit (.slice p 0 0)) : Mv f L A (fun A'=>A' = .own false ks (.gs n e []) a [] :: A):=fun _ hS =>
 ⟨_,rfl,hS.addF (it:=.own false ks (.gs n e []) a []) ⟨by unfold AtO; exact .inl ⟨rfl,ha,rfl⟩,fun q hq=>(nomatch hq)⟩ rfl⟩
theorem Mv.addF {ks : List Nat} {n : Nat} {e : TypeId} {a : AV} {es : List (List V)} (hr : RelC (.sl n es) a) (ha : ∃ ys,a = .list .full n ys) : Mv f L A (fun A'=>A' = .own false ks (.gs n e es) a [] :: A):=fun _ hS =>
 ⟨_,rfl,hS.addF (it:=.own false ks (.gs n e es) a []) ⟨(by
  unfold AtO
  obtain ⟨ys,rfl⟩:=ha
  unfold RelC at hr
  rcases hr with ⟨_,p,e⟩ | ⟨sp,zs,e,_,hr⟩
  ·cases e
  ·cases e
   exact .inr (.inl ⟨ys,rfl,hr,rfl⟩)),fun q hq=>(nomatch hq)⟩ rfl⟩
theorem Mv.newJ : Mv f L A (fun A'=>A' = .jnk false [] [] :: A):=fun _ hS =>
 ⟨_,rfl,hS.addF (it:=.jnk false [] []) ⟨fun q hq=>(nomatch hq),fun q hq=>(nomatch hq)⟩ rfl⟩
def leafO : OV → Bool
 | .gs _ _ _=>true
 | .li _ _ _=>true
 | .rw _ _ _ _=>true
 | .it _ _=>true
 | _=>false
theorem AtO.junk {S : AS} {p : Loc} {g i : Nat} {o : OV} {a : AV} {F : List Loc} (h : AtO S p g i o a F) (ho : leafO o = true) : aI6 S F:=by
 have gs : ∀ {n e es},Gs S n e es a F → aI6 S F:=fun h=>by
  rcases h with ⟨_,_,rfl⟩ | ⟨_,_,_,rfl⟩ | ⟨q,k,ys,_,_,h3,rfl⟩
  ·exact fun q hq=>(nomatch hq)
  ·exact fun q hq=>(nomatch hq)
  ·intro x hx
   rw [List.mem_singleton] at hx
   subst hx
   exact ⟨_,h3,.tok⟩
 cases o with
 | gs n e es=>unfold AtO at h; exact gs h
 | li n e es =>
  unfold AtO at h
  rcases h with h | ⟨_,_,_,rfl⟩
  ·exact gs h
  ·exact fun q hq=>(nomatch hq)
 | it s pos =>
  unfold AtO at h
  obtain ⟨q,k,_,rfl,h3⟩:=h
  intro x hx
  rw [List.mem_singleton] at hx
  subst hx
  exact ⟨_,h3,.itr⟩
 | rw x0 n e es =>
  unfold AtO at h
  rcases h with ⟨_,h⟩ | ⟨q,k,ys,zs,_,h2,h3,rfl⟩
  ·exact gs h
  ·intro x hx
   rw [List.mem_singleton] at hx
   subst hx
   exact ⟨_,h3,.row (aQ4 (aV2 h2.1.closed h2.2.2.1))⟩
 | _=>cases ho
theorem Pl.app {L : Nat} {ks ks' : List Nat} {q : Loc} (h : Pl L ks q) : Pl L (ks ++ ks') q ∧ Pl L (ks' ++ ks) q:=by
 rcases h with h | h | h
 ·exact ⟨.inl h,.inl h⟩
 ·exact ⟨.inr (.inl h),.inr (.inl h)⟩
 ·exact ⟨.inr (.inr ⟨h.1,h.2.1,List.mem_append.2 (.inl h.2.2)⟩),.inr (.inr ⟨h.1,h.2.1,List.mem_append.2 (.inr h.2.2)⟩)⟩
theorem Mv.toJ {o : OV} {a : AV} {F J : List Loc} {u : Bool} {K : List Nat} (hA : A = .own up ks o a F :: .jnk u K J :: B) (ho : leafO o = true) : Mv f L A (fun A'=>∃ J',A' = .jnk (up || u) (ks ++ K) J' :: B):=by
 subst hA
 intro S hS
 refine ⟨_,⟨F ++ J,rfl⟩,StA.swap (A1:=[.own up ks o a F,.jnk u K J]) (A2:=[.jnk (up || u) (ks ++ K) (F ++ J)]) (B:=B) hS (by simp [It.foot]) (fun it hi _=>?_) (fun hok it hi=>?_)⟩
 ·rw [List.mem_singleton.1 hi]; simp [It.up]
 ·rw [List.mem_singleton.1 hi]
  have h1:=hok _ (List.mem_cons_self ..)
  have h2:=hok _ (List.mem_cons_of_mem _ (List.mem_cons_self ..))
  refine ⟨fun q hq=>?_,fun q hq=>?_⟩
  ·rcases List.mem_append.1 hq with hq | hq
   ·exact h1.1.junk ho q hq
   ·exact h2.1 q hq
  ·rcases List.mem_append.1 hq with hq | hq
   ·exact (h1.2 q hq).app.1
   ·exact (h2.2 q hq).app.2
theorem Mv.jj {J J' : List Loc} {u : Bool} {K : List Nat} (hA : A = .jnk up ks J :: .jnk u K J' :: B) : Mv f L A (fun A'=>∃ J',A' = .jnk (up || u) (ks ++ K) J' :: B):=by
 subst hA
 intro S hS
 refine ⟨_,⟨J ++ J',rfl⟩,StA.swap (A1:=[.jnk up ks J,.jnk u K J']) (A2:=[.jnk (up || u) (ks ++ K) (J ++ J')]) (B:=B) hS (by simp [It.foot]) (fun it hi _=>?_) (fun hok it hi=>?_)⟩
 ·rw [List.mem_singleton.1 hi]; simp [It.up]
 ·rw [List.mem_singleton.1 hi]
  have h1:=hok _ (List.mem_cons_self ..)
  have h2:=hok _ (List.mem_cons_of_mem _ (List.mem_cons_self ..))
  refine ⟨fun q hq=>?_,fun q hq=>?_⟩
  ·rcases List.mem_append.1 hq with hq | hq
   ·exact h1.1 q hq
   ·exact h2.1 q hq
  ·rcases List.mem_append.1 hq with hq | hq
   ·exact (h1.2 q hq).app.1
   ·exact (h2.2 q hq).app.2
end
section
variable [Cfg] {P : Program} {L : Nat} {f : Fr} {E : Env} {A B : List It} {Φ : az3} {m : Option (List (Nat × Nat))} {acc : AAcc} {r l : List BI} {d : Nat} {bf : BF}
variable {up : Bool} {ks : List Nat} {p : Loc} {g : Nat} {t : TypeId} {cs : List AV}
omit [Cfg] in
theorem cD7 {x : X} {off i : Nat} {T : BT} {S : AS} {dd : Option Nat} (hT : Ag E T) (hS : StA S L f A) (hx : opd E x = some (.ptr p g 0 off)) (hA : A[i]? = some (.cel up ks p g t cs)) : okK (L + 1) (some (0 :: ks)) (BF.foot S T dd (.at x)):=by
 refine .inr ⟨[p],?_,by simp,fun q hq=>?_⟩
 ·show ai4 (x.at T) = _
  rw [hT.at hx]
  rfl
 ·rw [List.mem_singleton.1 hq]
  exact (hS.its _ (List.mem_of_getElem? hA)).2.1.key
theorem au3 {x : X} {i off : Nat} {a : AV} (hx : opd E x = some (.ptr p g 0 off)) (hA : A[i]? = some (.cel up ks p g t cs)) (hc : cs[off]? = some a) : Stp P L f E A d (.at x) (.ld1 x) (some (0 :: ks),some []) (fun u=>u = a):=by
 refine aP2 (fun T S hT hS=>⟨a,?_,rfl⟩) (fun T S hT hS=>⟨cD7 (dd:=some d) hT hS hx hA,.inl rfl⟩)
 simp only [bop,hT.at hx]
 rw [bk9 (hS.its _ (List.mem_of_getElem? hA)).1 hc]
 rfl
theorem s_ldnP {x : X} {i off n : Nat} {N : List AV} (hx : opd E x = some (.ptr p g 0 off)) (hA : A[i]? = some (.cel up ks p g t cs)) (hn : Nat.ble (off + n) cs.length = true) (hN : (cs.drop off).take n = N) : Stp P L f E A d (.at x) (.ldn n x) (some (0 :: ks),some []) (fun u=>u = .agg N):=by
 subst hN
 refine aP2 (fun T S hT hS=>⟨_,?_,rfl⟩) (fun T S hT hS=>⟨cD7 (dd:=some d) hT hS hx hA,.inl rfl⟩)
 have:=am9 hn
 simp only [bop,hT.at hx]
 rw [bu0 (hS.its _ (List.mem_of_getElem? hA)).1,if_pos (by rw [List.length_drop]; omega)]
 rfl
theorem g_stP {x v : X} {i off n : Nat} {b : AV} {cs' : List AV} (hx : opd E x = some (.ptr p g 0 off)) (hv : opd E v = some b) (hA : A[i]? = some (.cel up ks p g t cs)) (hn : b.cells.length = n) (hone : b.cells.all AV.one = true) (hco : ∀ a ∈ b.cells,Co (L + 1) a) (hle : Nat.ble (off + n) cs.length = true) (hcs : splice cs off b.cells = cs')
  (ho : (A.all fun jt=>okO ks jt) = true) (h : GO1 P m (accP acc (some (0 :: ks),some (0 :: ks))) r L f E (A.set i (.cel up ks p g t cs')) Φ) (hro : f.ro = false ∨ up = false:=by first | exact .inl rfl | exact .inr rfl) : GO1 P m acc (⟨none,none,.at x,.st n x v⟩ :: r) L f E A Φ:=by
 intro c T S hc hT hS
 subst hcs
 have hit:=hS.its _ (List.mem_of_getElem? hA)
 have hle':=am9 hle
 have hst:=bh8 (n:=n) (xs:=b.cells) hit.1 hn (off:=off) (by rw [hn]; exact hle') hone
 have hS' : StA (S.set p (.obj g t (splice cs off b.cells))) L f (A.set i (.cel up ks p g t (splice cs off b.cells))) :=
  hS.setI hA (p:=p) (List.mem_singleton.2 rfl) (it:=.cel up ks p g t (splice cs off b.cells)) ⟨AS.get_set_same ..,hit.2.1,fun a ha=>(b87 ha).elim (hit.2.2 a) (hco a)⟩ rfl rfl ho (hro.imp id .inl)
 obtain ⟨x1,T',S',q1,q2⟩:=h _ (T.put none (.lit undef)) _ (hc.push (a:=(some (0 :: ks),some (0 :: ks))) (f:=⟨BF.foot S T none (.at x),.slot p⟩) ⟨cD7 (dd:=none) hT hS hx hA,.inr ⟨[p],rfl,by simp,fun q hq=>by
  rw [List.mem_singleton.1 hq]; exact hit.2.1.key⟩⟩) hT hS'
 refine ⟨x1,T',S',?_,q2⟩
 have hop : bop P S T none (.st n x v) = some (.chg (.lit undef) p (.obj g t (splice cs off b.cells))):=by
  simp only [bop,hT.at hx,hT.at hv]
  rw [hst]
  rfl
 rw [aj7,hop,show (BO.st n x v).w = true from rfl,bT2]
 exact q1
theorem as9 {x v : X} {i off : Nat} {b : AV} {cs' : List AV} (hx : opd E x = some (.ptr p g 0 off)) (hv : opd E v = some b) (hA : A[i]? = some (.cel up ks p g t cs)) (hb : b.cells = [b] ∧ b.one = true) (hco : Co (L + 1) b) (hle : Nat.ble (off + 1) cs.length = true) (hcs : splice cs off [b] = cs')
  (ho : (A.all fun jt=>okO ks jt) = true) (h : GO1 P m (accP acc (some (0 :: ks),some (0 :: ks))) r L f E (A.set i (.cel up ks p g t cs')) Φ) (hro : f.ro = false ∨ up = false:=by first | exact .inl rfl | exact .inr rfl) : GO1 P m acc (⟨none,none,.at x,.st 1 x v⟩ :: r) L f E A Φ :=
 g_stP hx hv hA (by rw [hb.1]; rfl) (by rw [hb.1]; simp [hb.2]) (fun a ha=>by rw [hb.1,List.mem_singleton] at ha; rw [ha]; exact hco) hle (by rw [hb.1]; exact hcs) ho h hro
omit [Cfg] in
theorem StA.push {S : AS} {A : List It} {it : It} {s : ae1} (hS : StA S L f A) (hf : (A.all fun jt=>jt.free d) = true) (hfo : it.foot = [⟨L + 1,d,0⟩] ∨ it.foot = []) (hok : it.ok (S.set ⟨L + 1,d,0⟩ s) (L + 1)) : StA (S.set ⟨L + 1,d,0⟩ s) L f (it :: A):=by
 have hno : ∀ jt ∈ A,(⟨L + 1,d,0⟩ : Loc) ∉ jt.foot:=fun jt hj hm=>by
  obtain ⟨_,hpl⟩:=It.there (hS.its jt hj) _ hm
  have hfr:=List.all_eq_true.1 hf jt hj
  rcases hpl with h | h | h
  ·simp at h
  ·exact h.2.2 rfl
  ·exact It.cw7 hfr h.2.2
 refine ⟨hS.lvl,hS.fn,hS.dfr,hS.out.own (Nat.lt_succ_self L) s,fun jt hj=>?_,?_⟩
 ·rcases List.mem_cons.1 hj with rfl | hj
  ·exact hok
  ·exact It.bs2 (hS.its jt hj) (List.all_eq_true.1 hf jt hj)
 ·refine ⟨?_,fun jt hj q hq hl=>?_,fun q hq=>?_,hS.reg.upl⟩
  ·rw [List.flatMap_cons]
   rcases hfo with e | e
   ·rw [e,List.singleton_append,List.nodup_cons]
    refine ⟨fun hm=>?_,hS.reg.sep⟩
    obtain ⟨jt,h1,h2⟩:=au0 hm
    exact hno jt h1 h2
   ·rw [e]; exact hS.reg.sep
  ·rcases List.mem_cons.1 hj with rfl | hj
   ·rcases hfo with e | e
    ·rw [e,List.mem_singleton] at hq; subst hq; simp only at hl; omega
    ·rw [e] at hq; cases hq
   ·exact hS.reg.upr jt hj q hq hl
  ·obtain ⟨jt,h1,h2,h3⟩:=hS.reg.cov q hq
   exact ⟨jt,List.mem_cons_of_mem _ h1,h2,h3⟩
omit [Cfg] in
theorem ce3 {K : List Nat} (hd : d ∈ K) : okK (L + 1) (some K) (.slots [⟨L + 1,d,0⟩]):=.inr ⟨_,rfl,by simp,fun q hq=>by
 rw [List.mem_singleton.1 hq,aR7]; exact hd⟩
theorem b82 {o : BO} {s : ae1} {v : AV} {E' : Env} {A' : List It} {T : BT} {S : AS} {c : Acc} {dd : Option Nat} (hop : bop P S T dd o = some (.chg v ⟨L + 1,d,0⟩ s)) (hw : o.w = true) (hc : AccR (L + 1) acc c) (hr : okK (L + 1) (some [d]) (bf.foot S T dd)) (hT : Ag E' (T.put dd v)) (hS : StA (S.set ⟨L + 1,d,0⟩ s) L f A')
  (h : GO1 P m (accP acc (some [d],some [d])) r L f E' A' Φ) : ∃ x T' S',finO m (ae2 P (ak5 P) c (⟨dd,none,bf,o⟩ :: r) T S) = some (x,T',S') ∧ Φ x T' S':=by
 obtain ⟨x,T',S',k1,k2⟩:=h _ (T.put dd v) (S.set ⟨L + 1,d,0⟩ s) (hc.push (f:=⟨bf.foot S T dd,.slot ⟨L + 1,d,0⟩⟩) ⟨hr,ce3 (List.mem_singleton.2 rfl)⟩) hT hS
 exact ⟨x,T',S',by rw [aj7,hop,hw,bT2]; exact k1,k2⟩
theorem co1 {e : TypeId} {cs : List AV} (hcl : AV.af2 cs = true) (hf : (A.all fun jt=>jt.free d) = true) (h : ∀ g,GO1 P m (accP acc (some [d],some [d])) r L f ((d,.ptr ⟨L + 1,d,0⟩ g 0 0) :: E) (.cel false [d] ⟨L + 1,d,0⟩ g e cs :: A) Φ) : GO1 P m acc (⟨some d,none,.here,.al e cs⟩ :: r) L f E A Φ:=by
 intro c T S hc hT hS
 have e1 : S.here d = ⟨L + 1,d,0⟩:=by rw [aO9,hS.lvl]
 exact b82 (v:=.ptr ⟨L + 1,d,0⟩ (S.fresh ⟨L + 1,d,0⟩) 0 0) (s:=.obj (S.fresh ⟨L + 1,d,0⟩) e cs) (by simp only [bop,e1]) rfl hc (aQ1 hS) (hT.put d _) (hS.push hf (it:=.cel false [d] ⟨L + 1,d,0⟩ _ e cs) (.inl rfl) ⟨AS.get_set_same ..,Pl.own _ _,fun a ha=>.c (am8 hcl a ha)⟩) (h _)
theorem g_bxP {e : TypeId} {x : X} {a : AV} {cs : List AV} (hx : opd E x = some a) (hcs : a.cells = cs) (hcl : AV.af2 cs = true) (hf : (A.all fun jt=>jt.free d) = true) (h : ∀ g,GO1 P m (accP acc (some [d],some [d])) r L f ((d,.ptr ⟨L + 1,d,0⟩ g 0 0) :: E) (.cel false [d] ⟨L + 1,d,0⟩ g e cs :: A) Φ) : GO1 P m acc (⟨some d,none,.here,.bx e x⟩ :: r) L f E A Φ:=by
 subst hcs
 intro c T S hc hT hS
 have e1 : S.here d = ⟨L + 1,d,0⟩:=by rw [aO9,hS.lvl]
 exact b82 (v:=.ptr ⟨L + 1,d,0⟩ (S.fresh ⟨L + 1,d,0⟩) 0 0) (s:=.obj (S.fresh ⟨L + 1,d,0⟩) e a.cells) (by simp only [bop,e1,hT.at hx]) rfl hc (aQ1 hS) (hT.put d _) (hS.push hf (it:=.cel false [d] ⟨L + 1,d,0⟩ _ e a.cells) (.inl rfl) ⟨AS.get_set_same ..,Pl.own _ _,fun a ha=>.c (am8 hcl a ha)⟩) (h _)
def RelA (n : Nat) (es : List (List V)) (a : AV) : Prop:=(es = [] ∧ ∃ p,a = .lit (.slice p 0 0)) ∨ ∃ sp ys,a = .list sp n ys ∧ ae5 es ys
omit [Cfg] in
theorem Gs.relA {S : AS} {n : Nat} {e : TypeId} {es : List (List V)} {a : AV} {F : List Loc} (h : Gs S n e es a F) : RelA n es a:=by
 rcases h with ⟨h1,h2,_⟩ | ⟨ys,h1,h2,_⟩ | ⟨q,k,ys,h1,h2,_⟩
 ·exact .inl ⟨h1,h2⟩
 ·exact .inr ⟨_,ys,h1,h2⟩
 ·exact .inr ⟨_,ys,h1,h2⟩
theorem bH9 {i n : Nat} {e : TypeId} {es : List (List V)} {a : AV} {F : List Loc} (hA : A[i]? = some (.own up ks (.gs n e es) a F)) (h : RelA n es a → GO1 P m acc l L f E A Φ) : GO1 P m acc l L f E A Φ:=fun c T S hc hT hS=>by
 have h1:=(hS.its _ (List.mem_of_getElem? hA)).1
 unfold AtO at h1
 exact h h1.relA c T S hc hT hS
theorem g_co {i : Nat} {o : OV} {a : AV} {F : List Loc} (hA : A[i]? = some (.own up ks o a F)) (h : Co (L + 1) a → GO1 P m acc l L f E A Φ) : GO1 P m acc l L f E A Φ:=fun c T S hc hT hS =>
 h (own_co (hS.its _ (List.mem_of_getElem? hA))) c T S hc hT hS
theorem s_iaA {α : Type} {x i : X} {a : AV} {xs : List α} {c : α → List V} {n : Nat} {k : IntKind} {j : Int} {e : α} (hx : opd E x = some a) (ha : RelA n (xs.map c) a) (hi : opd E i = some (.lit (.int k j))) (he : G.idx xs j = some e)
  : Stp P L f E A d .none (.ia n x i) af0 (fun u=>∃ zs,u = .cref zs ∧ RelP (c e) zs):=by
 unfold G.idx at he
 split at he
 ·rename_i h0
  rcases ha with ⟨hn,_⟩ | ⟨sp,ys,rfl,hr⟩
  ·have : xs = []:=by simpa using hn
   subst this
   simp at he
  ·obtain ⟨zs,h1,h2⟩:=hr.get (i:=j.toNat) (v:=c e) (by rw [List.getElem?_map,he]; rfl)
   exact bN0 (fun T S hT=>⟨_,by
    simp only [bop,hT.at hx,hT.at hi,iaV]
    rw [if_pos ⟨h0,trivial⟩,h1]
    rfl,zs,rfl,h2.toP⟩)
 ·cases he
omit [Cfg] in
theorem RelA.len {n : Nat} {es : List (List V)} {a : AV} (h : RelA n es a) : llV a = some (.lit (.int .i64 es.length)):=by
 rcases h with ⟨rfl,p,rfl⟩ | ⟨sp,ys,rfl,h⟩
 ·rfl
 ·show some _ = _
  rw [h.length]
theorem s_llA {α : Type} {x : X} {a : AV} {xs : List α} {c : α → List V} {n : Nat} (hx : opd E x = some a) (ha : RelA n (xs.map c) a) : Stp P L f E A d (.at x) (.ll x) (none,some []) (fun u=>u = .lit (.int .i64 xs.length)) :=
 aP2 (fun T S hT _=>⟨_,by
  simp only [bop,hT.at hx,ha.len,Option.map_some,List.length_map],rfl⟩) (fun _ _ _ _=>⟨trivial,.inl rfl⟩)
theorem c44 {s x : X} {a b : AV} {i n bytes : Nat} {e : TypeId} {F : List Loc} {α : Type} {c : α → List V} {xs ns zs : List α} (hl : Cfg.live f.fn d = false) (hs : opd E s = some a) (hx : opd E x = some b) (hA : A[i]? = some (.own up ks (.gs n e (xs.map c)) a F)) (hb : RelA n (ns.map c) b) (hby : Nat.ble bytes 100000 = true)
  (hf : cz7 [d] i A = true) (ho : (A.all fun jt=>okO ks jt) = true) (hz : G.app xs ns = some zs) (h : ∀ a' F',GO1 P m (accP acc (none,some (0 :: insK d ks))) r L f ((d,a') :: E) (A.set i (.own up (insK d ks) (.gs n e (zs.map c)) a' F')) Φ) (hro : f.ro = false ∨ up = false:=by first | exact .inl rfl | exact .inr rfl) : GO1 P m acc (⟨some d,none,.app s x,.ap e n bytes s x⟩ :: r) L f E A Φ:=by
 unfold G.app at hz
 split at hz
 case isFalse=>cases hz
 rename_i hlen
 cases hz
 intro cc T S hc hT hS
 obtain ⟨hk1,hk2⟩:=cd0 d ks
 have hks : (ks.all fun k=>(insK d ks).contains k) = true:=List.all_eq_true.2 fun k hk=>List.contains_iff_mem.2 (hk2 k hk)
 have hmem:=List.mem_of_getElem? hA
 obtain ⟨hat,hpl⟩:=hS.its _ hmem
 unfold AtO at hat
 have hbE : ∃ news,ao5 S n b = some news ∧ ae5 (ns.map c) news:=by
  rcases hb with ⟨h1,p,rfl⟩ | ⟨sp,ys,rfl,hr⟩
  ·exact ⟨[],rfl,by rw [h1]; unfold ae5; rfl⟩
  ·exact ⟨ys,a94 n sp ys,hr⟩
 obtain ⟨news,k1,k2⟩:=hbE
 have hnl : news.length = ns.length:=by rw [k2.length,List.length_map]
 have hone:=bE3 k2
 have hby':=am9 hby
 have e1 : S.here d = ⟨L + 1,d,0⟩:=by rw [aO9,hS.lvl]
 have hop : bop P S T (some d) (.ap e n bytes s x) = appB S d e n bytes a news:=by simp only [bop,hT.at hx,hT.at hs,k1]
 have hlive : Cfg.live S.fn d = false:=by rw [hS.fn]; exact hl
 -- nothing is laid
 have stay : appB S d e n bytes a news = some (.val a) → ns = [] → ∃ x1 T' S',finO m (ae2 P (ak5 P) cc (⟨some d,none,.app s x,.ap e n bytes s x⟩ :: r) T S) = some (x1,T',S') ∧ Φ x1 T' S':=by
  intro hv hns
  subst hns
  obtain ⟨x1,T',S',q1,q2⟩:=h a F _ (T.put (some d) a) S (hc.push (f:=⟨BF.foot S T (some d) (.app s x),.none⟩) ⟨trivial,.inl rfl⟩) (hT.put d a) (by
   rw [List.append_nil]
   exact ⟨hS.lvl,hS.fn,hS.dfr,hS.out,cY9 (it:=.own up (insK d ks) (.gs n e (xs.map c)) a F) ⟨by unfold AtO; exact hat,fun q hq=>(hpl q hq).mono hks⟩ hS.its,hS.reg.set hA rfl rfl⟩)
  exact ⟨x1,T',S',by rw [aj7,hop,hv,ca4]; exact q1,q2⟩
 -- a room is made
 have made : ∀ es : List (List AV),ae5 ((xs ++ ns).map c) es → F = [] → appB S d e n bytes a news = some (.chg (.list (.own ⟨L + 1,d,0⟩ (S.fresh ⟨L + 1,d,0⟩)) n es) ⟨L + 1,d,0⟩ (.tok (S.fresh ⟨L + 1,d,0⟩) es.length n e)) → ∃ x1 T' S',finO m (ae2 P (ak5 P) cc (⟨some d,none,.app s x,.ap e n bytes s x⟩ :: r) T S) = some (x1,T',S') ∧ Φ x1 T' S':=by
  intro es hr hF hv
  subst hF
  have hfree : ∀ j jt,A[j]? = some jt → j ≠ i → jt.free d = true:=by
   have key : ∀ {A : List It} {i : Nat},cz7 [d] i A = true → ∀ j jt,A[j]? = some jt → j ≠ i → jt.free d = true:=by
    intro A
    induction A with
    | nil=>intro i _ j jt hj; cases hj
    | cons a r ih =>
     intro i hf j jt hj hne
     cases i with
     | zero =>
      cases j with
      | zero=>exact absurd rfl hne
      | succ j =>
       have:=List.all_eq_true.1 hf jt (List.mem_of_getElem? (i:=j) hj)
       simpa using this
     | succ i =>
      simp only [cz7,Bool.and_eq_true] at hf
      cases j with
      | zero=>cases hj; simpa using hf.1
      | succ j=>exact ih hf.2 j jt hj (fun e=>hne (by rw [e]))
   exact key hf
  have hno : ∀ j jt,A[j]? = some jt → j ≠ i → (⟨L + 1,d,0⟩ : Loc) ∉ jt.foot:=fun j jt hj hne hm=>by
   obtain ⟨_,hp⟩:=It.there (hS.its jt (List.mem_of_getElem? hj)) _ hm
   have hfr:=hfree j jt hj hne
   rcases hp with h | h | h
   ·simp at h
   ·exact h.2.2 rfl
   ·exact It.cw7 hfr h.2.2
  have hlt : i < A.length:=(List.getElem?_eq_some_iff.1 hA).1
  have hS' : StA (S.set ⟨L + 1,d,0⟩ (.tok (S.fresh ⟨L + 1,d,0⟩) es.length n e)) L f (A.set i (.own up (insK d ks) (.gs n e ((xs ++ ns).map c)) (.list (.own ⟨L + 1,d,0⟩ (S.fresh ⟨L + 1,d,0⟩)) n es) [⟨L + 1,d,0⟩])):=by
   have hset : ∀ (j : Nat) (jt : It),(A.set i (.own up (insK d ks) (.gs n e ((xs ++ ns).map c)) (.list (.own ⟨L + 1,d,0⟩ (S.fresh ⟨L + 1,d,0⟩)) n es) [⟨L + 1,d,0⟩]))[j]? = some jt → (j = i ∧ jt = .own up (insK d ks) (.gs n e ((xs ++ ns).map c)) (.list (.own ⟨L + 1,d,0⟩ (S.fresh ⟨L + 1,d,0⟩)) n es) [⟨L + 1,d,0⟩]) ∨ (j ≠ i ∧ A[j]? = some jt):=fun j jt hj=>by
    by_cases e : i = j
    ·subst e
     rw [List.getElem?_set_self hlt] at hj
     cases hj
     exact .inl ⟨rfl,rfl⟩
    ·rw [List.getElem?_set_ne e] at hj
     exact .inr ⟨fun e'=>e e'.symm,hj⟩
   refine ⟨hS.lvl,hS.fn,hS.dfr,hS.out.own (Nat.lt_succ_self L) _,fun jt hj=>?_,?_⟩
   ·obtain ⟨j,hj⟩:=List.getElem?_of_mem hj
    rcases hset j jt hj with ⟨_,rfl⟩ | ⟨hne,hj⟩
    ·refine ⟨?_,fun q hq=>?_⟩
     ·unfold AtO
      exact .inr (.inr ⟨_,_,es,rfl,hr,AS.get_set_same ..,rfl⟩)
     ·rw [List.mem_singleton.1 hq]
      exact .inr (.inr ⟨rfl,rfl,hk1⟩)
    ·exact It.bs2 (hS.its jt (List.mem_of_getElem? hj)) (hfree j jt hj hne)
   ·refine ⟨?_,fun jt hj q hq hle=>?_,fun q hq=>?_,hS.reg.upl⟩
    ·have key : ∀ {A : List It} {i : Nat} {a it : It} {q : Loc},(A.flatMap It.foot).Nodup → A[i]? = some a → a.foot = [] → it.foot = [q] → (∀ j jt,A[j]? = some jt → j ≠ i → q ∉ jt.foot) → ((A.set i it).flatMap It.foot).Nodup:=by
      intro A
      induction A with
      | nil=>intro i a it q _ h; cases h
      | cons b r ih =>
       intro i a it q hn hi ha hit hno
       rw [List.flatMap_cons] at hn
       have hn1:=List.nodup_append.1 hn
       cases i with
       | zero =>
        cases hi
        rw [List.set_cons_zero,List.flatMap_cons,hit,List.singleton_append,List.nodup_cons]
        refine ⟨fun hm=>?_,hn1.2.1⟩
        obtain ⟨jt,h1,h2⟩:=au0 hm
        obtain ⟨j,hj⟩:=List.getElem?_of_mem h1
        exact hno (j + 1) jt hj (by omega) h2
       | succ i =>
        rw [List.set_cons_succ,List.flatMap_cons,List.nodup_append]
        refine ⟨hn1.1,ih hn1.2.1 hi ha hit fun j jt hj hne=>hno (j + 1) jt hj (by omega),fun x hx y hy e=>?_⟩
        subst e
        obtain ⟨jt,h1,h2⟩:=au0 hy
        rcases List.mem_or_eq_of_mem_set h1 with h1 | rfl
        ·exact hn1.2.2 x hx x (List.mem_flatMap.2 ⟨jt,h1,h2⟩) rfl
        ·rw [hit,List.mem_singleton] at h2
         subst h2
         exact hno 0 b rfl (by omega) hx
     exact key hS.reg.sep hA rfl rfl hno
    ·obtain ⟨j,hj⟩:=List.getElem?_of_mem hj
     rcases hset j jt hj with ⟨_,rfl⟩ | ⟨hne,hj⟩
     ·rw [show It.foot (.own up (insK d ks) (.gs n e ((xs ++ ns).map c)) (.list (.own ⟨L + 1,d,0⟩ (S.fresh ⟨L + 1,d,0⟩)) n es) [⟨L + 1,d,0⟩]) = [⟨L + 1,d,0⟩] from rfl,List.mem_singleton] at hq
      subst hq
      simp only at hle
      omega
     ·exact hS.reg.upr jt (List.mem_of_getElem? hj) q hq hle
    ·obtain ⟨jt,h1,h2,h3⟩:=hS.reg.cov q hq
     obtain ⟨j,hj⟩:=List.getElem?_of_mem h1
     by_cases e : i = j
     ·subst e
      rw [hA] at hj; cases hj
      cases h3
     ·exact ⟨jt,List.mem_of_getElem? (i:=j) (by rw [List.getElem?_set_ne e]; exact hj),h2,h3⟩
  obtain ⟨x1,T',S',q1,q2⟩:=h _ _ _ (T.put (some d) _) _ (hc.push (a:=(none,some (0 :: insK d ks))) (f:=⟨BF.foot S T (some d) (.app s x),.slot ⟨L + 1,d,0⟩⟩) ⟨trivial,ce3 (List.mem_cons_of_mem _ hk1)⟩) (hT.put d _) hS'
  exact ⟨x1,T',S',by rw [aj7,hop,hv,show (BO.ap e n bytes s x).w = true from rfl,bT2]; exact q1,q2⟩
 by_cases h0 : ns = []
 ·subst h0
  have hn0 : news = []:=List.length_eq_zero_iff.1 (by rw [hnl]; rfl)
  subst hn0
  refine stay ?_ rfl
  rcases hat with ⟨_,⟨p,rfl⟩,_⟩ | ⟨ys,rfl,_⟩ | ⟨q,k,ys,rfl,_⟩
  ·rfl
  ·exact aN9 d e n bytes _ _ _
  ·exact aN9 d e n bytes _ _ _
 ·have hpos : 0 < news.length:=by rw [hnl]; exact List.length_pos_iff.2 h0
  rcases hat with ⟨hxs,⟨p,rfl⟩,rfl⟩ | ⟨ys,rfl,hes,rfl⟩ | ⟨q,k,ys,rfl,hes,htok,rfl⟩
  ·have hxs : xs = []:=by simpa using hxs
   subst hxs
   refine made news (by simpa using k2) rfl ?_
   unfold appB
   rw [if_pos hone,if_neg (by omega)]
   simp only
   rw [if_pos (cr0 hby' (by simp at hlen; omega)),aT4 hlive,e1]
  ·refine made (ys ++ news) (by rw [List.map_append]; exact hes.append k2) rfl ?_
   rw [b47 hlive hone hpos hby' (by rw [hes.length,hnl,List.length_map]; exact hlen),List.length_append,e1]
  ·have hv:=bX0 (d0:=d) (S:=S) htok hone hpos hby' (by rw [hes.length,hnl,List.length_map]; exact hlen)
   have hS' : StA (S.set q (.tok k (ys.length + news.length) n e)) L f (A.set i (.own up (insK d ks) (.gs n e ((xs ++ ns).map c)) (.list (.own q k) n (ys ++ news)) [q])):=by
    refine hS.setI hA (p:=q) (List.mem_singleton.2 rfl) (it:=.own up (insK d ks) (.gs n e ((xs ++ ns).map c)) (.list (.own q k) n (ys ++ news)) [q]) ⟨?_,fun y hy=>(hpl y hy).mono hks⟩ rfl rfl ho (hro.imp id .inl)
    unfold AtO
    exact .inr (.inr ⟨q,k,ys ++ news,rfl,by rw [List.map_append]; exact hes.append k2,by rw [List.length_append]; exact AS.get_set_same ..,rfl⟩)
   obtain ⟨x1,T',S',q1,q2⟩:=h _ _ _ (T.put (some d) _) _ (hc.push (a:=(none,some (0 :: insK d ks))) (f:=⟨BF.foot S T (some d) (.app s x),.slot q⟩) ⟨trivial,.inr ⟨[q],rfl,by simp,fun y hy=>by
    rw [List.mem_singleton.1 hy]; exact ((hpl q (List.mem_singleton.2 rfl)).mono hks).key⟩⟩) (hT.put d _) hS'
   exact ⟨x1,T',S',by rw [aj7,hop,hv,show (BO.ap e n bytes s x).w = true from rfl,bT2]; exact q1,q2⟩
end
def ExL : List V → List AV → Prop
 | [],l=>l = []
 | v :: r,l=>∃ a t,l = a :: t ∧ CV v a ∧ ExL r t
theorem exL : ∀ {M : List V} {cs : List AV},ab7 M cs → ExL M cs
 | [],cs,h=>by unfold ab7 at h; exact h
 | v :: r,cs,h=>by
  unfold ab7 at h
  obtain ⟨a,t,h1,h2,h3⟩:=h
  exact ⟨a,t,h1,CV.rel.2 h2,exL h3⟩
theorem exL' {M : List V} {cs : List AV} (h : ab7 M cs) : ∃ l,cs = l ∧ ExL M l:=⟨cs,rfl,exL h⟩
theorem AtAs.closed {S : AS} : ∀ {rs : List RV} {l : List AV} {F : List Loc},AtAs S (rs.map OA.r) l F → RVLC rs l
 | [],l,F,h=>h.1
 | r :: rs,l,F,h=>by
  obtain ⟨a,t,F1,F2,rfl,rfl,h2,h3⟩:=h
  exact ⟨a,t,rfl,h2.1,h3.closed⟩
theorem RVLC.toS {L : Nat} : ∀ {rs : List RV} {l : List AV},RVLC rs l → RVL L rs l
 | [],l,h=>h
 | r :: rs,l,h=>by
  obtain ⟨a,t,rfl,h1,h2⟩:=h
  exact ⟨a,t,rfl,h1.toS,h2.toS⟩
theorem aX0 {x : AX} {L : Nat} {f : Fr} {E : Env} {A : List It} {br : List BR} {rs : List RV} {l : List AV} (h : ResI A E br (rs.map OA.r) l []) (hW : f.W = [] ∨ f.ro = true:=by first | exact .inl rfl | exact .inr rfl) (hx : x = .ret ∨ x = .normal:=by first | exact .inl rfl | exact .inr rfl) : G x L f E A (ab1 L br rs):=fun T S hT hS=>by
 obtain ⟨h1,h2⟩:=ResI.at hT (fun it hi=>hS.its it hi) h fun _ h=>(nomatch h)
 exact ⟨hx,hS.dfr,hW.elim hS.out.outs hS.out.outs',l,h1,h2.closed.toS⟩
theorem RelC.toA {n : Nat} {es : List (List V)} {a : AV} (h : RelC (.sl n es) a) : RelA n es a:=by
 unfold RelC at h
 rcases h with h | ⟨sp,ys,h1,_,h2⟩
 ·exact .inl h
 ·exact .inr ⟨sp,ys,h1,h2⟩
theorem rc1 {v : V} {a : AV} (h : RelC v a) : a.cells = [a] ∧ a.one = true:=⟨(h.toS (L:=0)).cells,(h.toS (L:=0)).one⟩
theorem RelA.cells {n : Nat} {es : List (List V)} {a : AV} (h : RelA n es a) : a.cells = [a] ∧ a.one = true:=by
 rcases h with ⟨_,p,rfl⟩ | ⟨sp,ys,rfl,_⟩ <;> exact ⟨rfl,rfl⟩
open Go.RowKit
theorem set2_eq {cs cs' : List AV} {off : Nat} {x y : AV} (hl : cs'.length = cs.length) (h1 : cs'[off]? = some x) (h2 : cs'[off + 1]? = some y) (h : ∀ i,i ≠ off → i ≠ off + 1 → cs'[i]? = cs[i]?) : cs' = (cs.set off x).set (off + 1) y:=by
 have e1:=aq6 h1
 have e2:=aq6 h2
 refine List.ext_getElem? fun i=>?_
 by_cases a : i = off + 1
 ·subst a
  rw [List.getElem?_set_self (by rw [List.length_set]; omega)]
  exact h2
 ·rw [List.getElem?_set_ne (fun e=>a e.symm)]
  by_cases b : i = off
  ·subst b
   rw [List.getElem?_set_self (by omega)]
   exact h1
  ·rw [List.getElem?_set_ne (fun e=>b e.symm)]
   exact h i b a
section
variable [Cfg] {P : Program} {L : Nat} {f : Fr} {E : Env} {A B : List It} {Φ : az3} {m : Option (List (Nat × Nat))} {acc : AAcc} {r : List BI} {d : Nat} {bf : BF}
variable {up u0 : Bool} {ks k0 : List Nat} {p : Loc} {g : Nat} {t : TypeId} {cs : List AV} {tp tb tu tz te fne fcc fws fwb fst : Nat}
omit [Cfg] in
theorem cY7 {S : AS} {off : Nat} {l : List UInt8} {sa a : AV} {F : List Loc} (hS : StA S L f (.cel up ks p g t cs :: .own u0 k0 (.bb te l) a F :: B)) (hs : cs[off]? = some sa) (hself : sa = .lit (.pointer none) ∨ sa = .ptr p g 0 off) (hb : cs[off + 1]? = some a) (hlen : Nat.ble cs.length 1000 = true) :
  ∃ q : Option Loc,BLD te S p g t off cs l q ∧ F = q.toList ∧ l.length ≤ 1000000000:=by
 obtain ⟨h1,h2,h3⟩:=hS.its _ (List.mem_cons_self ..)
 obtain ⟨h4,h5⟩:=hS.its _ (List.mem_cons_of_mem _ (List.mem_cons_self ..))
 have hlv : ∀ {ks q},Pl (L + 1) ks q → q.l ≤ S.lvl:=fun h=>by
  rw [hS.lvl]
  rcases h with h | h | h <;> omega
 unfold AtO at h4
 rcases h4 with ⟨e1,e2,e3⟩ | ⟨q,k,e1,e2,e3,e4⟩
 ·refine ⟨none,⟨h1,by rw [hS.lvl]; exact h3,am9 hlen,hlv h2,?_,.inl ⟨e1,rfl,by rw [hb,e2]⟩⟩,e3,by rw [e1]; exact Nat.zero_le _⟩
  rcases hself with e | e <;> rw [e] at hs
  ·exact .inl hs
  ·exact .inr hs
 ·refine ⟨some q,⟨h1,by rw [hS.lvl]; exact h3,am9 hlen,hlv h2,?_,.inr ⟨q,k,e1.1,rfl,by rw [hb,e2],e3,hlv (h5 q (by rw [e4]; exact List.mem_singleton.2 rfl))⟩⟩,e4,e1.2⟩
  rcases hself with e | e <;> rw [e] at hs
  ·exact .inl hs
  ·exact .inr hs
omit [Cfg] in
theorem ct9 {S : AS} {u : Upd} {off : Nat} {l l' : List UInt8} {a : AV} {F : List Loc} {cs' : List AV} {q q' : Option Loc} (hS : StA S L f (.cel up ks p g t cs :: .own u0 k0 (.bb te l) a F :: B)) (hF : F = q.toList) (hl' : l'.length ≤ 1000000000) (hw : Wrote te S u p g t off cs cs' l' q q') (ho : (B.all (okO (ks ++ k0))) = true) (hro : f.ro = false ∨ (up || u0) = false) :
  ∃ sa' a',(sa' = .lit (.pointer none) ∨ sa' = .ptr p g 0 off) ∧ StA (S.after u) L f (.cel (up || u0) (ks ++ k0) p g t ((cs.set off sa').set (off + 1) a') :: .own (up || u0) (ks ++ k0) (.bb te l') a' q'.toList :: B):=by
 subst hF
 obtain ⟨sa',hsa,hs1⟩ : ∃ sa',cs'[off]? = some sa' ∧ (sa' = .lit (.pointer none) ∨ sa' = .ptr p g 0 off):=by
  rcases hw.bld.addr with h | h
  ·exact ⟨_,h,.inl rfl⟩
  ·exact ⟨_,h,.inr rfl⟩
 obtain ⟨a',ha',hbb⟩ : ∃ a',cs'[off + 1]? = some a' ∧ Bb (S.after u) te l' a' q'.toList:=by
  rcases hw.bld.buf with ⟨e1,e2,e3⟩ | ⟨q1,k,e1,e2,e3,e4,_⟩
  ·subst e2
   exact ⟨_,e3,.inl ⟨e1,rfl,rfl⟩⟩
  ·subst e2
   exact ⟨_,e3,.inr ⟨q1,k,⟨e1,hl'⟩,rfl,e4,rfl⟩⟩
 have hcs:=set2_eq hw.len hsa ha' hw.others
 refine ⟨sa',a',hs1,?_⟩
 have hsep:=hS.reg.sep
 simp only [List.flatMap_cons,It.foot,List.singleton_append,List.nodup_cons,List.mem_append,not_or] at hsep
 have hL : Left S u (p :: q.toList) (p :: q'.toList):=by
  refine ⟨hw.lvl,hw.fn,hw.dfr,?_,fun x hx=>?_,fun x hx=>?_,fun x hx=>?_,hw.frame⟩
  ·rw [List.nodup_cons]
   refine ⟨fun hm=>?_,by cases q' <;> simp⟩
   rcases hw.room with e | ⟨q1,e1,e2,e3,e4,e5,e6⟩
   ·rw [e] at hm; exact hsep.1.1 hm
   ·rw [e1] at hm
    simp only [Option.toList_some,List.mem_singleton] at hm
    obtain ⟨h1,_⟩:=hS.its _ (List.mem_cons_self ..)
    rw [hm,e6] at h1; cases h1
  ·rcases List.mem_cons.1 hx with rfl | hx
   ·exact List.mem_cons_self ..
   ·rcases hw.room with e | ⟨q1,e1,e2,_⟩
    ·rw [e]; exact List.mem_cons_of_mem _ hx
    ·rw [e2] at hx; cases hx
  ·rcases List.mem_cons.1 hx with rfl | hx
   ·exact .inl (List.mem_cons_self ..)
   ·rcases hw.room with e | ⟨q1,e1,e2,e3,e4,e5,e6⟩
    ·rw [e] at hx; exact .inl (List.mem_cons_of_mem _ hx)
    ·rw [e1] at hx
     simp only [Option.toList_some,List.mem_singleton] at hx
     subst hx
     exact .inr ⟨e3,e4,e5,e6⟩
  ·rcases hw.log x hx with h | h | h
   ·exact .inl (by rw [h]; exact List.mem_cons_self ..)
   ·exact .inl (List.mem_cons_of_mem _ (by rw [← h]; simp))
   ·exact .inr h
 refine ca9 (A1:=[.cel up ks p g t cs,.own u0 k0 (.bb te l) a q.toList]) (N:=[.cel (up || u0) (ks ++ k0) p g t ((cs.set off sa').set (off + 1) a'),.own (up || u0) (ks ++ k0) (.bb te l') a' q'.toList]) hS (by simp [It.foot]) hL (by simpa [keysOf,It.keys] using ho) (by simp [It.foot]) (fun it hi=>?_) (fun hpl it hi=>?_) (by simpa [upOf,It.up] using hro)
 ·simp only [List.mem_cons,List.not_mem_nil,or_false] at hi
  rcases hi with rfl | rfl <;> simp [It.up,upOf,keysOf,It.keys]
 ·have e0 : keysOf [It.cel up ks p g t cs,It.own u0 k0 (OV.bb te l) a q.toList] = ks ++ k0:=by simp [keysOf,It.keys]
  rw [e0] at hpl
  simp only [List.mem_cons,List.not_mem_nil,or_false] at hi
  rcases hi with rfl | rfl
  ·refine ⟨by rw [← hcs]; exact hw.bld.get,hpl p (List.mem_cons_self ..),fun x hx=>?_⟩
   have:=hw.bld.co x (by rw [hcs]; exact hx)
   rw [hw.lvl,hS.lvl] at this
   exact this
  ·exact ⟨by unfold AtO; exact hbb,fun x hx=>hpl x (List.mem_cons_of_mem _ hx)⟩
theorem cx7 {x y : X} {off : Nat} {l xs zs : List UInt8} {sa a : AV} {F : List Loc} (Bc : BldC P tp tb tu tz te fne fcc fws fwb fst) (hup : Cfg.up fws f.fn = true) (hx : opd E x = some (.ptr p g 0 off)) (hy : opd E y = some (.lit (.string (bs xs)))) (hA : A = .cel up ks p g t cs :: .own u0 k0 (.bb te l) a F :: B) (hs : cs[off]? = some sa) (hself : sa = .lit (.pointer none) ∨ sa = .ptr p g 0 off) (hb : cs[off + 1]? = some a) (hlen : Nat.ble cs.length 1000 = true)
  (hlies : liesAt P P.depth t (cs.length / P.cellsOf t) off tb 1 = true) (ho : (B.all (okO (ks ++ k0))) = true) (hz : G.app l xs = some zs) (h : ∀ v sa' a' F',(sa' = .lit (.pointer none) ∨ sa' = .ptr p g 0 off) → GO1 P m (accP acc (none,none)) r L f ((d,v) :: E) (.cel (up || u0) (ks ++ k0) p g t ((cs.set off sa').set (off + 1) a') :: .own (up || u0) (ks ++ k0) (.bb te zs) a' F' :: B) Φ) (hro : f.ro = false ∨ (up || u0) = false:=by first | exact .inl rfl | exact .inr rfl) : GO1 P m acc (⟨some d,none,bf,.cl fws [x,y]⟩ :: r) L f E A Φ:=by
 subst hA
 intro c T S hc hT hS
 unfold G.app at hz
 split at hz
 case isFalse=>cases hz
 rename_i hsz
 cases hz
 obtain ⟨q,hB,hF,_⟩:=cY7 hS hs hself hb hlen
 obtain ⟨u,v,cs',q',k1,k2⟩:=ws_ok (x:=xs) Bc.F Bc.gcc Bc.cc Bc.gws Bc.ws Bc.upw (by rw [hS.fn]; exact hup) Bc.lws hlies hB hsz
 obtain ⟨sa',a',e1,hS'⟩:=ct9 hS hF (by rw [List.length_append]; exact hsz) k2 ho hro
 obtain ⟨x1,T',S',q1,q2⟩:=h v sa' a' _ e1 _ (T.put (some d) v) (S.after u) (hc.push (a:=(none,none)) (f:=⟨.all,u.kind⟩) ⟨trivial,trivial⟩) (hT.put d v) hS'
 refine ⟨x1,T',S',?_,q2⟩
 rw [b_cl]
 simp only [List.map_cons,List.map_nil,hT.at hx,hT.at hy,hS.fn,hup,Bool.not_true,Bool.false_and,aQ9,k1,bO7]
 exact q1
theorem g_bwbP {x y : X} {off : Nat} {l zs : List UInt8} {n : Int} {sa a : AV} {F : List Loc} (Bc : BldC P tp tb tu tz te fne fcc fws fwb fst) (hup : Cfg.up fwb f.fn = true) (hx : opd E x = some (.ptr p g 0 off)) (hy : opd E y = some (.lit (.int .u8 n))) (hA : A = .cel up ks p g t cs :: .own u0 k0 (.bb te l) a F :: B) (hs : cs[off]? = some sa) (hself : sa = .lit (.pointer none) ∨ sa = .ptr p g 0 off) (hb : cs[off + 1]? = some a) (hlen : Nat.ble cs.length 1000 = true)
  (hlies : liesAt P P.depth t (cs.length / P.cellsOf t) off tb 1 = true) (ho : (B.all (okO (ks ++ k0))) = true) (hz : G.appB l n = some zs) (h : ∀ v sa' a' F',(sa' = .lit (.pointer none) ∨ sa' = .ptr p g 0 off) → GO1 P m (accP acc (none,none)) r L f ((d,v) :: E) (.cel (up || u0) (ks ++ k0) p g t ((cs.set off sa').set (off + 1) a') :: .own (up || u0) (ks ++ k0) (.bb te zs) a' F' :: B) Φ) (hro : f.ro = false ∨ (up || u0) = false:=by first | exact .inl rfl | exact .inr rfl) : GO1 P m acc (⟨some d,none,bf,.cl fwb [x,y]⟩ :: r) L f E A Φ:=by
 subst hA
 intro c T S hc hT hS
 unfold G.appB at hz
 split at hz
 case isFalse=>cases hz
 rename_i hsz
 cases hz
 have hn : (n : Int) = ((UInt8.ofNat n.toNat).toNat : Int):=by
  have : (UInt8.ofNat n.toNat).toNat = n.toNat:=by simp [UInt8.toNat_ofNat']; omega
  rw [this]; omega
 obtain ⟨q,hB,hF,_⟩:=cY7 hS hs hself hb hlen
 obtain ⟨u,v,cs',q',k1,k2⟩:=wb_ok (x:=UInt8.ofNat n.toNat) Bc.F Bc.gcc Bc.cc Bc.gwb Bc.wb Bc.upb (by rw [hS.fn]; exact hup) Bc.lwb Bc.lwb2 hlies hB hsz.2.2
 obtain ⟨sa',a',e1,hS'⟩:=ct9 hS hF (by rw [List.length_append]; exact hsz.2.2) k2 ho hro
 obtain ⟨x1,T',S',q1,q2⟩:=h v sa' a' _ e1 _ (T.put (some d) v) (S.after u) (hc.push (a:=(none,none)) (f:=⟨.all,u.kind⟩) ⟨trivial,trivial⟩) (hT.put d v) hS'
 refine ⟨x1,T',S',?_,q2⟩
 rw [b_cl]
 rw [← hn] at k1
 simp only [List.map_cons,List.map_nil,hT.at hx,hT.at hy,hS.fn,hup,Bool.not_true,Bool.false_and,aQ9,k1,bO7]
 exact q1
theorem s_bstP {x : X} {off : Nat} {l : List UInt8} {sa a : AV} {F : List Loc} (Bc : BldC P tp tb tu tz te fne fcc fws fwb fst) (hx : opd E x = some (.ptr p g 0 off)) (hA : A = .cel up ks p g t cs :: .own u0 k0 (.bb te l) a F :: B) (hs : cs[off]? = some sa) (hself : sa = .lit (.pointer none) ∨ sa = .ptr p g 0 off) (hb : cs[off + 1]? = some a) (hlen : Nat.ble cs.length 1000 = true) : Stp P L f E A d bf (.cl fst [x]) (none,some []) (fun u=>u = .lit (.string (bs l))):=by
 subst hA
 intro T S hT hS
 obtain ⟨q,hB,_,hl⟩:=cY7 hS hs hself hb hlen
 refine ⟨_,⟨.all,Upd.kind none⟩,rfl,⟨trivial,.inl rfl⟩,fun c r=>?_⟩
 have hread : aQ6 S (.ptr p g 0 off) = some (cs.drop off):=by simp [aQ6,AS.ao7,hB.get]
 have hgiv : ak5 P fst [.ptr p g 0 off] S = some (.ret (.lit (.string (bs l))),none):=by
  refine ai7.2 ⟨1,?_⟩
  show (match Cfg.given fst with
   | some h=>h [.ptr p g 0 off] S
   | none=>_) = _
  rw [Bc.st]
  show aB8 te _ S = _
  unfold aB8
  simp only [hread]
  have e1:=List.drop_eq_getElem_cons (aq6 hs)
  have e2:=List.drop_eq_getElem_cons (aq6 hb)
  rcases hB.buf with ⟨rfl,_,hb'⟩ | ⟨q1,h,hne,_,hb',htok,_⟩
  ·have e3 : cs[off + 1]'(aq6 hb) = .lit (.slice none 0 0):=by
    have:=List.getElem?_eq_getElem (aq6 hb)
    rw [hb'] at this
    exact (Option.some.inj this).symm
   rw [e1,e2,e3]
   rfl
  ·have e3 : cs[off + 1]'(aq6 hb) = .list (.own q1 h) 1 (u8s l):=by
    have:=List.getElem?_eq_getElem (aq6 hb)
    rw [hb'] at this
    exact (Option.some.inj this).symm
   have hlen : l.length ≠ 0:=fun e=>hne (List.length_eq_zero_iff.1 e)
   rw [e1,e2,e3]
   simp only [htok,aR3,cn6,Option.map_some,true_and,ne_eq,hlen,not_false_eq_true]
   rw [if_pos (by unfold maxLen; omega)]
 have hcl : AV.af2 [AV.ag0 (.ptr p g 0 off)] = false:=rfl
 rw [b_cl]
 simp only [List.map_cons,List.map_nil,hT.at hx,hcl,Bool.and_false,aQ9,hgiv,bO7]
 rfl
omit [Cfg] in
theorem Mv.addB {L : Nat} {f : Fr} {A : List It} {te : TypeId} {ks : List Nat} : Mv f L A (fun A'=>A' = .own false ks (.bb te []) (.lit (.slice none 0 0)) [] :: A):=fun _ hS =>
 ⟨_,rfl,hS.addF (it:=.own false ks (.bb te []) (.lit (.slice none 0 0)) []) ⟨by unfold AtO; exact .inl ⟨rfl,rfl,rfl⟩,fun q hq=>(nomatch hq)⟩ rfl⟩
end
theorem g_in {σ β ρ : Type} {L : Nat} {f : Fr} {E : Env} {A : List It} {id : Nat} {IN : σ → BT → AS → Prop} {IB : β → BT → AS → Prop} {IR : ρ → az3} {r : ρ} (h : G .ret L f E A (IR r)) : G .ret L f E A (am1 id IN IB IR (.ret r)):=fun T S hT hS=>⟨rfl,h T S hT hS⟩
inductive cO4 (E : Env) : List AV → List (Nat × Nat × X) → List AV → Prop where
 | nil {z z' : List AV} (h : z = z') : cO4 E z [] z'
 | cons {z ys cs : List AV} {off size : Nat} {x : X} {a : AV} {r : List (Nat × Nat × X)} (hx : opd E x = some a) (hc : a.cells = ys) (hn : ys.length = size) (hle : Nat.ble (off + size) z.length = true) (h : cO4 E (splice z off ys) r cs) : cO4 E z ((off,size,x) :: r) cs
theorem cO4.ok {E : Env} {T : BT} (hT : Ag E T) {z : List AV} {pl : List (Nat × Nat × X)} {cs : List AV} (h : cO4 E z pl cs) : aY3 T z pl = some cs:=by
 induction h with
 | nil h=>subst h; rfl
 | @cons z ys cs off size x a r hx hc hn hle h ih =>
  rw [bt2 z off size x r (by rw [hT.at hx,hc]; exact hn) (am9 hle),hT.at hx,hc]
  exact ih
section
variable [Cfg] {P : Program} {L : Nat} {f : Fr} {E : Env} {A : List It} {Φ : az3} {m : Option (List (Nat × Nat))} {acc : AAcc} {r : List BI} {d : Nat}
theorem s_bdX {z cs : List AV} {pl : List (Nat × Nat × X)} (hp : cO4 E z pl cs) : Stp P L f E A d .none (.bd z pl) af0 (fun u=>u = .agg cs) :=
 bu8 fun T S hT=>by simp only [bop,hp.ok hT,Option.map_some]
theorem aX1 {o : BO} {bf : BF} {dd : Option Nat} {t : Nat} {w : Bool} {u : AV} (ht : look E t = some u) (hw : cO2 w u = true) (h : GO1 P m acc (⟨dd,none,bf,o⟩ :: r) L f E A Φ) : GO1 P m acc (⟨dd,some (t,w),bf,o⟩ :: r) L f E A Φ:=by
 intro c T S hc hT hS
 have e : aW4 T (some (t,w)) = true:=by rw [aU0,hT t u ht,hw]
 obtain ⟨x,T',S',k1,k2⟩:=h c T S hc hT hS
 refine ⟨x,T',S',?_,k2⟩
 rw [b41,e,cA9]
 exact k1
theorem aX3 {o : BO} {bf : BF} {t : Nat} {w : Bool} {u : AV} (ht : look E t = some u) (hw : cO2 w u = false) (h : GO1 P m (accP acc af0) r L f ((d,.lit undef) :: E) A Φ) : GO1 P m acc (⟨some d,some (t,w),bf,o⟩ :: r) L f E A Φ:=by
 intro c T S hc hT hS
 have e : aW4 T (some (t,w)) = false:=by rw [aU0,hT t u ht,hw]
 obtain ⟨x,T',S',k1,k2⟩:=h _ (T.put (some d) (.lit undef)) S (hc.push (a:=af0) (f:=⟨.none,.none⟩) ⟨.inl rfl,.inl rfl⟩) (hT.put d _) hS
 refine ⟨x,T',S',?_,k2⟩
 rw [b41,e,cj1]
 exact k1
end
theorem g_relS {x : AX} {L : Nat} {f : Fr} {E : Env} {A : List It} {Φ : az3} {i n : Nat} {e : TypeId} {es : List (List V)} {a : AV} {F : List Loc} {up : Bool} {ks : List Nat} (hA : A[i]? = some (.own up ks (.gs n e es) a F)) (h : RelS (L + 1) (.sl n es) a → G x L f E A Φ) (hW : f.W = [] ∨ up = false:=by first | exact .inl rfl | exact .inr rfl) : G x L f E A Φ:=fun T S hT hS=>by
 refine h ?_ T S hT hS
 have hm:=List.mem_of_getElem? hA
 obtain ⟨h1,h2⟩:=hS.its _ hm
 unfold AtO at h1
 rcases h1 with ⟨h3,h4,_⟩ | ⟨ys,rfl,h4,_⟩ | ⟨q,k,ys,rfl,h4,h5,rfl⟩
 ·exact .inl ⟨h3,h4⟩
 ·exact .inr ⟨_,ys,rfl,.inl rfl,h4⟩
 ·refine .inr ⟨_,ys,rfl,.inr ⟨q,k,rfl,?_⟩,h4⟩
  have hq : q ∈ It.foot (.own up ks (.gs n e es) (.list (.own q k) n ys) [q]):=List.mem_singleton.2 rfl
  rcases h2 q (List.mem_singleton.2 rfl) with h | h | h
  ·have:=hS.reg.upr _ hm q hq (by omega)
   rcases hW with e | e
   ·rw [e] at this; cases this.2
   ·rw [show It.up _ = up from rfl,e] at this; cases this.1
  ·exact h.1
  ·exact h.1
inductive ResS (L : Nat) (A : List It) (E : Env) : List BR → List RV → List AV → Prop
 | nil : ResS L A E [] [] []
 | t {n : Nat} {a : AV} {v : RV} {b : List BR} {r : List RV} {t : List AV} (hx : look E n = some a) (hv : v.S (L + 1) a) (h : ResS L A E b r t) : ResS L A E (.t n :: b) (v :: r) (a :: t)
 | c1 {n i g : Nat} {p : Loc} {cs : List AV} {a : AV} {v : RV} {b : List BR} {r : List RV} {t : List AV} (hx : look E n = some (.ptr p g 0 0)) (hA : celAt A i p g cs) (hc : cs[0]? = some a) (hv : v.S (L + 1) a) (h : ResS L A E b r t) : ResS L A E (.c1 n :: b) (v :: r) (a :: t)
 | cn {n m i g : Nat} {p : Loc} {cs : List AV} {M : List V} {b : List BR} {r : List RV} {t : List AV} (hx : look E n = some (.ptr p g 0 0)) (hA : celAt A i p g cs) (hM : aq5 (L + 1) M cs) (hm : M.length = m) (h : ResS L A E b r t) : ResS L A E (.cn n m :: b) (.agg M :: r) (.agg cs :: t)
theorem ResS.at {L : Nat} {A0 : List It} {E : Env} {T : BT} {S : AS} (hT : Ag E T) (h0 : ∀ it ∈ A0,it.ok S (L + 1)) {br : List BR} {rs : List RV} {l : List AV} (h : ResS L A0 E br rs l) : aT1 S T br = some l ∧ RVL (L + 1) rs l:=by
 induction h with
 | nil=>exact ⟨rfl,rfl⟩
 | @t n a v b r t hx hv h ih =>
  refine ⟨?_,a,t,rfl,hv,ih.2⟩
  rw [ar6,ih.1,cb9,hT n a hx]
  rfl
 | @c1 n i g p cs a v b r t hx hA0 hc hv h ih =>
  obtain ⟨u,ks,ty,hA0⟩:=hA0
  refine ⟨?_,a,t,rfl,hv,ih.2⟩
  rw [ar6,ih.1,cg7,hT n _ hx]
  rw [bk9 (h0 _ (List.mem_of_getElem? hA0)).1 hc]
  rfl
 | @cn n m i g p cs M b r t hx hA0 hM hm h ih =>
  obtain ⟨u,ks,ty,hA0⟩:=hA0
  refine ⟨?_,_,t,rfl,⟨cs,rfl,hM⟩,ih.2⟩
  have hl : cs.length = m:=by rw [hM.length,hm]
  rw [ar6,ih.1,cf9,hT n _ hx]
  rw [bu0 (h0 _ (List.mem_of_getElem? hA0)).1,if_pos (by simp [hl]),List.drop_zero,List.take_of_length_le (by omega)]
  rfl
theorem g_resS {x : AX} {L : Nat} {f : Fr} {E : Env} {A : List It} {br : List BR} {rs : List RV} {l : List AV} (h : ResS L A E br rs l) (hW : f.W = [] ∨ f.ro = true:=by first | exact .inl rfl | exact .inr rfl) (hx : x = .ret ∨ x = .normal:=by first | exact .inl rfl | exact .inr rfl) : G x L f E A (ab1 L br rs):=fun T S hT hS=>by
 obtain ⟨h1,h2⟩:=ResS.at hT (fun it hi=>hS.its it hi) h
 exact ⟨hx,hS.dfr,hW.elim hS.out.outs hS.out.outs',l,h1,h2⟩
section
variable [Cfg] {P : Program} {L : Nat} {f : Fr} {E : Env} {A : List It} {Φ : az3} {m : Option (List (Nat × Nat))} {acc : AAcc} {r : List BI} {d : Nat}
variable {up : Bool} {ks : List Nat} {k g : Nat} {t : TypeId} {cs : List AV}
theorem aL5 {x : X} {i off : Nat} {a : AV} (hx : opd E x = some (.ptr ⟨L + 1,k,0⟩ g 0 off)) (hA : A[i]? = some (.cel up ks ⟨L + 1,k,0⟩ g t cs)) (hc : cs[off]? = some a) : Stp P L f E A d (.at x) (.ld1 x) (some [k],some []) (fun u=>u = a):=by
 refine aP2 (fun T S hT hS=>⟨a,?_,rfl⟩) (fun T S hT hS=>⟨b99 (S:=S) (d:=some d) hT hx,.inl rfl⟩)
 simp only [bop,hT.at hx]
 rw [bk9 (hS.its _ (List.mem_of_getElem? hA)).1 hc]
 rfl
theorem bh0 {x : X} {i off n : Nat} {N : List AV} (hx : opd E x = some (.ptr ⟨L + 1,k,0⟩ g 0 off)) (hA : A[i]? = some (.cel up ks ⟨L + 1,k,0⟩ g t cs)) (hn : Nat.ble (off + n) cs.length = true) (hN : (cs.drop off).take n = N) : Stp P L f E A d (.at x) (.ldn n x) (some [k],some []) (fun u=>u = .agg N):=by
 subst hN
 refine aP2 (fun T S hT hS=>⟨_,?_,rfl⟩) (fun T S hT hS=>⟨b99 (S:=S) (d:=some d) hT hx,.inl rfl⟩)
 have:=am9 hn
 simp only [bop,hT.at hx]
 rw [bu0 (hS.its _ (List.mem_of_getElem? hA)).1,if_pos (by rw [List.length_drop]; omega)]
 rfl
theorem ci9 {x v : X} {i off n : Nat} {b : AV} {cs' : List AV} (hx : opd E x = some (.ptr ⟨L + 1,k,0⟩ g 0 off)) (hv : opd E v = some b) (hA : A[i]? = some (.cel up ks ⟨L + 1,k,0⟩ g t cs)) (hn : b.cells.length = n) (hone : b.cells.all AV.one = true) (hco : ∀ a ∈ b.cells,Co (L + 1) a) (hle : Nat.ble (off + n) cs.length = true) (hcs : splice cs off b.cells = cs')
  (ho : (A.all fun jt=>okO ks jt) = true) (h : GO1 P m (accP acc (some [k],some [k])) r L f E (A.set i (.cel up ks ⟨L + 1,k,0⟩ g t cs')) Φ) : GO1 P m acc (⟨none,none,.at x,.st n x v⟩ :: r) L f E A Φ:=by
 intro c T S hc hT hS
 subst hcs
 have hit:=hS.its _ (List.mem_of_getElem? hA)
 have hle':=am9 hle
 have hst:=bh8 (n:=n) (xs:=b.cells) hit.1 hn (off:=off) (by rw [hn]; exact hle') hone
 have hS' : StA (S.set ⟨L + 1,k,0⟩ (.obj g t (splice cs off b.cells))) L f (A.set i (.cel up ks ⟨L + 1,k,0⟩ g t (splice cs off b.cells))) :=
  hS.setI hA (p:=⟨L + 1,k,0⟩) (List.mem_singleton.2 rfl) (it:=.cel up ks ⟨L + 1,k,0⟩ g t (splice cs off b.cells)) ⟨AS.get_set_same ..,hit.2.1,fun a ha=>(b87 ha).elim (hit.2.2 a) (hco a)⟩ rfl rfl ho (.inr (.inr (Nat.lt_succ_self L)))
 obtain ⟨x1,T',S',q1,q2⟩:=h _ (T.put none (.lit undef)) _ (hc.push (a:=(some [k],some [k])) (f:=⟨BF.foot S T none (.at x),.slot ⟨L + 1,k,0⟩⟩) ⟨b99 (S:=S) (d:=none) hT hx,ce3 (List.mem_singleton.2 rfl)⟩) hT hS'
 refine ⟨x1,T',S',?_,q2⟩
 have hop : bop P S T none (.st n x v) = some (.chg (.lit undef) ⟨L + 1,k,0⟩ (.obj g t (splice cs off b.cells))):=by
  simp only [bop,hT.at hx,hT.at hv]
  rw [hst]
  rfl
 rw [aj7,hop,show (BO.st n x v).w = true from rfl,bT2]
 exact q1
theorem cJ0 {x v : X} {i off : Nat} {b : AV} {cs' : List AV} (hx : opd E x = some (.ptr ⟨L + 1,k,0⟩ g 0 off)) (hv : opd E v = some b) (hA : A[i]? = some (.cel up ks ⟨L + 1,k,0⟩ g t cs)) (hb : b.cells = [b] ∧ b.one = true) (hco : Co (L + 1) b) (hle : Nat.ble (off + 1) cs.length = true) (hcs : splice cs off [b] = cs')
  (ho : (A.all fun jt=>okO ks jt) = true) (h : GO1 P m (accP acc (some [k],some [k])) r L f E (A.set i (.cel up ks ⟨L + 1,k,0⟩ g t cs')) Φ) : GO1 P m acc (⟨none,none,.at x,.st 1 x v⟩ :: r) L f E A Φ :=
 ci9 hx hv hA (by rw [hb.1]; rfl) (by rw [hb.1]; simp [hb.2]) (fun a ha=>by rw [hb.1,List.mem_singleton] at ha; rw [ha]; exact hco) hle (by rw [hb.1]; exact hcs) ho h
end
open Go.RowKit
section
variable [Cfg] {P : Program} {L : Nat} {f : Fr} {E : Env} {A : List It} {d : Nat}
end
def RVN (rs : List RV) (args : List AV) : Prop:=RVLC rs (args.map AV.ag0)
theorem RVL.toN {L : Nat} {rs : List RV} {args : List AV} (h : RVL L rs args) : RVN rs args:=h.norm
theorem RVLC.len : ∀ {rs : List RV} {l : List AV},RVLC rs l → l.length = rs.length
 | [],l,h=>by cases h; rfl
 | r :: rs,l,h=>by
  obtain ⟨a,t,rfl,_,h⟩:=h
  simp [h.len]
theorem RelA.nrmA {n : Nat} {es : List (List V)} {a : AV} (h : RelA n es a) : RV.C (.sl n es) a.ag0:=by
 rcases h with ⟨rfl,p,rfl⟩ | ⟨sp,ys,rfl,h⟩
 ·exact RelC.nil n p
 ·exact RelC.list rfl h
theorem RV.C.nrmA {r : RV} {a : AV} (h : r.C a) : r.C a.ag0:=(h.toS (L:=0)).norm
section
variable [Cfg] {P : Program}
omit [Cfg] in
theorem cJ6 [Cfg] {S S' : AS} {T : BT} {g : FuncId} {res : List BR} {x : AX} (hx : x = .ret ∨ x = .normal) (hd : S'.dfr = []) : bfin g res S (some (x,T,S')) = bret g S S' (aT1 S' T res):=by
 rcases hx with rfl | rfl
 ·exact aZ1 hd
 ·exact aS6 hd
theorem al5 {f : FuncId} {b : BFn} {args : List AV} {rsA rs : List RV} (hg : Cfg.given f = none) (hf : aq2 P f = some b) (hup : ∀ h,Cfg.up f h = false) (hn : Nat.ble rsA.length b.nt = true) (hsz : Nat.ble (rs.length + (rs.map RV.size).sum + 5) 100000 = true)
  (h : ∀ L as1,RVLC rsA as1 → GC P b.code L f (numE 0 as1) [] (ab1 L b.res rs)) (ha : RVN rsA args) : aV8 P f args (ResC rs):=by
 intro S args0 he
 replace ha : RVN rsA args0:=by unfold RVN; rw [he]; exact ha
 clear he
 revert ha
 generalize args0 = args
 intro ha
 obtain ⟨x,T',S',h1,h2,h3,h4,as1,h5,h6⟩:=h S.lvl (args.map AV.ag0) ha (bF8 (args.map AV.ag0)) (S.enter f) (Ag.args _) ⟨rfl,rfl,rfl,FrOk.enter f (.inl rfl),fun _ hi=>(nomatch hi),RegA.none rfl⟩
 obtain ⟨v,k1,k2⟩:=cZ7 S' h6 (am9 hsz)
 have hl : args.length = rsA.length:=by have:=ha.len; rwa [List.length_map] at this
 refine ⟨v,aY9 hg hf (by rw [hl]; exact am9 hn) ?_,k2⟩
 rw [cb4 (hup _),h1,cJ6 h2 h3,h5]
 unfold bret
 simp only
 rw [bF3 (hup _) h4,k1]
 rfl
omit [Cfg] in
theorem RV.C.closed {r : RV} {a : AV} (h : r.C a) : a.closed = true:=by
 cases r with
 | int k n=>cases h; rfl
 | bool b=>cases h; rfl
 | str l=>cases h; rfl
 | sl sz es=>exact RelC.closed h
 | v x=>exact RelC.closed h
 | agg M=>obtain ⟨cs,rfl,h⟩:=h; simp only [AV.closed]; exact ab7.closed h
omit [Cfg] in
theorem RVLC.closed : ∀ {rs : List RV} {l : List AV},RVLC rs l → AV.af2 l = true
 | [],l,h=>by cases h; rfl
 | r :: rs,l,h=>by
  obtain ⟨a,t,rfl,h1,h2⟩:=h
  simp only [AV.af2,h1.closed,RVLC.closed h2,Bool.and_self]
variable {L : Nat} {f : Fr} {E : Env} {A : List It} {d : Nat}
theorem bI8 {g : FuncId} {xs : List X} {args : List AV} {rs : List RV} {Q : AV → Prop} (hup : ∀ h,Cfg.up g h = false) (hx : optL E xs = some args) (hn : RVN rs args) (hc : RVN rs args → aV8 P g args Q) : Stp P L f E A d .none (.cl g xs) af0 Q :=
 s_clC hup hx (RVLC.closed hn) (hc hn)
end
open Go.RowKit
theorem flat_get {α : Type} {n : Nat} : ∀ {ys : List (List α)} {j k : Nat},(∀ y ∈ ys,y.length = n) → k < n → ys.flatten[j * n + k]? = (ys[j]?).bind (·[k]?)
 | [],j,k,_,_=>by simp
 | y :: r,0,k,h,hk=>by
  have hy:=h y (List.mem_cons_self ..)
  simp only [List.flatten_cons,Nat.zero_mul,Nat.zero_add,List.getElem?_cons_zero,Option.bind_some]
  rw [List.getElem?_append_left (by omega)]
 | y :: r,j + 1,k,h,hk=>by
  have hy:=h y (List.mem_cons_self ..)
  rw [List.flatten_cons,List.getElem?_append_right (by rw [hy,Nat.succ_mul]; omega),hy,List.getElem?_cons_succ,← flat_get (ys:=r) (fun z hz=>h z (List.mem_cons_of_mem _ hz)) hk]
  congr 1
  rw [Nat.succ_mul]
  omega
theorem ae5.lens {n : Nat} : ∀ {es : List (List V)} {ys : List (List AV)},ae5 es ys → (∀ y ∈ es,y.length = n) → ∀ y ∈ ys,y.length = n
 | [],ys,h,_=>by unfold ae5 at h; subst h; exact fun y hy=>(nomatch hy)
 | e :: r,ys,h,hl=>by
  unfold ae5 at h
  obtain ⟨a,t,rfl,h1,h2⟩:=h
  intro y hy
  rcases List.mem_cons.1 hy with rfl | hy
  ·rw [h1.length]; exact hl e (List.mem_cons_self ..)
  ·exact h2.lens (fun z hz=>hl z (List.mem_cons_of_mem _ hz)) y hy
theorem idx_at {α : Type} {xs : List α} {j : Int} {el : α} (h : G.idx xs j = some el) : xs[j.toNat]? = some el:=by
 unfold G.idx at h
 split at h
 ·exact h
 ·cases h
def G.make {α : Type} (l : Int) (z : α) : Option (List α):=if 0 ≤ l ∧ l ≤ 1000000 then some (List.replicate l.toNat z) else none
def G.emp {α : Type} (l : List α) : Option Unit:=if l.length = 0 then some () else none
theorem G.emp_eq {α : Type} {l : List α} {u : Unit} (h : G.emp l = some u) : l = []:=by
 unfold G.emp at h
 split at h
 ·rename_i h0; exact List.eq_nil_of_length_eq_zero h0
 ·cases h
section
variable [Cfg] {P : Program} {L : Nat} {f : Fr} {E : Env} {A B : List It} {Φ : az3} {m : Option (List (Nat × Nat))} {acc : AAcc} {r : List BI} {d : Nat} {bf : BF}
variable {up xr : Bool} {ks : List Nat} {n : Nat} {e : TypeId} {α : Type} {c : α → List V} {xs : List α} {F : List Loc}
theorem g_iaR {x y : X} {a : AV} {i : Nat} {k : IntKind} {j : Int} {el : α} (hA : A[i]? = some (.own up ks (.rw xr n e (xs.map c)) a F)) (hx : opd E x = some a) (hi : opd E y = some (.lit (.int k j))) (he : G.idx xs j = some el)
  (h : ∀ q g N M,a = .row .room q g N 0 M n → GO1 P m (accP acc af0) r L f ((d,.ptr q g N (j.toNat * n)) :: E) A Φ) : GO1 P m acc (⟨some d,none,.none,.ia n x y⟩ :: r) L f E A Φ:=by
 intro cc T S hc hT hS
 have h1:=(hS.its _ (List.mem_of_getElem? hA)).1
 unfold AtO at h1
 unfold G.idx at he
 split at he
 case isFalse=>cases he
 rename_i h0
 have hlt:=(List.getElem?_eq_some_iff.1 he).1
 rcases h1 with ⟨h2,_⟩ | ⟨q,g,ys,zs,rfl,h2,h3,rfl⟩
 ·have : xs = []:=by simpa using h2
  subst this
  simp at hlt
 ·have hl : ys.length = xs.length:=by rw [h2.1.length,List.length_map]
  obtain ⟨x1,T',S',q1,q2⟩:=h q g (ys.length + zs.length) ys.length rfl _ (T.put (some d) _) S (hc.push (a:=af0) (f:=⟨BF.foot S T (some d) .none,.none⟩) ⟨.inl rfl,.inl rfl⟩) (hT.put d _) hS
  refine ⟨x1,T',S',?_,q2⟩
  have hop : bop P S T (some d) (.ia n x y) = some (.val (.ptr q g (ys.length + zs.length) (j.toNat * n))):=by
   simp only [bop,hT.at hx,hT.at hi,iaV]
   rw [if_pos ⟨h0,trivial,by rw [hl]; exact hlt⟩,Nat.zero_add]
   rfl
  rw [aj7,hop,ca4]
  exact q1
theorem s_ldR {x : X} {i o j k N M : Nat} {q : Loc} {g : Nat} {el : α} {v : V} (hA : A[i]? = some (.own up ks (.rw xr n e (xs.map c)) (.row .room q g N 0 M n) F)) (hx : opd E x = some (.ptr q g N o)) (ho : o = j * n + k) (hk : Nat.blt k n = true) (he : xs[j]? = some el) (hv : (c el)[k]? = some v) : Stp P L f E A d (.at x) (.ld1 x) (some (0 :: ks),some []) (fun u=>RelC v u):=by
 intro T S hT hS
 subst ho
 have hm:=List.mem_of_getElem? hA
 obtain ⟨h1,hpl⟩:=hS.its _ hm
 unfold AtO at h1
 rcases h1 with ⟨h0,_⟩ | ⟨q',g',ys,zs,h2,h3,h4,rfl⟩
 ·have : xs = []:=by simpa using h0
  subst this
  cases he
 ·injection h2 with _ e1 e2 e3 _ e4
  subst e1 e2
  have hy:=h3.1.lens h3.2.1
  obtain ⟨y,k1,k2⟩:=h3.1.get (i:=j) (v:=c el) (by rw [List.getElem?_map,he]; rfl)
  obtain ⟨a,k3,k4⟩:=k2.get hv
  have hlt : k < n:=by simpa [Nat.blt_eq] using hk
  refine ⟨a,⟨BF.foot S T (some d) (.at x),.none⟩,k4,⟨.inr ⟨[q],by show ai4 (x.at T) = _; rw [hT.at hx]; rfl,by simp,fun z hz=>by rw [List.mem_singleton.1 hz]; exact (hpl q (List.mem_singleton.2 rfl)).key⟩,.inl rfl⟩,fun cc r=>?_⟩
  have hj:=(List.getElem?_eq_some_iff.1 k1).1
  have hyz : ∀ z ∈ ys ++ zs,z.length = n:=fun z hz=>(List.mem_append.1 hz).elim (hy z) (h3.2.2.2.1 z)
  have hget : (ys ++ zs).flatten[j * n + k]? = some a:=by rw [flat_get hyz hlt,List.getElem?_append_left hj,k1]; exact k3
  have hop : bop P S T (some d) (.ld1 x) = some (.val a):=by
   simp only [bop,hT.at hx]
   have hr : aQ6 S (.ptr q g N (j * n + k)) = some ((ys ++ zs).flatten.drop (j * n + k)):=by
    simp only [aQ6,AS.ao7,h4]
    rw [if_pos ⟨trivial,e3.symm⟩]
    rfl
   simp only [ld1V,hr]
   rw [List.head?_drop,hget]
   rfl
  rw [aj7,hop,ca4]
omit [Cfg] in
theorem Mv.addRN {ks : List Nat} {n : Nat} {e : TypeId} {a : AV} (ha : ∃ p,a = .lit (.slice p 0 0)) : Mv f L A (fun A'=>A' = .own false ks (.rw xr n e []) a [] :: A):=fun _ hS =>
 ⟨_,rfl,hS.addF (it:=.own false ks (.rw xr n e []) a []) ⟨by unfold AtO; exact .inl ⟨rfl,.inl ⟨rfl,ha,rfl⟩⟩,fun q hq=>(nomatch hq)⟩ rfl⟩
theorem g_contRE {l : List BI} {a : AV} {i : Nat} (hA : A[i]? = some (.own up ks (.rw xr n e (xs.map c)) a F)) (he : xs = []) (h : RelA n (xs.map c) a → GO1 P m acc l L f E A Φ) : GO1 P m acc l L f E A Φ:=fun cc T S hc hT hS=>by
 have h1:=(hS.its _ (List.mem_of_getElem? hA)).1
 unfold AtO at h1
 refine h ?_ cc T S hc hT hS
 subst he
 rcases h1 with ⟨_,h3⟩ | ⟨q,g,ys,zs,_,h2,_⟩
 ·exact h3.relA
 ·exact absurd rfl h2.2.2.2.2.2
structure MkSl (P : Program) (t e : TypeId) (n : Nat) (zc : List AV) : Prop where
 und : P.underlying t = some (.slice e)
 inf : ∃ i z,P.info? e = some i ∧ i.zero = some z ∧ z.cells.size = n ∧ i.size = n ∧ 0 < n ∧ i.bytes ≤ 100000 ∧ z.cells.toList.map AV.lit = zc
omit [Cfg] in
theorem cb6 {v : List V} {y : List AV} (h : ab7 v y) : ∀ k : Nat,ae5 (List.replicate k v) (List.replicate k y)
 | 0=>by unfold ae5; rfl
 | k + 1=>by
  rw [List.replicate_succ,List.replicate_succ]
  unfold ae5
  exact ⟨y,_,rfl,h,cb6 h k⟩
theorem g_mkS {x : Operand} {t : TypeId} {zc : List AV} {z : α} {zs : List α} {k : IntKind} {l : Int} {ty : TypeId} (hM : MkSl P t e n zc) (hl : Cfg.live f.fn d = false) (hx : opd E (aj8 x) = some (.lit (.int k l))) (hz : ab7 (c z) zc) (he : G.make l z = some zs) (hf : (A.all fun jt=>jt.free d) = true)
  (h : ∀ a F',GO1 P m (accP acc (some [d],some [d])) r L f ((d,a) :: E) (.own false [d] (.rw xr n e (zs.map c)) a F' :: A) Φ) : GO1 P m acc (⟨some d,none,.here,.gen (.makeSlice t x x) ty⟩ :: r) L f E A Φ:=by
 unfold G.make at he
 split at he
 case isFalse=>cases he
 rename_i h0
 cases he
 obtain ⟨i,z0,m1,m2,m3,m4,m5,m6,m7⟩:=hM.inf
 intro cc T S hc hT hS
 have e1 : S.here d = ⟨L + 1,d,0⟩:=by rw [aO9,hS.lvl]
 have hlive : Cfg.live S.fn d = false:=by rw [hS.fn]; exact hl
 have hxa : aevF T x = .lit (.int k l):=hT.at hx
 have hcz : (c z).length = n:=by rw [← hz.length,← m7,List.length_map,Array.length_toList,m3]
 have hcond : z0.cells.size = i.size ∧ 0 < i.size ∧ 0 ≤ l ∧ l ≤ l ∧ l ≤ 1000000 ∧ l * (i.bytes : Int) ≤ 140737488355328:=by
  refine ⟨by rw [m3,m4],by omega,h0.1,Int.le_refl _,h0.2,?_⟩
  have : l * (i.bytes : Int) ≤ 1000000 * 100000:=Int.mul_le_mul h0.2 (by omega) (by omega) (by omega)
  omega
 by_cases hl0 : l = 0
 ·subst hl0
  refine b82 (v:=.list (.own ⟨L + 1,d,0⟩ (S.fresh ⟨L + 1,d,0⟩)) n []) (s:=.tok (S.fresh ⟨L + 1,d,0⟩) 0 n e) ?_ rfl hc (aQ1 hS) (hT.put d _) (hS.push hf (it:=.own false [d] (.rw xr n e ((List.replicate (Int.toNat 0) z).map c)) _ [⟨L + 1,d,0⟩]) (.inl rfl) ⟨?_,fun q hq=>by rw [List.mem_singleton.1 hq]; exact Pl.own _ _⟩) (h _ _)
  ·simp only [bop,aop,aK1,hM.und,hxa,m1,m2]
   rw [if_pos hcond,if_pos ⟨trivial,hlive⟩,e1,m4]
  ·unfold AtO
   refine .inl ⟨rfl,.inr (.inr ⟨_,_,[],rfl,by unfold ae5; rfl,AS.get_set_same ..,rfl⟩)⟩
 ·have hlen : (List.replicate l.toNat zc).length = l.toNat:=List.length_replicate ..
  refine b82 (v:=.row .room ⟨L + 1,d,0⟩ (S.fresh ⟨L + 1,d,0⟩) l.toNat 0 l.toNat n) (s:=.row (S.fresh ⟨L + 1,d,0⟩) l.toNat n e (List.replicate l.toNat zc).flatten) ?_ rfl hc (aQ1 hS) (hT.put d _) (hS.push hf (it:=.own false [d] (.rw xr n e ((List.replicate l.toNat z).map c)) _ [⟨L + 1,d,0⟩]) (.inl rfl) ⟨?_,fun q hq=>by rw [List.mem_singleton.1 hq]; exact Pl.own _ _⟩) (h _ _)
  ·simp only [bop,aop,aK1,hM.und,hxa,m1,m2]
   rw [if_pos hcond,if_neg (fun h=>hl0 h.1),e1,m4,m7]
  ·unfold AtO
   refine .inr ⟨_,_,List.replicate l.toNat zc,[],by rw [hlen]; rfl,⟨?_,?_,rfl,fun z hz=>(nomatch hz),fun _=>rfl,?_⟩,?_,rfl⟩
   ·rw [List.map_replicate]; exact cb6 hz _
   ·intro y hy
    rw [List.map_replicate] at hy
    rw [List.eq_of_mem_replicate hy,hcz]
   ·intro e0
    have : (List.replicate l.toNat z).length = 0:=by
     rw [← List.length_map (f:=c),e0]; rfl
    rw [List.length_replicate] at this
    omega
   ·rw [List.append_nil,hlen]
    exact AS.get_set_same ..
end
open Go.RowKit
abbrev Mp.ks (l : List UInt8) : Value:=.string (bs l)
abbrev Mp.o {K β : Type} (κ : K → Value) (χ : β → V) (m : List (K × β)) : OV:=.mp (m.map fun p=>κ p.1) (m.map fun p=>.c (χ p.2))
theorem atL_c {S : AS} {p : Loc} {g : Nat} : ∀ {vs : List V} {i : Nat} {cs : List AV} {F : List Loc},AtL S p g i (vs.map OV.c) cs F ↔ ab7 vs cs ∧ F = []
 | [],i,cs,F=>by simp only [List.map_nil]; unfold AtL ab7; rfl
 | v :: r,i,cs,F=>by
  rw [List.map_cons]
  unfold AtL ab7 AtO
  constructor
  ·rintro ⟨a,t,F1,F2,rfl,rfl,⟨h1,rfl⟩,h2⟩
   obtain ⟨h3,rfl⟩:=atL_c.1 h2
   exact ⟨⟨a,t,rfl,h1,h3⟩,rfl⟩
  ·rintro ⟨⟨a,t,rfl,h1,h2⟩,rfl⟩
   exact ⟨a,t,[],[],rfl,rfl,⟨h1,rfl⟩,atL_c.2 ⟨h2,rfl⟩⟩
section
variable [Cfg] {P : Program} {L : Nat} {f : Fr} {E : Env} {A B : List It} {Φ : az3} {m : Option (List (Nat × Nat))} {acc : AAcc} {r : List BI} {d : Nat} {bf : BF}
variable {up : Bool} {ks : List Nat} {K β : Type} [DecidableEq K] {κ : K → Value} {χ : β → V} {M : List (K × β)} {F : List Loc} {t kt vt ty : TypeId}
omit [DecidableEq K] in
theorem g_mkM (hf : (A.all fun jt=>jt.free d) = true) (h : ∀ g,GO1 P m (accP acc (some [d],some [d])) r L f ((d,.mref ⟨L + 1,d,0⟩ g) :: E) (.own false [d] (Mp.o κ χ []) (.mref ⟨L + 1,d,0⟩ g) [⟨L + 1,d,0⟩] :: A) Φ) : GO1 P m acc (⟨some d,none,.here,.gen (.makeMap t none) ty⟩ :: r) L f E A Φ:=by
 intro c T S hc hT hS
 have e1 : S.here d = ⟨L + 1,d,0⟩:=by rw [aO9,hS.lvl]
 refine b82 (v:=.mref ⟨L + 1,d,0⟩ (S.fresh ⟨L + 1,d,0⟩)) (s:=.map (S.fresh ⟨L + 1,d,0⟩) [] 0) (by simp only [bop,aop,e1]) rfl hc (aQ1 hS) (hT.put d _) (hS.push hf (it:=.own false [d] (Mp.o κ χ []) _ [⟨L + 1,d,0⟩]) (.inl rfl) ⟨?_,fun q hq=>by rw [List.mem_singleton.1 hq]; exact Pl.own _ _⟩) (h _)
 unfold AtO
 exact ⟨_,_,[],0,[],rfl,rfl,AS.get_set_same ..,rfl,List.nodup_nil,fun e he=>(nomatch he),by unfold AtL; exact ⟨rfl,rfl⟩⟩
end
section
variable [Cfg] {P : Program} {L : Nat} {f : Fr} {E : Env} {A B : List It} {Φ : az3} {m : Option (List (Nat × Nat))} {acc : AAcc} {r : List BI} {d : Nat} {bf : BF}
def CoL (l : Nat) : List AV → Prop
 | []=>True
 | a :: r=>Co l a ∧ CoL l r
omit [Cfg] in
theorem CoL.mem {l : Nat} : ∀ {cs : List AV},CoL l cs → ∀ a ∈ cs,Co l a
 | _ :: _,h,a,ha=>by
  rcases List.mem_cons.1 ha with rfl | ha
  ·exact h.1
  ·exact CoL.mem h.2 a ha
theorem g_bxO {e : TypeId} {x : X} {a : AV} {cs : List AV} (hx : opd E x = some a) (hcs : a.cells = cs) (hcl : CoL (L + 1) cs) (hf : (A.all fun jt=>jt.free d) = true) (h : ∀ g,GO1 P m (accP acc (some [d],some [d])) r L f ((d,.ptr ⟨L + 1,d,0⟩ g 0 0) :: E) (.cel false [d] ⟨L + 1,d,0⟩ g e cs :: A) Φ) : GO1 P m acc (⟨some d,none,.here,.bx e x⟩ :: r) L f E A Φ:=by
 subst hcs
 intro c T S hc hT hS
 have e1 : S.here d = ⟨L + 1,d,0⟩:=by rw [aO9,hS.lvl]
 exact b82 (v:=.ptr ⟨L + 1,d,0⟩ (S.fresh ⟨L + 1,d,0⟩) 0 0) (s:=.obj (S.fresh ⟨L + 1,d,0⟩) e a.cells) (by simp only [bop,e1,hT.at hx]) rfl hc (aQ1 hS) (hT.put d _) (hS.push hf (it:=.cel false [d] ⟨L + 1,d,0⟩ _ e a.cells) (.inl rfl) ⟨AS.get_set_same ..,Pl.own _ _,hcl.mem⟩) (h _)
end
theorem one_nil : ([] : List AV).all AV.one = true:=rfl
theorem aU7 {a : AV} {l : List AV} (h : a.one = true) (hl : l.all AV.one = true) : (a :: l).all AV.one = true:=by simp only [List.all_cons,h,hl,Bool.and_self]
def oneO : OV → Bool
 | .mp _ _=>true
 | .ptr _ _=>true
 | o=>leafO o
theorem leaf_one {S : AS} {p : Loc} {g i : Nat} {o : OV} {a : AV} {F : List Loc} (h : AtO S p g i o a F) (ho : oneO o = true) : a.cells = [a] ∧ a.one = true:=by
 have gs : ∀ {n e es F},Gs S n e es a F → a.cells = [a] ∧ a.one = true:=fun h=>h.relA.cells
 cases o with
 | gs n e es=>unfold AtO at h; exact gs h
 | li n e es =>
  unfold AtO at h
  rcases h with h | ⟨_,rfl,_⟩
  ·exact gs h
  ·exact ⟨rfl,rfl⟩
 | rw x n e es =>
  unfold AtO at h
  rcases h with ⟨_,h⟩ | ⟨_,_,_,_,rfl,_⟩
  ·exact gs h
  ·exact ⟨rfl,rfl⟩
 | it s pos =>
  unfold AtO at h
  obtain ⟨_,_,rfl,_⟩:=h
  exact ⟨rfl,rfl⟩
 | mp ks vs =>
  unfold AtO at h
  obtain ⟨_,_,_,_,_,rfl,_⟩:=h
  exact ⟨rfl,rfl⟩
 | ptr t os =>
  unfold AtO at h
  obtain ⟨_,_,_,_,rfl,_⟩:=h
  exact ⟨rfl,rfl⟩
 | _=>cases ho
theorem cV2 [Cfg] {P : Program} {L : Nat} {f : Fr} {E : Env} {A : List It} {Φ : az3} {m : Option (List (Nat × Nat))} {acc : AAcc} {l : List BI} {up : Bool} {ks : List Nat} {i : Nat} {o : OV} {a : AV} {F : List Loc} (hA : A[i]? = some (.own up ks o a F)) (ho : oneO o = true) (h : Co (L + 1) a → (a.cells = [a] ∧ a.one = true) → GO1 P m acc l L f E A Φ) : GO1 P m acc l L f E A Φ:=fun c T S hc hT hS =>
 have hi:=hS.its _ (List.mem_of_getElem? hA)
 h (own_co hi) (leaf_one hi.1 ho) c T S hc hT hS
theorem bn3 {l : Nat} : ∀ {t : Tab} {j : Nat},ap9 l t ≤ j → t.get ⟨l,0,j⟩ = none
 | [],j,_=>rfl
 | (q,s) :: r,j,h=>by
  unfold ap9 at h
  unfold Tab.get
  split at h
  ·rw [if_neg (fun e=>by subst e; simp only at h; omega)]
   exact bn3 (by omega)
  ·rename_i hk
   rw [if_neg (fun e=>hk (by subst e; exact ⟨rfl,rfl⟩))]
   exact bn3 h
theorem cF2 [Cfg] {P : Program} {f : FuncId} (hg : Cfg.given f = some aQ7) {K β : Type} (κ : K → Value) (χ : β → V) (M : List (K × β)) : by6 P f [.o (Mp.o κ χ M)] false [.o (Mp.o κ χ M)] [.o (Mp.o κ χ M)]:=by
 intro S args F hup hat hnd hlv
 obtain ⟨a,t,F1,F2,ha,rfl,h2,h3⟩:=hat
 obtain ⟨rfl,rfl⟩:=h3
 have h2':=h2
 unfold AtA AtO at h2
 obtain ⟨q,k,es,ck,F',rfl,rfl,g2,g3,g4,g5,g6⟩:=h2
 obtain ⟨b,rfl⟩ : ∃ b,args = [b]:=by
  match args,ha with
  | [],ha=>simp at ha
  | [b],_=>exact ⟨b,rfl⟩
  | b :: c :: r,ha=>simp at ha
 have hb : b = .mref q k:=by
  have : b.ag0 = .mref q k:=by simpa using ha
  cases b <;> simp [AV.ag0,AV.av9] at this ⊢
  exact this
 subst hb
 have e0 : (M.map fun p=>OV.c (χ p.2)) = (M.map fun p=>χ p.2).map OV.c:=by rw [List.map_map]; rfl
 rw [e0] at g6
 obtain ⟨h7,rfl⟩:=atL_c.1 g6
 obtain ⟨p,hp⟩ : ∃ p : Loc,p = ⟨S.lvl,0,ap9 S.lvl S.tab⟩:=⟨_,rfl⟩
 have hnone : S.get p = none:=by rw [hp]; exact bn3 (Nat.le_refl _)
 have hqp : q ≠ p:=fun e=>by rw [e,hnone] at g2; cases g2
 have hget : ∀ x,x ≠ p → (S.after (some (S.tab.put p (.map 0 es ck),[p]))).get x = S.get x:=fun x hx=>AS.ah2 S _ hx
 refine ⟨.mref p 0,some (S.tab.put p (.map 0 es ck),[p]),[q],[p],[],?_,?_,?_,fun x hx=>(nomatch hx),?_⟩
 ·refine ai7.2 ⟨1,?_⟩
  show (match Cfg.given f with | some h=>h [.mref q k] S | none=>_) = _
  rw [hg]
  simp only [aQ7,g2,← hp,hnone,Option.isNone_none,and_self,if_true]
  rfl
 ·exact ⟨_,_,[q],[],rfl,rfl,h2'.local fun x hx=>by rw [List.mem_singleton.1 hx]; exact hget q hqp,rfl,rfl⟩
 ·show AtO _ _ _ _ _ _ _
  unfold AtO
  exact ⟨p,0,es,ck,[],rfl,rfl,AS.get_set_same ..,g3,g4,g5,by rw [e0]; exact atL_c.2 ⟨h7,rfl⟩⟩
 ·refine ⟨rfl,rfl,rfl,?_,?_,?_,?_,?_⟩
  ·simp [hqp]
  ·intro x hx; simpa using .inl (by simpa using hx)
  ·intro x hx
   rcases (by simpa using hx : x = q ∨ x = p) with rfl | rfl
   ·exact .inl (by simp)
   ·exact .inr (by have:=aC2 S.lvl S.tab; rw [hp]; exact ⟨rfl,rfl,by simp only; omega,by rw [← hp]; exact hnone⟩)
  ·intro x hx
   rw [List.mem_singleton.1 hx]
   exact .inr (by have:=aC2 S.lvl S.tab; rw [hp]; exact ⟨rfl,rfl,by simp only; omega,by rw [← hp]; exact hnone⟩)
  ·intro x hx
   exact hget x fun e=>hx (by rw [e]; exact List.mem_singleton.2 rfl)
open Go.RowKit
def cQ9 [Cfg] (P : Program) (f : FuncId) (ins : List OA) (rs : List RV) : Prop :=
 ∀ (S : AS) (args : List AV) (F : List Loc),AtAs S ins (args.map AV.ag0) F → F.Nodup → (∀ q ∈ F,q.l ≤ S.lvl) → ∃ v,ak5 P f args S = some (.ret v,none) ∧ ResC rs v
def ptrO : OA → Bool
 | .o (.ptr _ _)=>true
 | .o _=>false
 | .r _=>true
 | _=>false
def isO : OA → Bool
 | .o _=>true
 | _=>false
theorem da6 {os : List OA} (h : os.all ptrO = true) : os.all OA.given = true:=by
 rw [List.all_eq_true] at h ⊢
 intro o ho
 have:=h o ho
 cases o <;> first | rfl | cases this
theorem ptr_nrm {os : List OA} (h : os.all ptrO = true) : os.all nrmO = true:=by
 rw [List.all_eq_true] at h ⊢
 intro o ho
 have:=h o ho
 cases o with
 | o v=>cases v <;> first | rfl | cases this
 | r v=>rfl
 | _=>cases this
theorem cY0 (a : AV) : a.av9.av9 = a.av9:=by cases a <;> rfl
theorem c68 (a : AV) : a.ag0.ag0 = a.ag0:=by
 cases a with
 | agg cs =>
  simp only [AV.ag0,List.map_map]
  congr 1
  exact List.map_congr_left fun x _=>cY0 x
 | _=>rfl
theorem AtO.ptr {S : AS} {t : TypeId} {os : List OV} {a : AV} {F : List Loc} (h : AtO S bF9 0 0 (.ptr t os) a F) : ∃ q g,a = .ptr q g 0 0:=by
 unfold AtO at h
 obtain ⟨q,g,_,_,h,_⟩:=h
 exact ⟨q,g,h⟩
theorem AtAs.open {S : AS} : ∀ {ins : List OA} {l : List AV} {F : List Loc},AtAs S ins l F → ins.all ptrO = true → ins.any isO = true → AV.af2 (l.map AV.ag0) = false
 | [],_,_,_,_,h=>by cases h
 | o :: r,l,F,h,hp,ha=>by
  obtain ⟨a,t,F1,F2,rfl,rfl,h2,h3⟩:=h
  simp only [List.all_cons,Bool.and_eq_true] at hp
  simp only [List.any_cons,Bool.or_eq_true] at ha
  rw [List.map_cons]
  unfold AV.af2
  rcases ha with ha | ha
  ·cases o with
   | x=>cases ha
   | ag os=>cases ha
   | r v=>cases ha
   | o v =>
    cases v with
    | ptr ty os =>
     obtain ⟨q,g,rfl⟩:=AtO.ptr h2
     simp [AV.closed,AV.ag0,AV.av9]
    | _=>cases hp.1
  ·rw [h3.open hp.2 ha,Bool.and_false]
section
variable [Cfg] {P : Program}
theorem bC0 {f : FuncId} {b : BFn} {ins : List OA} {rs : List RV} (hg : Cfg.given f = none) (hf : aq2 P f = some b) (hup : ∀ h,Cfg.up f h = false) (hp : ins.all ptrO = true) (hn : Nat.ble ins.length b.nt = true) (hsz : Nat.ble (rs.length + (rs.map RV.size).sum + 5) 100000 = true)
  (h : ∀ L S0 F args A,InI ins args F A → GC P b.code L ⟨f,F,S0,false,true⟩ (numE 0 args) A (ab1 L b.res rs)) : cQ9 P f ins rs:=by
 intro S args F hat hnd hlv
 obtain ⟨A,k1,k2,k3,k4⟩:=InI.of hat (da6 hp)
 obtain ⟨x,T',S',h1,h2,h3,h4,as1,h5,h6⟩:=h S.lvl S F (args.map AV.ag0) A k1 (bF8 (args.map AV.ag0)) (S.enter f) (Ag.args _)
  ⟨rfl,rfl,rfl,FrOk.enter f (.inl rfl),k4 _ _ (fun _=>rfl) (fun q hq=>by have:=hlv q hq; omega),by
   refine ⟨by rw [k2]; exact hnd,fun it hi q hq _=>⟨k3 it hi,?_⟩,fun q hq=>?_,hlv⟩
   ·rw [← k2]; exact List.mem_flatMap.2 ⟨it,hi,hq⟩
   ·have hq : q ∈ F:=hq
    rw [← k2] at hq
    obtain ⟨it,h1,h2⟩:=au0 hq
    exact ⟨it,h1,k3 it h1,h2⟩⟩
 obtain ⟨v,q1,q2⟩:=cZ7 S' h6 (am9 hsz)
 refine ⟨v,aY9 hg hf (by rw [← List.length_map (f:=AV.ag0),hat.length]; exact am9 hn) ?_,q2⟩
 rw [cb4 (hup _),h1,cJ6 h2 h3,h5]
 unfold bret
 simp only
 rw [bF3 (hup _) h4,q1]
 rfl
variable {L : Nat} {f : Fr} {E : Env} {A1 B : List It} {d : Nat}
theorem s_clQ {g0 : FuncId} {xs : List X} {args : List AV} {ins : List OA} {rs : List RV} {A : List It} (hup : ∀ h,Cfg.up g0 h = false) (hp : ins.all ptrO = true) (ha : ins.any isO = true) (hx : optL E xs = some args) (hin : InC ins args A1) (hA : A = A1 ++ B) (hc : cQ9 P g0 ins rs) : Stp P L f E A d .none (.cl g0 xs) (none,some []) (ResC rs):=by
 subst hA
 intro T S hT hS
 have hat:=hin.at (S:=S) (L:=L + 1) (fun it hi=>hS.its it (List.mem_append.2 (.inl hi))) (ptr_nrm hp)
 have hsep:=hS.reg.sep
 rw [List.flatMap_append] at hsep
 obtain ⟨v,k1,k2⟩:=hc S args _ hat (List.nodup_append.1 hsep).1 (fun q hq=>by
  obtain ⟨it,h1,h2⟩:=au0 hq
  obtain ⟨_,h3⟩:=It.there (hS.its it (List.mem_append.2 (.inl h1))) q h2
  rw [hS.lvl]
  rcases h3 with h | h | h
  ·omega
  ·omega
  ·omega)
 have hb : bop P S T (some d) (.cl g0 xs) = some (.call g0 args):=by simp only [bop]; rw [b05 hT hx]
 have hcl : AV.af2 (args.map AV.ag0) = false:=by have:=hat.open hp ha; rwa [List.map_map,show AV.ag0 ∘ AV.ag0 = AV.ag0 from funext c68] at this
 exact ⟨v,⟨.all,Upd.kind none⟩,k2,⟨trivial,.inl rfl⟩,fun c r=>by rw [aj7,hb,show (BO.cl g0 xs).w = true from rfl,ce2,hup,hcl,Bool.not_false,Bool.true_and,aQ9,k1,bO7]; rfl⟩
end
open Go.RowKit
section
variable {P : Program} {t e : TypeId}
theorem aop_nilS [Cfg] {S : AS} {ρ : Operand → AV} {d : Option Tmp} {op : BinOp} {ne : Bool} {x y : Operand} {yt ty : TypeId} {pos : String} {aft : Array Edge} {g : Option (Nat × Bool)} {p : Option Addr} (hn : neOp op = some ne) (hu : P.underlying t = some (.slice e)) (hx : ρ x = .lit (.slice p 0 0)) (hy : ρ y = .lit (.slice none 0 0)) :
  aop P S ρ ⟨d,.binOp op t x y yt,ty,pos,aft,g⟩ = some (.val (.lit (.bool (p.isNone != ne)))):=by
 refine bW9 (v:=.bool (p.isNone != ne)) (a:=.slice p 0 0) (b:=.slice none 0 0) (by rw [hx]; rfl) (by rw [hy]; rfl) (bH7 ?_) ?_ ?_
 ·rw [hx,hy]; unfold aO2; rw [hu]; cases p <;> rfl
 ·unfold eqGuard; split <;> rfl
 ·refine a96 hn (by simp) (by simp) (by simp) (by simp) ?_
  show ac3 P (Op.equalIn (9999 + 1) t (.slice p 0 0) (.slice none 0 0)) = _
  unfold Op.equalIn
  rw [ad7,ao4 hu]
  cases p <;> simp [an0]
variable [Cfg] {L : Nat} {f : Fr} {E : Env} {A : List It} {d : Nat} {ty : TypeId} {op : BinOp} {ne : Bool}
theorem s_nilS {x : Operand} {a : AV} {n : Nat} {es : List (List V)} (hn : neOp op = some ne) (hu : P.underlying t = some (.slice e)) (hx : opd E (aj8 x) = some a) (ha : RelA n es a) :
  Stp P L f E A d .none (.gen (.binOp op t x (.const (.slice none 0 0)) t) ty) af0 (fun u=>∃ b : Bool,u = .lit (.bool (b != ne)) ∧ (b = true → es = [])):=bN0 fun T S hT=>by
 have hxa : aevF T x = a:=hT.at hx
 rcases ha with ⟨he,p,rfl⟩ | ⟨sp,ys,rfl,hr⟩
 ·exact ⟨_,by simp only [bop]; exact aop_nilS hn hu hxa rfl,p.isNone,rfl,fun _=>he⟩
 ·refine ⟨.lit (.bool (false != ne)),?_,false,rfl,fun h=>by cases h⟩
  have hy : aevF T (.const (.slice none 0 0)) = .lit (.slice none 0 0):=rfl
  rcases bM0 hn with ⟨rfl,rfl⟩ | ⟨rfl,rfl⟩ <;> simp only [bop,aop,hxa,hy,acmp,aO2,hu,bj4,if_true,Option.map_some,as2] <;> rfl
theorem c02 {x : X} {off : Nat} {cs : List AV} {v : AV} (hx : opd E x = some (.agg cs)) (hv : cs[off]? = some v) : Stp P L f E A d .none (.fd1 off x) af0 (fun u=>u = v) :=
 bN0 fun T S hT=>⟨v,by simp only [bop,hT.at hx,fd1V,hv,Option.map_some],rfl⟩
theorem s_nilP {x : Operand} {p : Loc} {g n o : Nat} (hn : neOp op = some ne) (hu : P.underlying t = some (.pointer e)) (hx : opd E (aj8 x) = some (.ptr p g n o)) :
  Stp P L f E A d .none (.gen (.binOp op t x (.const (.pointer none)) t) ty) af0 (fun u=>u = .lit (.bool ne)):=bN0 fun T S hT=>by
 have hxa : aevF T x = .ptr p g n o:=hT.at hx
 have hy : aevF T (.const (.pointer none)) = .lit (.pointer none):=rfl
 refine ⟨.lit (.bool ne),?_,rfl⟩
 rcases bM0 hn with ⟨rfl,rfl⟩ | ⟨rfl,rfl⟩ <;> simp only [bop,aop,hxa,hy,acmp,aO2,hu,bj4,if_true,Option.map_some,as2] <;> rfl
end
def cloneB (e n by' t tb : Nat) : BFn:=⟨8,[.t 2],.seq (.ops [⟨some 2,none,.none,.mv (.c (.lit (.slice none 0 0)))⟩])
 (.seq (.seq (.ops [⟨some 3,none,.none,.mv (.t 0)⟩,⟨some 4,none,.none,.gen (.binOp .eql t (.tmp 3) (.const (.slice none 0 0)) t) tb⟩]) (.cond (.t 4) (.seq (.ops [⟨some 2,none,.none,.mv (.c (.lit (.slice none 0 0)))⟩]) .ret) .skip))
  (.seq (.ops [⟨some 5,none,.here,.bsl e n []⟩,⟨some 6,none,.none,.mv (.t 0)⟩,⟨some 7,none,.app (.t 5) (.t 6),.ap e n by' (.t 5) (.t 6)⟩,⟨some 2,none,.none,.mv (.t 7)⟩]) .ret))⟩
def G.clone {α : Type} (xs : List α) : Option (List α):=G.app [] xs
def G.split (s sep : List UInt8) : Option (List (List UInt8)):=if sep = [10] ∧ s.length < 4294967281 then some (cutL s) else none
section
variable [Cfg] {P : Program} {f : FuncId}
def b73 (P : Program) (g : FuncId) (args : List AV) (Q : AV → Prop) : Prop:=∃ v,ak5 P g (args.map AV.ag0) .bare = some (.ret v,none) ∧ Q v
theorem aV8.b {g : FuncId} {args : List AV} {Q : AV → Prop} (h : aV8 P g args Q) : b73 P g args Q:=h .bare (args.map AV.ag0) (by rw [List.map_map,show AV.ag0 ∘ AV.ag0 = AV.ag0 from funext c68])
theorem s_clB {L : Nat} {f : Fr} {E : Env} {A : List It} {d : Nat} {g : FuncId} {xs : List X} {args : List AV} {rs : List RV} {Q : AV → Prop} (hup : ∀ h,Cfg.up g h = false) (hx : optL E xs = some args) (hn : RVN rs args) (hc : RVN rs args → b73 P g args Q) : Stp P L f E A d .none (.cl g xs) af0 Q :=
 s_clX hup hx (RVLC.closed hn) (hc hn)
theorem split_ok (hg : Cfg.given f = some aR0) (a0 a1 : List UInt8) (r : List (List UInt8)) (h : G.split a0 a1 = some r) (_k0 : Nat) (args : List AV) (ha : RVN [.str a0,.str a1] args) : aV8 P f args (ResC [.sl 1 (r.map aa6)]):=by
 unfold G.split at h
 split at h
 case isFalse=>cases h
 rename_i hc
 cases h
 intro S args' he
 have hargs : args' = [.lit (.string (bs a0)),.lit (.string (bs a1))]:=by
  have h1 : args'.map AV.ag0 = [.lit (.string (bs a0)),.lit (.string (bs a1))]:=by
   rw [he]
   obtain ⟨x,t,h1,h2,y,t2,h3,h4,h5⟩:=ha
   rw [h1,h3,h5,show x = _ from h2,show y = _ from h4]
  match args',h1 with
  | [],h1=>simp at h1
  | [x],h1=>simp at h1
  | x :: y :: z :: r,h1=>simp at h1
  | [x,y],h1 =>
   simp only [List.map_cons,List.map_nil,List.cons.injEq,and_true] at h1
   have fin : ∀ (z : AV) (v : Value),z.ag0 = .lit v → z = .lit v:=fun z v h=>by
    cases z <;> simp [AV.ag0,AV.av9] at h ⊢
    exact h
   rw [fin _ _ h1.1,fin _ _ h1.2]
 subst hargs
 refine ⟨.list .full 1 ((cutL a0).map fun l=>[.lit (.string ⟨l.toArray⟩)]),ai7.2 ⟨1,?_⟩,?_⟩
 ·show (match Cfg.given f with | some h=>h [.lit (.string (bs a0)),.lit (.string (bs a1))] S | none=>_) = _
  rw [hg]
  simp only [aR0]
  rw [if_pos ⟨by rw [hc.1]; rfl,by show a0.toArray.size < _; rw [List.size_toArray]; exact hc.2⟩]
  simp [bs]
 ·refine RelC.list rfl ?_
  induction cutL a0 with
  | nil=>unfold ae5; rfl
  | cons x r ih =>
   simp only [List.map_cons]
   unfold ae5
   exact ⟨_,_,rfl,⟨_,_,rfl,rfl,rfl⟩,ih⟩
theorem cd4 {α : Type} {c : α → List V} {e n by' t tb : Nat} (hg : Cfg.given f = none) (hf : aq2 P f = some (cloneB e n by' t tb)) (hup : ∀ h,Cfg.up f h = false) (hl : ∀ d,Cfg.live f d = false) (hu : P.underlying t = some (.slice e)) (hb : Nat.ble by' 100000 = true)
  (a0 r : List α) (h : G.clone a0 = some r) (_k0 : Nat) (args : List AV) (ha : RVN [.sl n (a0.map c)] args) : aV8 P f args (ResC [.sl n (r.map c)]):=by
 refine al5 (b:=cloneB e n by' t tb) hg hf hup rfl rfl ?_ ha
 rintro L _ ⟨av0,_,rfl,ar0,rfl⟩
 unfold G.clone at h
 show GC P _ L f [(0,av0)] [] (ab1 L [.t 2] [.sl n (r.map c)])
 refine aa1 ?_
 refine aa2 ?_
 refine o6 (s_mv rfl) ?_
 refine aa3 ?_
 refine y7 ?_
 refine aa1 ?_
 refine aa1 ?_
 refine aa2 ?_
 refine o6 (s_mv rfl) ?_
 refine af5 (s_nilS (ne:=false) rfl hu rfl (RelC.toA ar0)) ?_
 rintro _ ⟨b,rfl,hnil⟩
 refine aa3 ?_
 refine y7 ?_
 cases b with
 | true =>
  obtain rfl : a0 = []:=by simpa using hnil rfl
  obtain rfl : r = []:=by
   unfold G.app at h
   rw [if_pos (by simp)] at h
   simpa using h.symm
  refine g_cT rfl rfl ?_
  refine aa1 ?_
  refine aa2 ?_
  refine o6 (s_mv rfl) ?_
  refine aa3 ?_
  refine y7 ?_
  refine ap6 ?_
  refine aU1 ?_
  exact aX0 (.tr rfl (RelC.nil n none) .nil)
 | false =>
  refine g_cF rfl rfl ?_
  refine ah1 ?_
  refine y7 ?_
  refine aa1 ?_
  refine aa2 ?_
  refine af5 (cl0 (es':=List.map c []) (hl _) .nil rfl) ?_
  rintro v1 ⟨r1,k1⟩
  refine o6 (s_mv rfl) ?_
  refine aq7 (Mv.addF (ks:=[5]) (n:=n) (e:=e) (a:=v1) r1 k1) ?_
  rintro _ rfl
  refine c44 (i:=0) (c:=c) (hl _) rfl rfl rfl (RelC.toA ar0) hb rfl rfl h fun w1 F1=>?_
  refine o6 (s_mv rfl) ?_
  refine aa3 ?_
  refine y7 ?_
  refine ap6 ?_
  refine g_relS (i:=0) rfl (fun rs=>?_)
  exact g_resS (.t rfl rs .nil)
end
open Go.RowKit
inductive D.ao6 where
 | nil
 | Alt (Parts : (List D.ao6))
 | Back (Number : Int)
 | Cat (Parts : (List D.ao6))
 | Empty
 | End
 | Group (Number : Int) (Of : D.ao6)
 | One (Set : A4)
 | Rep (Of : D.ao6) (Min : Int) (Max : Int)
 | Start
mutual
def ak1 : D.ao6 → V
 | .nil=>.nili
 | .Alt Parts=>.ifc 393 true [.sl 1 (bi3 Parts)]
 | .Back Number=>.ifc 390 true [.int .i64 Number]
 | .Cat Parts=>.ifc 392 true [.sl 1 (bi3 Parts)]
 | .Empty=>.ifc 473 true []
 | .End=>.ifc 388 true []
 | .Group Number Of=>.ifc 380 true [.int .i64 Number,ak1 Of]
 | .One Set=>.ifc 385 true [.int .u64 Set.x0,.int .u64 Set.x1,.int .u64 Set.x2,.int .u64 Set.x3]
 | .Rep Of Min Max=>.ifc 396 true [ak1 Of,.int .i64 Min,.int .i64 Max]
 | .Start=>.ifc 387 true []
def bi3 : List D.ao6 → List (List V)
 | []=>[]
 | x :: r=>[ak1 x] :: bi3 r
end
structure D.au5 where
 Kind : Int
 Line : Int
 Text : List UInt8
 Tree : D.ao6
structure D.aX8 where
 A : D.au5
 B : D.au5
 Not : Bool
def bT8 (x : D.aX8) : List V:=[.int .i64 x.A.Kind,.int .i64 x.A.Line,.str x.A.Text,ak1 x.A.Tree,.int .i64 x.B.Kind,.int .i64 x.B.Line,.str x.B.Text,ak1 x.B.Tree,.bool x.Not]
structure D.cK8 where
 Group : Int
 Text : List UInt8
def bu1 (x : D.cK8) : List V:=[.int .i64 x.Group,.str x.Text]
structure D.cc6 where
 Text : List UInt8
 Tree : D.ao6
 Parts : (List D.cK8)
 Nth : Int
 All : Bool
 Print : Bool
 File : List UInt8
structure D.aS9 where
 At : Int
 Guard : D.aX8
 Name : Int
 Arg : List UInt8
 Sub : D.cc6
 Table : List UInt8
def aP8 (x : D.aS9) : List V:=[.int .i64 x.At,.int .i64 x.Guard.A.Kind,.int .i64 x.Guard.A.Line,.str x.Guard.A.Text,ak1 x.Guard.A.Tree,.int .i64 x.Guard.B.Kind,.int .i64 x.Guard.B.Line,.str x.Guard.B.Text,ak1 x.Guard.B.Tree,.bool x.Guard.Not,.int .u8 x.Name,.str x.Arg,.str x.Sub.Text,ak1 x.Sub.Tree,.sl 2 (x.Sub.Parts.map bu1),.int .i64 x.Sub.Nth,.bool x.Sub.All,.bool x.Sub.Print,.str x.Sub.File,.str x.Table]
theorem cj6 : ab7 (aP8 (D.aS9.mk 0 (D.aX8.mk (D.au5.mk 0 0 [] D.ao6.nil) (D.au5.mk 0 0 [] D.ao6.nil) false) 0 [] (D.cc6.mk [] D.ao6.nil [] 0 false false []) [])) [.lit (.int .i64 0),.lit (.int .i64 0),.lit (.int .i64 0),.lit (.string (bs [])),.lit .nilIface,.lit (.int .i64 0),.lit (.int .i64 0),.lit (.string (bs [])),.lit .nilIface,.lit (.bool false),.lit (.int .u8 0),.lit (.string (bs [])),.lit (.string (bs [])),.lit .nilIface,.lit (.slice none 0 0),.lit (.int .i64 0),.lit (.bool false),.lit (.bool false),.lit (.string (bs [])),.lit (.string (bs []))]:=(o8 aa8 (o8 aa8 (o8 aa8 (o8 ag6 (o8 bl7 (o8 aa8 (o8 aa8 (o8 ag6 (o8 bl7 (o8 ai3 (o8 aa8 (o8 ag6 (o8 ag6 (o8 bl7 (o8 (RelC.nil _ _) (o8 aa8 (o8 ai3 (o8 ai3 (o8 ag6 (o8 ag6 au9))))))))))))))))))))
structure D.ap5 where
 Command : D.aS9
 A : Int
 B : Int
 Sub : Int
 Range : Int
 Else : Int
 To : Int
def af4 (x : D.ap5) : List V:=[.int .i64 x.Command.At,.int .i64 x.Command.Guard.A.Kind,.int .i64 x.Command.Guard.A.Line,.str x.Command.Guard.A.Text,ak1 x.Command.Guard.A.Tree,.int .i64 x.Command.Guard.B.Kind,.int .i64 x.Command.Guard.B.Line,.str x.Command.Guard.B.Text,ak1 x.Command.Guard.B.Tree,.bool x.Command.Guard.Not,.int .u8 x.Command.Name,.str x.Command.Arg,.str x.Command.Sub.Text,ak1 x.Command.Sub.Tree,.sl 2 (x.Command.Sub.Parts.map bu1),.int .i64 x.Command.Sub.Nth,.bool x.Command.Sub.All,.bool x.Command.Sub.Print,.str x.Command.Sub.File,.str x.Command.Table,.int .i64 x.A,.int .i64 x.B,.int .i64 x.Sub,.int .i64 x.Range,.int .i64 x.Else,.int .i64 x.To]
theorem cT9 : ab7 (af4 (D.ap5.mk (D.aS9.mk 0 (D.aX8.mk (D.au5.mk 0 0 [] D.ao6.nil) (D.au5.mk 0 0 [] D.ao6.nil) false) 0 [] (D.cc6.mk [] D.ao6.nil [] 0 false false []) []) 0 0 0 0 0 0)) [.lit (.int .i64 0),.lit (.int .i64 0),.lit (.int .i64 0),.lit (.string (bs [])),.lit .nilIface,.lit (.int .i64 0),.lit (.int .i64 0),.lit (.string (bs [])),.lit .nilIface,.lit (.bool false),.lit (.int .u8 0),.lit (.string (bs [])),.lit (.string (bs [])),.lit .nilIface,.lit (.slice none 0 0),.lit (.int .i64 0),.lit (.bool false),.lit (.bool false),.lit (.string (bs [])),.lit (.string (bs [])),.lit (.int .i64 0),.lit (.int .i64 0),.lit (.int .i64 0),.lit (.int .i64 0),.lit (.int .i64 0),.lit (.int .i64 0)]:=(o8 aa8 (o8 aa8 (o8 aa8 (o8 ag6 (o8 bl7 (o8 aa8 (o8 aa8 (o8 ag6 (o8 bl7 (o8 ai3 (o8 aa8 (o8 ag6 (o8 ag6 (o8 bl7 (o8 (RelC.nil _ _) (o8 aa8 (o8 ai3 (o8 ai3 (o8 ag6 (o8 ag6 (o8 aa8 (o8 aa8 (o8 aa8 (o8 aa8 (o8 aa8 (o8 aa8 au9))))))))))))))))))))))))))
structure D.cy7 where
 Op : Int
 Set : A4
 X : Int
 Y : Int
def b42 (x : D.cy7) : List V:=[.int .i64 x.Op,.int .u64 x.Set.x0,.int .u64 x.Set.x1,.int .u64 x.Set.x2,.int .u64 x.Set.x3,.int .i64 x.X,.int .i64 x.Y]
structure D.ax1 where
 Insts : (List D.cy7)
 Groups : Int
 Loops : Int
 Backs : Bool
def av8 (x : D.ax1) : List V:=[.sl 7 (x.Insts.map b42),.int .i64 x.Groups,.int .i64 x.Loops,.bool x.Backs]
structure D.ad1 where
 Quiet : Bool
 Ops : (List D.ap5)
 Programs : (List D.ax1)
 Ranges : Int
def ac5 (x : D.ad1) : List V:=[.bool x.Quiet,.sl 26 (x.Ops.map af4),.sl 4 (x.Programs.map av8),.int .i64 x.Ranges]
inductive D.ap4 where
 | mk (Kind : Int) (Set : A4) (Parts : (List D.ap4)) (Min : Int) (Max : Int) (Number : Int)
def D.ap4.Kind : D.ap4 → Int
 | .mk x _ _ _ _ _=>x
def D.ap4.Set : D.ap4 → A4
 | .mk _ x _ _ _ _=>x
def D.ap4.Parts : D.ap4 → (List D.ap4)
 | .mk _ _ x _ _ _=>x
def D.ap4.Min : D.ap4 → Int
 | .mk _ _ _ x _ _=>x
def D.ap4.Max : D.ap4 → Int
 | .mk _ _ _ _ x _=>x
def D.ap4.Number : D.ap4 → Int
 | .mk _ _ _ _ _ x=>x
mutual
def ax7 : D.ap4 → List V
 | .mk Kind Set Parts Min Max Number=>[.int .i64 Kind,.int .u64 Set.x0,.int .u64 Set.x1,.int .u64 Set.x2,.int .u64 Set.x3,.sl 9 (cb5 Parts),.int .i64 Min,.int .i64 Max,.int .i64 Number]
def cb5 : List D.ap4 → List (List V)
 | []=>[]
 | x :: r=>ax7 x :: cb5 r
end
structure D.bR9 where
 Kind : Int
 Line : Int
 Text : List UInt8
 Tree : D.ap4
structure D.cH3 where
 A : D.bR9
 B : D.bR9
 Not : Bool
structure D.cT7 where
 Group : Int
 Text : List UInt8
def cx0 (x : D.cT7) : List V:=[.int .i64 x.Group,.str x.Text]
structure D.cD8 where
 Text : List UInt8
 Tree : D.ap4
 Parts : (List D.cT7)
 Nth : Int
 All : Bool
 Print : Bool
 File : List UInt8
structure D.bQ4 where
 At : Int
 Guard : D.cH3
 Name : Int
 Arg : List UInt8
 Sub : D.cD8
 Table : List UInt8
def bp7 (x : D.bQ4) : List V:=[.int .i64 x.At,.int .i64 x.Guard.A.Kind,.int .i64 x.Guard.A.Line,.str x.Guard.A.Text,.int .i64 x.Guard.A.Tree.Kind,.int .u64 x.Guard.A.Tree.Set.x0,.int .u64 x.Guard.A.Tree.Set.x1,.int .u64 x.Guard.A.Tree.Set.x2,.int .u64 x.Guard.A.Tree.Set.x3,.sl 9 (x.Guard.A.Tree.Parts.map ax7),.int .i64 x.Guard.A.Tree.Min,.int .i64 x.Guard.A.Tree.Max,.int .i64 x.Guard.A.Tree.Number,.int .i64 x.Guard.B.Kind,.int .i64 x.Guard.B.Line,.str x.Guard.B.Text,.int .i64 x.Guard.B.Tree.Kind,.int .u64 x.Guard.B.Tree.Set.x0,.int .u64 x.Guard.B.Tree.Set.x1,.int .u64 x.Guard.B.Tree.Set.x2,.int .u64 x.Guard.B.Tree.Set.x3,.sl 9 (x.Guard.B.Tree.Parts.map ax7),.int .i64 x.Guard.B.Tree.Min,.int .i64 x.Guard.B.Tree.Max,.int .i64 x.Guard.B.Tree.Number,.bool x.Guard.Not,.int .u8 x.Name,.str x.Arg,.str x.Sub.Text,.int .i64 x.Sub.Tree.Kind,.int .u64 x.Sub.Tree.Set.x0,.int .u64 x.Sub.Tree.Set.x1,.int .u64 x.Sub.Tree.Set.x2,.int .u64 x.Sub.Tree.Set.x3,.sl 9 (x.Sub.Tree.Parts.map ax7),.int .i64 x.Sub.Tree.Min,.int .i64 x.Sub.Tree.Max,.int .i64 x.Sub.Tree.Number,.sl 2 (x.Sub.Parts.map cx0),.int .i64 x.Sub.Nth,.bool x.Sub.All,.bool x.Sub.Print,.str x.Sub.File,.str x.Table]
theorem cU9 : ab7 (bp7 (D.bQ4.mk 0 (D.cH3.mk (D.bR9.mk 0 0 [] (D.ap4.mk 0 (A4.mk 0 0 0 0) [] 0 0 0)) (D.bR9.mk 0 0 [] (D.ap4.mk 0 (A4.mk 0 0 0 0) [] 0 0 0)) false) 0 [] (D.cD8.mk [] (D.ap4.mk 0 (A4.mk 0 0 0 0) [] 0 0 0) [] 0 false false []) [])) [.lit (.int .i64 0),.lit (.int .i64 0),.lit (.int .i64 0),.lit (.string (bs [])),.lit (.int .i64 0),.lit (.int .u64 0),.lit (.int .u64 0),.lit (.int .u64 0),.lit (.int .u64 0),.lit (.slice none 0 0),.lit (.int .i64 0),.lit (.int .i64 0),.lit (.int .i64 0),.lit (.int .i64 0),.lit (.int .i64 0),.lit (.string (bs [])),.lit (.int .i64 0),.lit (.int .u64 0),.lit (.int .u64 0),.lit (.int .u64 0),.lit (.int .u64 0),.lit (.slice none 0 0),.lit (.int .i64 0),.lit (.int .i64 0),.lit (.int .i64 0),.lit (.bool false),.lit (.int .u8 0),.lit (.string (bs [])),.lit (.string (bs [])),.lit (.int .i64 0),.lit (.int .u64 0),.lit (.int .u64 0),.lit (.int .u64 0),.lit (.int .u64 0),.lit (.slice none 0 0),.lit (.int .i64 0),.lit (.int .i64 0),.lit (.int .i64 0),.lit (.slice none 0 0),.lit (.int .i64 0),.lit (.bool false),.lit (.bool false),.lit (.string (bs [])),.lit (.string (bs []))]:=(o8 aa8 (o8 aa8 (o8 aa8 (o8 ag6 (o8 aa8 (o8 aa8 (o8 aa8 (o8 aa8 (o8 aa8 (o8 (RelC.nil _ _) (o8 aa8 (o8 aa8 (o8 aa8 (o8 aa8 (o8 aa8 (o8 ag6 (o8 aa8 (o8 aa8 (o8 aa8 (o8 aa8 (o8 aa8 (o8 (RelC.nil _ _) (o8 aa8 (o8 aa8 (o8 aa8 (o8 ai3 (o8 aa8 (o8 ag6 (o8 ag6 (o8 aa8 (o8 aa8 (o8 aa8 (o8 aa8 (o8 aa8 (o8 (RelC.nil _ _) (o8 aa8 (o8 aa8 (o8 aa8 (o8 (RelC.nil _ _) (o8 aa8 (o8 ai3 (o8 ai3 (o8 ag6 (o8 ag6 au9))))))))))))))))))))))))))))))))))))))))))))
structure D.cg0 where
 Command : D.bQ4
 A : Int
 B : Int
 Sub : Int
 Range : Int
 Else : Int
 To : Int
def ax6 (x : D.cg0) : List V:=[.int .i64 x.Command.At,.int .i64 x.Command.Guard.A.Kind,.int .i64 x.Command.Guard.A.Line,.str x.Command.Guard.A.Text,.int .i64 x.Command.Guard.A.Tree.Kind,.int .u64 x.Command.Guard.A.Tree.Set.x0,.int .u64 x.Command.Guard.A.Tree.Set.x1,.int .u64 x.Command.Guard.A.Tree.Set.x2,.int .u64 x.Command.Guard.A.Tree.Set.x3,.sl 9 (x.Command.Guard.A.Tree.Parts.map ax7),.int .i64 x.Command.Guard.A.Tree.Min,.int .i64 x.Command.Guard.A.Tree.Max,.int .i64 x.Command.Guard.A.Tree.Number,.int .i64 x.Command.Guard.B.Kind,.int .i64 x.Command.Guard.B.Line,.str x.Command.Guard.B.Text,.int .i64 x.Command.Guard.B.Tree.Kind,.int .u64 x.Command.Guard.B.Tree.Set.x0,.int .u64 x.Command.Guard.B.Tree.Set.x1,.int .u64 x.Command.Guard.B.Tree.Set.x2,.int .u64 x.Command.Guard.B.Tree.Set.x3,.sl 9 (x.Command.Guard.B.Tree.Parts.map ax7),.int .i64 x.Command.Guard.B.Tree.Min,.int .i64 x.Command.Guard.B.Tree.Max,.int .i64 x.Command.Guard.B.Tree.Number,.bool x.Command.Guard.Not,.int .u8 x.Command.Name,.str x.Command.Arg,.str x.Command.Sub.Text,.int .i64 x.Command.Sub.Tree.Kind,.int .u64 x.Command.Sub.Tree.Set.x0,.int .u64 x.Command.Sub.Tree.Set.x1,.int .u64 x.Command.Sub.Tree.Set.x2,.int .u64 x.Command.Sub.Tree.Set.x3,.sl 9 (x.Command.Sub.Tree.Parts.map ax7),.int .i64 x.Command.Sub.Tree.Min,.int .i64 x.Command.Sub.Tree.Max,.int .i64 x.Command.Sub.Tree.Number,.sl 2 (x.Command.Sub.Parts.map cx0),.int .i64 x.Command.Sub.Nth,.bool x.Command.Sub.All,.bool x.Command.Sub.Print,.str x.Command.Sub.File,.str x.Command.Table,.int .i64 x.A,.int .i64 x.B,.int .i64 x.Sub,.int .i64 x.Range,.int .i64 x.Else,.int .i64 x.To]
structure D.cX9 where
 Op : Int
 Set : A4
 X : Int
 Y : Int
def cV5 (x : D.cX9) : List V:=[.int .i64 x.Op,.int .u64 x.Set.x0,.int .u64 x.Set.x1,.int .u64 x.Set.x2,.int .u64 x.Set.x3,.int .i64 x.X,.int .i64 x.Y]
structure D.cV1 where
 Insts : (List D.cX9)
 Groups : Int
 Loops : Int
 Backs : Bool
def bI2 (x : D.cV1) : List V:=[.sl 7 (x.Insts.map cV5),.int .i64 x.Groups,.int .i64 x.Loops,.bool x.Backs]
structure D.ai2 where
 Quiet : Bool
 Ops : (List D.cg0)
 Programs : (List D.cV1)
 Trees : (List D.ap4)
 Ranges : Int
def ax5 (x : D.ai2) : List V:=[.bool x.Quiet,.sl 50 (x.Ops.map ax6),.sl 4 (x.Programs.map bI2),.sl 9 (x.Trees.map ax7),.int .i64 x.Ranges]
structure D.y9 where
 lines : List ((List UInt8) × (List (List UInt8)))
def o7 (x : D.y9) : List OV:=[(Mp.o Mp.ks (fun v=>.sl 1 (List.map aa6 v)) x.lines)]
structure D.av4 where
 p : D.ax1
def y8 (x : D.av4) : List V:=[.sl 7 (x.p.Insts.map b42),.int .i64 x.p.Groups,.int .i64 x.p.Loops,.bool x.p.Backs]
structure D.ao9 where
 File : Bool
 Text : List UInt8
def y5 (x : D.ao9) : List V:=[.bool x.File,.str x.Text]
theorem bZ0 : ab7 (y5 (D.ao9.mk false [])) [.lit (.bool false),.lit (.string (bs []))]:=(o8 ai3 (o8 ag6 au9))
structure D.aa0 where
 Op : Int
 Pattern : List UInt8
 Hold : List UInt8
 Flag : Bool
 Line : Int
 Ranges : (List Int)
 Queue : (List D.ao9)
 Done : Bool
def aN6 (x : D.aa0) : List V:=[.int .i64 x.Op,.str x.Pattern,.str x.Hold,.bool x.Flag,.int .i64 x.Line,.sl 1 (x.Ranges.map (ah4 .i64)),.sl 2 (x.Queue.map y5),.bool x.Done]
structure D.l9 where
 f : (Option D.ad1)
 regexes : (List (Option D.av4))
 input : (List (List UInt8))
 files : D.y9
 out : List UInt8
 state : D.aa0
def o5 (x : D.l9) : List OV:=[.c (vref ac5 x.f),.gs 1 88 (List.map (ak6 y8) x.regexes),.gs 1 9 (List.map aa6 x.input),.ptr 96 (o7 x.files),.self,.bb 5 x.out,.c (.int .i64 x.state.Op),.c (.str x.state.Pattern),.c (.str x.state.Hold),.c (.bool x.state.Flag),.c (.int .i64 x.state.Line),.rw true 1 3 (List.map (ah4 .i64) x.state.Ranges),.gs 2 122 (List.map y5 x.state.Queue),.c (.bool x.state.Done)]
set_option maxHeartbeats 4000000 in
theorem ac7 {up : Bool} {ks : List Nat} {q : Loc} {g : Nat} {x : D.l9} {cs : List AV} {N : List It} (h : OpnC up ks q g 0 (o5 x) cs N) : ∃ (v0 : AV) (v1 : AV) (F1 : List Loc) (v2 : AV) (F2 : List Loc) (v3 : AV) (F3 : List Loc) (v4 : AV) (v5 : AV) (F5 : List Loc) (v11 : AV) (F11 : List Loc) (v12 : AV) (F12 : List Loc),cs = [v0,v1,v2,v3,v4,v5,.lit (.int .i64 x.state.Op),.lit (.string (bs x.state.Pattern)),.lit (.string (bs x.state.Hold)),.lit (.bool x.state.Flag),.lit (.int .i64 x.state.Line),v11,v12,.lit (.bool x.state.Done)] ∧ N = [.own up ks (.gs 1 88 (List.map (ak6 y8) x.regexes)) v1 F1,.own up ks (.gs 1 9 (List.map aa6 x.input)) v2 F2,.own up ks (.ptr 96 (o7 x.files)) v3 F3,.own up ks (.bb 5 x.out) v5 F5,.own up ks (.rw true 1 3 (List.map (ah4 .i64) x.state.Ranges)) v11 F11,.own up ks (.gs 2 122 (List.map y5 x.state.Queue)) v12 F12] ∧ CV (vref ac5 x.f) v0 ∧ (v4 = .lit (.pointer none) ∨ v4 = .ptr q g 0 4):=by
 obtain ⟨v0,_,rfl,r0,v1,_,F1,_,rfl,rfl,v2,_,F2,_,rfl,rfl,v3,_,F3,_,rfl,rfl,v4,_,rfl,r4,v5,_,F5,_,rfl,rfl,_,_,rfl,rfl,_,_,rfl,rfl,_,_,rfl,rfl,_,_,rfl,rfl,_,_,rfl,rfl,v11,_,F11,_,rfl,rfl,v12,_,F12,_,rfl,rfl,_,_,rfl,rfl,rfl,rfl⟩:=h
 exact ⟨v0,v1,F1,v2,F2,v3,F3,v4,v5,F5,v11,F11,v12,F12,rfl,rfl,r0,r4⟩
structure D.al7 where
 Name : List UInt8
 Lines : (List (List UInt8))
def as4 (x : D.al7) : List V:=[.str x.Name,.sl 1 (x.Lines.map aa6)]
structure D.aj1 where
 Name : List UInt8
 Lines : (List (List UInt8))
def ah3 (x : D.aj1) : List V:=[.str x.Name,.sl 1 (x.Lines.map aa6)]
structure D.cX3 where
 File : Bool
 Text : List UInt8
def co8 (x : D.cX3) : List V:=[.bool x.File,.str x.Text]
structure D.al8 where
 Op : Int
 Pattern : List UInt8
 Hold : List UInt8
 Flag : Bool
 Line : Int
 Ranges : (List Int)
 Queue : (List D.cX3)
 Done : Bool
structure D.aa9 where
 F : D.ai2
 Input : (List (List UInt8))
 Files : (List D.aj1)
 Out : List UInt8
 S : D.al8
def ac2 (x : D.aa9) : List V:=[.bool x.F.Quiet,.sl 50 (x.F.Ops.map ax6),.sl 4 (x.F.Programs.map bI2),.sl 9 (x.F.Trees.map ax7),.int .i64 x.F.Ranges,.sl 1 (x.Input.map aa6),.sl 2 (x.Files.map ah3),.str x.Out,.int .i64 x.S.Op,.str x.S.Pattern,.str x.S.Hold,.bool x.S.Flag,.int .i64 x.S.Line,.sl 1 (x.S.Ranges.map (ah4 .i64)),.sl 2 (x.S.Queue.map co8),.bool x.S.Done]
theorem aN8 : ab7 (ac2 (D.aa9.mk (D.ai2.mk false [] [] [] 0) [] [] [] (D.al8.mk 0 [] [] false 0 [] [] false))) [.lit (.bool false),.lit (.slice none 0 0),.lit (.slice none 0 0),.lit (.slice none 0 0),.lit (.int .i64 0),.lit (.slice none 0 0),.lit (.slice none 0 0),.lit (.string (bs [])),.lit (.int .i64 0),.lit (.string (bs [])),.lit (.string (bs [])),.lit (.bool false),.lit (.int .i64 0),.lit (.slice none 0 0),.lit (.slice none 0 0),.lit (.bool false)]:=(o8 ai3 (o8 (RelC.nil _ _) (o8 (RelC.nil _ _) (o8 (RelC.nil _ _) (o8 aa8 (o8 (RelC.nil _ _) (o8 (RelC.nil _ _) (o8 ag6 (o8 aa8 (o8 ag6 (o8 ag6 (o8 ai3 (o8 aa8 (o8 (RelC.nil _ _) (o8 (RelC.nil _ _) (o8 ai3 au9))))))))))))))))
structure D.aw7 where
 Extended : Bool
 Quiet : Bool
def cg3 (x : D.aw7) : List V:=[.bool x.Extended,.bool x.Quiet]
structure D.bN6 where
 At : Int
 Word : List UInt8
def cR1 (x : D.bN6) : List V:=[.int .i64 x.At,.str x.Word]
structure D.ap0 where
 Out : List UInt8
 Files : (List D.al7)
 Steps : Int
set_option maxHeartbeats 4000000 in
theorem aW8 {x : D.ap5} {cs : List AV} (h : ab7 (af4 x) cs) : ∃ (v4 : AV) (v8 : AV) (v13 : AV) (v14 : AV),cs = [.lit (.int .i64 x.Command.At),.lit (.int .i64 x.Command.Guard.A.Kind),.lit (.int .i64 x.Command.Guard.A.Line),.lit (.string (bs x.Command.Guard.A.Text)),v4,.lit (.int .i64 x.Command.Guard.B.Kind),.lit (.int .i64 x.Command.Guard.B.Line),.lit (.string (bs x.Command.Guard.B.Text)),v8,.lit (.bool x.Command.Guard.Not),.lit (.int .u8 x.Command.Name),.lit (.string (bs x.Command.Arg)),.lit (.string (bs x.Command.Sub.Text)),v13,v14,.lit (.int .i64 x.Command.Sub.Nth),.lit (.bool x.Command.Sub.All),.lit (.bool x.Command.Sub.Print),.lit (.string (bs x.Command.Sub.File)),.lit (.string (bs x.Command.Table)),.lit (.int .i64 x.A),.lit (.int .i64 x.B),.lit (.int .i64 x.Sub),.lit (.int .i64 x.Range),.lit (.int .i64 x.Else),.lit (.int .i64 x.To)] ∧ CV (ak1 x.Command.Guard.A.Tree) v4 ∧ CV (ak1 x.Command.Guard.B.Tree) v8 ∧ CV (ak1 x.Command.Sub.Tree) v13 ∧ RelC (.sl 2 (x.Command.Sub.Parts.map bu1)) v14:=by
 obtain ⟨_,hE,_,_,rfl,rfl,_,_,rfl,rfl,_,_,rfl,rfl,_,_,rfl,rfl,v4,_,rfl,r4,_,_,rfl,rfl,_,_,rfl,rfl,_,_,rfl,rfl,v8,_,rfl,r8,_,_,rfl,rfl,_,_,rfl,rfl,_,_,rfl,rfl,_,_,rfl,rfl,v13,_,rfl,r13,v14,_,rfl,r14,_,_,rfl,rfl,_,_,rfl,rfl,_,_,rfl,rfl,_,_,rfl,rfl,_,_,rfl,rfl,_,_,rfl,rfl,_,_,rfl,rfl,_,_,rfl,rfl,_,_,rfl,rfl,_,_,rfl,rfl,_,_,rfl,rfl,rfl⟩:=exL' h
 exact ⟨v4,v8,v13,v14,hE,r4,r8,r13,r14⟩
set_option maxHeartbeats 4000000 in
theorem cN6 {x : D.ai2} {cs : List AV} (h : ab7 (ax5 x) cs) : ∃ (v1 : AV) (v2 : AV) (v3 : AV),cs = [.lit (.bool x.Quiet),v1,v2,v3,.lit (.int .i64 x.Ranges)] ∧ RelC (.sl 50 (x.Ops.map ax6)) v1 ∧ RelC (.sl 4 (x.Programs.map bI2)) v2 ∧ RelC (.sl 9 (x.Trees.map ax7)) v3:=by
 obtain ⟨_,hE,_,_,rfl,rfl,v1,_,rfl,r1,v2,_,rfl,r2,v3,_,rfl,r3,_,_,rfl,rfl,rfl⟩:=exL' h
 exact ⟨v1,v2,v3,hE,r1,r2,r3⟩
set_option maxHeartbeats 4000000 in
theorem cS1 {x : D.aa9} {cs : List AV} (h : ab7 (ac2 x) cs) : ∃ (v1 : AV) (v2 : AV) (v3 : AV) (v5 : AV) (v6 : AV) (v13 : AV) (v14 : AV),cs = [.lit (.bool x.F.Quiet),v1,v2,v3,.lit (.int .i64 x.F.Ranges),v5,v6,.lit (.string (bs x.Out)),.lit (.int .i64 x.S.Op),.lit (.string (bs x.S.Pattern)),.lit (.string (bs x.S.Hold)),.lit (.bool x.S.Flag),.lit (.int .i64 x.S.Line),v13,v14,.lit (.bool x.S.Done)] ∧ RelC (.sl 50 (x.F.Ops.map ax6)) v1 ∧ RelC (.sl 4 (x.F.Programs.map bI2)) v2 ∧ RelC (.sl 9 (x.F.Trees.map ax7)) v3 ∧ RelC (.sl 1 (x.Input.map aa6)) v5 ∧ RelC (.sl 2 (x.Files.map ah3)) v6 ∧ RelC (.sl 1 (x.S.Ranges.map (ah4 .i64))) v13 ∧ RelC (.sl 2 (x.S.Queue.map co8)) v14:=by
 obtain ⟨_,hE,_,_,rfl,rfl,v1,_,rfl,r1,v2,_,rfl,r2,v3,_,rfl,r3,_,_,rfl,rfl,v5,_,rfl,r5,v6,_,rfl,r6,_,_,rfl,rfl,_,_,rfl,rfl,_,_,rfl,rfl,_,_,rfl,rfl,_,_,rfl,rfl,_,_,rfl,rfl,v13,_,rfl,r13,v14,_,rfl,r14,_,_,rfl,rfl,rfl⟩:=exL' h
 exact ⟨v1,v2,v3,v5,v6,v13,v14,hE,r1,r2,r3,r5,r6,r13,r14⟩
set_option maxHeartbeats 4000000 in
theorem bM9 {x : D.aa0} {cs : List AV} (h : ab7 (aN6 x) cs) : ∃ (v5 : AV) (v6 : AV),cs = [.lit (.int .i64 x.Op),.lit (.string (bs x.Pattern)),.lit (.string (bs x.Hold)),.lit (.bool x.Flag),.lit (.int .i64 x.Line),v5,v6,.lit (.bool x.Done)] ∧ RelC (.sl 1 (x.Ranges.map (ah4 .i64))) v5 ∧ RelC (.sl 2 (x.Queue.map y5)) v6:=by
 obtain ⟨_,hE,_,_,rfl,rfl,_,_,rfl,rfl,_,_,rfl,rfl,_,_,rfl,rfl,_,_,rfl,rfl,v5,_,rfl,r5,v6,_,rfl,r6,_,_,rfl,rfl,rfl⟩:=exL' h
 exact ⟨v5,v6,hE,r5,r6⟩
open Go.RowKit
def ag1 : Nat → List UInt8
 | 0=>[35,32,110,111,116,104,105,110,103,10]
 | n + 1=>ag1 n ++ [58,UInt8.ofNat (97 + n),10]
def lOp (k : Nat) : D.ap5:=D.ap5.mk (D.aS9.mk ((10 + 3 * k : Nat) : Int) (D.aX8.mk (D.au5.mk 0 0 [] D.ao6.nil) (D.au5.mk 0 0 [] D.ao6.nil) false) 58 [UInt8.ofNat (97 + k)] (D.cc6.mk [] D.ao6.nil [] 0 false false []) []) (-1) (-1) (-1) (-1) ((k + 1 : Nat) : Int) (-1)
def ax8 (n : Nat) : D.ad1:=D.ad1.mk false ((List.range n).map lOp) [] 0
def rOp (k : Nat) : D.cg0:=D.cg0.mk (D.bQ4.mk ((10 + 3 * k : Nat) : Int) (D.cH3.mk (D.bR9.mk 0 0 [] (D.ap4.mk 0 (A4.mk 0 0 0 0) [] 0 0 0)) (D.bR9.mk 0 0 [] (D.ap4.mk 0 (A4.mk 0 0 0 0) [] 0 0 0)) false) 58 [UInt8.ofNat (97 + k)] (D.cD8.mk [] (D.ap4.mk 0 (A4.mk 0 0 0 0) [] 0 0 0) [] 0 false false []) []) (-1) (-1) (-1) (-1) ((k + 1 : Nat) : Int) (-1)
def aO8 (n : Nat) : D.ai2:=D.ai2.mk false ((List.range n).map rOp) [] [] 0
def G.made (a : List UInt8) (b : Bool) : Option (Option D.ad1 × D.ai2 × Bool) :=
 if b = true then none else if a = ag1 0 then some (some (ax8 0),aO8 0,true) else if a = ag1 1 then some (some (ax8 1),aO8 1,true) else if a = ag1 2 then some (some (ax8 2),aO8 2,true)
 else if a = ag1 3 then some (some (ax8 3),aO8 3,true) else if a = ag1 4 then some (some (ax8 4),aO8 4,true) else none
theorem made_eq : ∀ n : Nat,n < 5 → G.made (ag1 n) false = some (some (ax8 n),aO8 n,true)
 | 0,_=>rfl
 | 1,_=>rfl
 | 2,_=>rfl
 | 3,_=>rfl
 | 4,_=>rfl
 | n + 5,h=>absurd h (by omega)
def eFlat (q : Bool) : D.ad1:=D.ad1.mk q [] [] 0
def G.load (a : List UInt8) (o : D.aw7) : Option (Option D.ad1 × List D.bN6 × Int × Int):=if a.length = 0 ∧ o.Extended = false then some (some (eFlat o.Quiet),[],0,0) else none
def G.list0 (f : D.y9) : Option (List D.al7):=if f.lines.length = 0 then some [] else none
open Go.RowKit
def iA (n : Int) : AV:=.lit (.int .i64 n)
def uA (n : Int) : AV:=.lit (.int .u64 n)
def sA (l : List UInt8) : AV:=.lit (.string (bs l))
def bA (b : Bool) : AV:=.lit (.bool b)
def nS : AV:=.lit (.slice none 0 0)
def nI : AV:=.lit .nilIface
def scA (k : Nat) : List AV:=[iA ((10 + 3 * k : Nat) : Int),iA 0,iA 0,sA [],nI,iA 0,iA 0,sA [],nI,bA false,.lit (.int .u8 58),sA [UInt8.ofNat (97 + k)],sA [],nI,nS,iA 0,bA false,bA false,sA [],sA []]
def opA (k : Nat) : List AV:=[iA ((10 + 3 * k : Nat) : Int),iA 0,iA 0,sA [],nI,iA 0,iA 0,sA [],nI,bA false,.lit (.int .u8 58),sA [UInt8.ofNat (97 + k)],sA [],nI,nS,iA 0,bA false,bA false,sA [],sA [],iA (-1),iA (-1),iA (-1),iA (-1),iA ((k + 1 : Nat) : Int),iA (-1)]
def rfA (k : Nat) : List AV:=[iA ((10 + 3 * k : Nat) : Int),iA 0,iA 0,sA [],iA 0,uA 0,uA 0,uA 0,uA 0,nS,iA 0,iA 0,iA 0,iA 0,iA 0,sA [],iA 0,uA 0,uA 0,uA 0,uA 0,nS,iA 0,iA 0,iA 0,bA false,.lit (.int .u8 58),sA [UInt8.ofNat (97 + k)],sA [],iA 0,uA 0,uA 0,uA 0,uA 0,nS,iA 0,iA 0,iA 0,nS,iA 0,bA false,bA false,sA [],sA [],iA (-1),iA (-1),iA (-1),iA (-1),iA ((k + 1 : Nat) : Int),iA (-1)]
def lstA (sz : Nat) : List (List AV) → AV
 | []=>nS
 | x :: r=>.list .no sz (x :: r)
def flatA (n : Nat) : AV:=.cref [bA false,lstA 26 ((List.range n).map opA),nS,iA 0,bA false,lstA 20 ((List.range n).map scA),iA 0]
def refA (n : Nat) : AV:=.agg [bA false,lstA 50 ((List.range n).map rfA),nS,nS,iA 0]
def bP9 (n : Nat) : AV:=.tup [flatA n,refA n,bA true]
theorem bD2 {ι : Type} (f : ι → List V) (g : ι → List AV) (h : ∀ x,ab7 (f x) (g x)) : ∀ l : List ι,ae5 (l.map f) (l.map g)
 | []=>by unfold ae5; rfl
 | x :: r=>by
  rw [List.map_cons]
  unfold ae5
  exact ⟨_,_,rfl,h x,bD2 f g h r⟩
theorem da7 {ι : Type} {sz : Nat} (f : ι → List V) (g : ι → List AV) (h : ∀ x,ab7 (f x) (g x)) (l : List ι) : RelC (.sl sz (l.map f)) (lstA sz (l.map g)):=by
 cases l with
 | nil=>exact RelC.nil sz none
 | cons x r=>exact RelC.list rfl (bD2 f g h (x :: r))
set_option maxRecDepth 10000 in
theorem op_rel (k : Nat) : ab7 (af4 (lOp k)) (opA k):=by
 unfold af4 opA lOp
 repeat (first | exact au9 | refine o8 (by first | exact aa8 | exact ag6 | exact ai3 | exact bl7 | exact RelC.nil _ _) ?_)
set_option maxRecDepth 10000 in
theorem rf_rel (k : Nat) : ab7 (ax6 (rOp k)) (rfA k):=by
 unfold ax6 rfA rOp
 repeat (first | exact au9 | refine o8 (by first | exact aa8 | exact ag6 | exact ai3 | exact bl7 | exact RelC.nil _ _) ?_)
theorem cS9 {ι : Type} {sz : Nat} (g : ι → List AV) (h : ∀ x,AV.af2 (g x) = true) (l : List ι) : (lstA sz (l.map g)).closed = true:=by
 have : ∀ l : List ι,AV.aj0 (l.map g) = true:=by
  intro l
  induction l with
  | nil=>rfl
  | cons x r ih=>simp only [List.map_cons,AV.aj0,h x,ih,Bool.and_self]
 cases l with
 | nil=>rfl
 | cons x r =>
  show (AV.list .no sz (g x :: r.map g)).closed = true
  have:=this (x :: r)
  simp only [AV.closed,List.map_cons] at this ⊢
  rw [this]
  rfl
theorem cX7 (n : Nat) : ResC [.v (vref ac5 (some (ax8 n))),.agg (ax5 (aO8 n)),.bool true] (bP9 n):=by
 refine ⟨_,rfl,_,_,rfl,?_,_,_,rfl,⟨_,rfl,?_⟩,_,_,rfl,rfl,rfl⟩
 ·show RelC (vref ac5 (some (ax8 n))) (flatA n)
  unfold vref RelC
  refine ⟨[bA false,lstA 26 ((List.range n).map opA),nS,iA 0],[bA false,lstA 20 ((List.range n).map scA),iA 0],rfl,?_,?_⟩
  ·refine o8 ai3 (o8 ?_ (o8 (RelC.nil _ _) (o8 aa8 au9)))
   show RelC (.sl 26 (((List.range n).map lOp).map af4)) _
   rw [List.map_map]
   exact da7 _ _ op_rel _
  ·have : (lstA 20 ((List.range n).map scA)).closed = true:=cS9 scA (fun _=>rfl) _
   simp only [AV.af2,this]
   rfl
 ·refine o8 ai3 (o8 ?_ (o8 (RelC.nil _ _) (o8 (RelC.nil _ _) (o8 aa8 au9))))
  show RelC (.sl 50 (((List.range n).map rOp).map ax6)) _
  rw [List.map_map]
  exact da7 _ _ rf_rel _
theorem cN7 {a : List UInt8} {b : Bool} {r : Option D.ad1 × D.ai2 × Bool} (h : G.made a b = some r) : b = false ∧ ∃ n,n < 5 ∧ a = ag1 n ∧ r = (some (ax8 n),aO8 n,true):=by
 unfold G.made at h
 cases b with
 | true=>simp at h
 | false =>
  refine ⟨rfl,?_⟩
  simp only [Bool.false_eq_true,if_false] at h
  split at h
  ·rename_i e; cases h; exact ⟨0,by omega,e,rfl⟩
  split at h
  ·rename_i e; cases h; exact ⟨1,by omega,e,rfl⟩
  split at h
  ·rename_i e; cases h; exact ⟨2,by omega,e,rfl⟩
  split at h
  ·rename_i e; cases h; exact ⟨3,by omega,e,rfl⟩
  split at h
  ·rename_i e; cases h; exact ⟨4,by omega,e,rfl⟩
  ·cases h
open Go.RowKit
theorem cE7 : al9 Tryz.prog 120 F.ai8 [sA (ag1 0),bA false] .bare = some (.ret (bP9 0),none):=by kernel_rfl
theorem c66 : ak5 Tryz.prog F.ai8 [sA (ag1 0),bA false] .bare = some (.ret (bP9 0),none):=ai7.2 ⟨120,cE7⟩
open Go.RowKit
theorem cD2 : al9 Tryz.prog 120 F.ai8 [sA (ag1 1),bA false] .bare = some (.ret (bP9 1),none):=by kernel_rfl
theorem da3 : ak5 Tryz.prog F.ai8 [sA (ag1 1),bA false] .bare = some (.ret (bP9 1),none):=ai7.2 ⟨120,cD2⟩
open Go.RowKit
theorem cC4 : al9 Tryz.prog 120 F.ai8 [sA (ag1 2),bA false] .bare = some (.ret (bP9 2),none):=by kernel_rfl
theorem da1 : ak5 Tryz.prog F.ai8 [sA (ag1 2),bA false] .bare = some (.ret (bP9 2),none):=ai7.2 ⟨120,cC4⟩
open Go.RowKit
def eqTV : Value → Value → Bool
 | .int k a,.int k' b=>decide (k = k') && decide (a = b)
 | .bool a,.bool b=>decide (a = b)
 | .string a,.string b=>decide (a.data.toList = b.data.toList)
 | .slice none 0 0,.slice none 0 0=>true
 | .nilIface,.nilIface=>true
 | _,_=>false
theorem eqTV_ok {a b : Value} (h : eqTV a b = true) : a = b:=by
 unfold eqTV at h
 split at h
 ·simp only [Bool.and_eq_true,decide_eq_true_eq] at h
  rw [h.1,h.2]
 ·rw [of_decide_eq_true h]
 ·rename_i x y
  have h:=of_decide_eq_true h
  obtain ⟨⟨x⟩⟩:=x
  obtain ⟨⟨y⟩⟩:=y
  simp only at h
  subst h
  rfl
 ·rfl
 ·rfl
 ·cases h
mutual
def eqTA : AV → AV → Bool
 | .lit a,.lit b=>eqTV a b
 | .agg xs,.agg ys=>eqTL xs ys
 | .list .no n xs,.list .no m ys=>decide (n = m) && cP8 xs ys
 | _,_=>false
def eqTL : List AV → List AV → Bool
 | [],[]=>true
 | a :: r,b :: t=>eqTA a b && eqTL r t
 | _,_=>false
def cP8 : List (List AV) → List (List AV) → Bool
 | [],[]=>true
 | a :: r,b :: t=>eqTL a b && cP8 r t
 | _,_=>false
end
mutual
theorem eqTA_ok : ∀ {a b : AV},eqTA a b = true → a = b
 | .lit a,b,h=>by
  cases b <;> simp only [eqTA,Bool.false_eq_true] at h
  rw [eqTV_ok h]
 | .agg xs,b,h=>by
  cases b <;> simp only [eqTA,Bool.false_eq_true] at h
  rw [cg6 h]
 | .list .no n xs,b,h=>by
  cases b with
  | list sp m ys =>
   cases sp <;> simp only [eqTA,Bool.false_eq_true,Bool.and_eq_true,decide_eq_true_eq] at h
   rw [h.1,cL7 h.2]
  | _=>simp only [eqTA,Bool.false_eq_true] at h
 | .list .full n xs,b,h=>by cases b <;> simp only [eqTA,Bool.false_eq_true] at h
 | .list (.own _ _) n xs,b,h=>by cases b <;> simp only [eqTA,Bool.false_eq_true] at h
 | .tup _,b,h=>by cases b <;> simp only [eqTA,Bool.false_eq_true] at h
 | .ptr ..,b,h=>by cases b <;> simp only [eqTA,Bool.false_eq_true] at h
 | .cref _,b,h=>by cases b <;> simp only [eqTA,Bool.false_eq_true] at h
 | .row ..,b,h=>by cases b <;> simp only [eqTA,Bool.false_eq_true] at h
 | .mref ..,b,h=>by cases b <;> simp only [eqTA,Bool.false_eq_true] at h
 | .iface ..,b,h=>by cases b <;> simp only [eqTA,Bool.false_eq_true] at h
 | .fn ..,b,h=>by cases b <;> simp only [eqTA,Bool.false_eq_true] at h
theorem cg6 : ∀ {a b : List AV},eqTL a b = true → a = b
 | [],[],_=>rfl
 | [],_ :: _,h=>by simp only [eqTL,Bool.false_eq_true] at h
 | _ :: _,[],h=>by simp only [eqTL,Bool.false_eq_true] at h
 | a :: r,b :: t,h=>by
  simp only [eqTL,Bool.and_eq_true] at h
  rw [eqTA_ok h.1,cg6 h.2]
theorem cL7 : ∀ {a b : List (List AV)},cP8 a b = true → a = b
 | [],[],_=>rfl
 | [],_ :: _,h=>by simp only [cP8,Bool.false_eq_true] at h
 | _ :: _,[],h=>by simp only [cP8,Bool.false_eq_true] at h
 | a :: r,b :: t,h=>by
  simp only [cP8,Bool.and_eq_true] at h
  rw [cg6 h.1,cL7 h.2]
end
def tabO (rows : List (FuncId × List AV × AV)) : ak2:=fun f args S=>match S with
 | ⟨0,0,[],[],[]⟩=>(rows.find? fun r=>decide (r.1 = f) && eqTL r.2.1 args).map fun r=>(.ret r.2.2,none)
 | _=>none
section
variable [Cfg] {P : Program}
theorem cU4 {rows : List (FuncId × List AV × AV)} (h : ∀ r ∈ rows,ak5 P r.1 r.2.1 .bare = some (.ret r.2.2,none)) : (tabO rows).le (ak5 P):=by
 intro f args S r hr
 unfold tabO at hr
 split at hr
 ·obtain ⟨x,hx,rfl⟩:=Option.map_eq_some_iff.1 hr
  have h1:=List.find?_some hx
  have h2:=List.mem_of_find?_eq_some hx
  simp only [Bool.and_eq_true,decide_eq_true_eq] at h1
  have:=h x h2
  rw [h1.1,cg6 h1.2] at this
  exact this
 ·cases hr
def cL0 (P : Program) (rows : List (FuncId × List AV × AV)) (n : Nat) (f : FuncId) (args : List AV) : Option (AE × Upd):=match P.funcs[f]? with
 | some fn=>match fn.body with
  | some c => if (fn.name == "runtime.NumGoroutine") = false ∧ args.length ≤ fn.ntmps then finish P (tabO rows) n fn f .bare (aj3 P (tabO rows) n c (aC4 fn (aT0 f AS.bare.fn args)) (AS.bare.enter f)) else none
  | none=>none
 | none=>none
theorem cK7 {rows : List (FuncId × List AV × AV)} {n : Nat} {f : FuncId} {args : List AV} {r : AE × Upd} (hg : Cfg.given f = none) (hr : ∀ r ∈ rows,ak5 P r.1 r.2.1 .bare = some (.ret r.2.2,none)) (h : cL0 P rows n f args = some r) : ak5 P f args .bare = some r:=by
 unfold cL0 at h
 split at h
 case h_2=>cases h
 rename_i fn hf
 split at h
 case h_2=>cases h
 rename_i c hb
 split at h
 case isFalse=>cases h
 rename_i hc
 exact bX6 hg hf hb hc.1 hc.2 (bY8 (cU4 hr) (Nat.le_refl _) (fun z hz=>ap2 (cU4 hr) (Nat.le_refl _) c _ _ z hz) h)
end
open Go.RowKit
def r14c (k : Nat) : List AV:=[iA ((10 + 3 * k : Nat) : Int),iA 0,iA 0,sA [],iA 0,uA 0,uA 0,uA 0,uA 0,nS,iA 0,iA 0,iA 0,iA 0,iA 0,sA [],iA 0,uA 0,uA 0,uA 0,uA 0,nS,iA 0,iA 0,iA 0,bA false,.lit (.int .u8 58),sA [UInt8.ofNat (97 + k)],sA [],iA 0,uA 0,uA 0,uA 0,uA 0,nS,iA 0,iA 0,iA 0,nS,iA 0,bA false,bA false,sA [],sA []]
def scrG (n : Nat) : AV:=.agg [bA false,lstA 20 ((List.range n).map scA)]
def scrA (n : Nat) : AV:=.tup [scrG n,nS,iA 0,iA 0]
def r14G (n : Nat) : AV:=.agg [bA false,lstA 44 ((List.range n).map r14c)]
def r14A (n : Nat) : AV:=.tup [r14G n,nS,iA 0,iA 0]
def flnA (n : Nat) : AV:=.tup [flatA n,iA 0]
def r16A (n : Nat) : AV:=.tup [refA n,iA 0]
open Go.RowKit
theorem scr_run3 : al9 Tryz.prog 120 F.aU3 [sA (ag1 3),bA false] .bare = some (.ret (scrA 3),none):=by kernel_rfl
open Go.RowKit
theorem r14_run3 : al9 Tryz.prog 120 F.a02 [sA (ag1 3),bA false] .bare = some (.ret (r14A 3),none):=by kernel_rfl
open Go.RowKit
theorem fln_run3 : al9 Tryz.prog 120 F.bX1 [scrG 3] .bare = some (.ret (flnA 3),none):=by kernel_rfl
theorem r16_run3 : al9 Tryz.prog 120 F.bJ9 [r14G 3] .bare = some (.ret (r16A 3),none):=by kernel_rfl
def b93 : List (FuncId × List AV × AV):=[(F.aU3,[sA (ag1 3),bA false],scrA 3),(F.a02,[sA (ag1 3),bA false],r14A 3),(F.bX1,[scrG 3],flnA 3),(F.bJ9,[r14G 3],r16A 3)]
theorem cY6 : cL0 Tryz.prog b93 120 F.ai8 [sA (ag1 3),bA false] = some (.ret (bP9 3),none):=by kernel_rfl
theorem cV8 : ak5 Tryz.prog F.ai8 [sA (ag1 3),bA false] .bare = some (.ret (bP9 3),none) :=
 cK7 rfl (fun r hr=>by
  unfold b93 at hr
  simp only [List.mem_cons,List.mem_nil_iff,or_false] at hr
  rcases hr with rfl | rfl | rfl | rfl
  ·exact ai7.2 ⟨120,scr_run3⟩
  ·exact ai7.2 ⟨120,r14_run3⟩
  ·exact ai7.2 ⟨120,fln_run3⟩
  ·exact ai7.2 ⟨120,r16_run3⟩) cY6
open Go.RowKit
theorem scr_run4 : al9 Tryz.prog 120 F.aU3 [sA (ag1 4),bA false] .bare = some (.ret (scrA 4),none):=by kernel_rfl
open Go.RowKit
theorem r14_run4 : al9 Tryz.prog 120 F.a02 [sA (ag1 4),bA false] .bare = some (.ret (r14A 4),none):=by kernel_rfl
open Go.RowKit
theorem fln_run4 : al9 Tryz.prog 120 F.bX1 [scrG 4] .bare = some (.ret (flnA 4),none):=by kernel_rfl
theorem r16_run4 : al9 Tryz.prog 120 F.bJ9 [r14G 4] .bare = some (.ret (r16A 4),none):=by kernel_rfl
def b81 : List (FuncId × List AV × AV):=[(F.aU3,[sA (ag1 4),bA false],scrA 4),(F.a02,[sA (ag1 4),bA false],r14A 4),(F.bX1,[scrG 4],flnA 4),(F.bJ9,[r14G 4],r16A 4)]
theorem da5 : cL0 Tryz.prog b81 120 F.ai8 [sA (ag1 4),bA false] = some (.ret (bP9 4),none):=by kernel_rfl
theorem c65 : ak5 Tryz.prog F.ai8 [sA (ag1 4),bA false] .bare = some (.ret (bP9 4),none) :=
 cK7 rfl (fun r hr=>by
  unfold b81 at hr
  simp only [List.mem_cons,List.mem_nil_iff,or_false] at hr
  rcases hr with rfl | rfl | rfl | rfl
  ·exact ai7.2 ⟨120,scr_run4⟩
  ·exact ai7.2 ⟨120,r14_run4⟩
  ·exact ai7.2 ⟨120,fln_run4⟩
  ·exact ai7.2 ⟨120,r16_run4⟩) da5
open Go.RowKit
def loadA (q : Bool) : AV:=.tup [.cref [bA q,nS,nS,iA 0,bA q,nS,iA 0],nS,iA 0,iA 0]
theorem c04 : al9 Tryz.prog 120 F.aD5 [sA [],.agg [bA false,bA false]] .bare = some (.ret (loadA false),none):=by kernel_rfl
theorem cV6 : al9 Tryz.prog 120 F.aD5 [sA [],.agg [bA false,bA true]] .bare = some (.ret (loadA true),none):=by kernel_rfl
open Go.RowKit
noncomputable section
def ai8 (a0 : List UInt8) (a1 : Bool) : Option ((Option D.ad1) × D.ai2 × Bool):=G.made a0 a1
def S.ai8 (P : Program) (φ : (List UInt8) → Bool → Option ((Option D.ad1) × D.ai2 × Bool)) : Prop:=∀ (a0 : List UInt8) (a1 : Bool) (r : ((Option D.ad1) × D.ai2 × Bool)),φ a0 a1 = some r → ∀ (k0 : Nat) (args : List AV),RVN [.str a0,.bool a1] args → b73 P F.ai8 args (ResC [.v (vref ac5 r.1),.agg (ax5 r.2.1),.bool r.2.2])
def strings_Split (a0 : List UInt8) (a1 : List UInt8) : Option (List (List UInt8)):=G.split a0 a1
def S.strings_Split (P : Program) (φ : (List UInt8) → (List UInt8) → Option (List (List UInt8))) : Prop:=∀ (a0 : List UInt8) (a1 : List UInt8) (r : (List (List UInt8))),φ a0 a1 = some r → ∀ (k0 : Nat) (args : List AV),RVN [.str a0,.str a1] args → b73 P F.strings_Split args (ResC [.sl 1 (r.map aa6)])
def ah6 (a0 : (List Int)) : Option (List Int):=G.clone a0
def S.ah6 (P : Program) (φ : (List Int) → Option (List Int)) : Prop:=∀ (a0 : (List Int)) (r : (List Int)),φ a0 = some r → ∀ (k0 : Nat) (args : List AV),RVN [.sl 1 (a0.map (ah4 .i64))] args → b73 P F.ah6 args (ResC [.sl 1 (r.map (ah4 .i64))])
def ab9 (a0 : (List D.ao9)) : Option (List D.ao9):=G.clone a0
def S.ab9 (P : Program) (φ : (List D.ao9) → Option (List D.ao9)) : Prop:=∀ (a0 : (List D.ao9)) (r : (List D.ao9)),φ a0 = some r → ∀ (k0 : Nat) (args : List AV),RVN [.sl 2 (a0.map y5)] args → b73 P F.ab9 args (ResC [.sl 2 (r.map y5)])
def aD5 (a0 : List UInt8) (a1 : D.aw7) : Option ((Option D.ad1) × (List D.bN6) × Int × Int):=G.load a0 a1
def S.aD5 (P : Program) (φ : (List UInt8) → D.aw7 → Option ((Option D.ad1) × (List D.bN6) × Int × Int)) : Prop:=∀ (a0 : List UInt8) (a1 : D.aw7) (r : ((Option D.ad1) × (List D.bN6) × Int × Int)),φ a0 a1 = some r → ∀ (k0 : Nat) (args : List AV),RVN [.str a0,.agg (cg3 a1)] args → b73 P F.aD5 args (ResC [.v (vref ac5 r.1),.sl 2 (r.2.1.map cR1),.int .i64 r.2.2.1,.int .i64 r.2.2.2])
def al3 (a0 : D.y9) : Option (List D.al7):=G.list0 a0
def S.al3 (P : Program) (φ : D.y9 → Option (List D.al7)) : Prop:=∀ (a0 : D.y9) (r : (List D.al7)),φ a0 = some r → cQ9 P F.al3 [.o (.ptr 96 (o7 a0))] [.sl 2 (r.map as4)]
def ak7 (a0 : (List (List UInt8))) : Option (List (List UInt8)):=G.clone a0
def S.ak7 (P : Program) (φ : (List (List UInt8)) → Option (List (List UInt8))) : Prop:=∀ (a0 : (List (List UInt8))) (r : (List (List UInt8))),φ a0 = some r → ∀ (k0 : Nat) (args : List AV),RVN [.sl 1 (a0.map aa6)] args → b73 P F.ak7 args (ResC [.sl 1 (r.map aa6)])
def aL2 : Option Bool:=some true
def aS0 : Option Bool:=some true
end
open Go.RowKit
instance (n : Nat) : OfNat X n:=⟨.t n⟩
@[reducible] def b0 (d : Nat) (o : BO) : BI:=⟨some d,none,.none,o⟩
@[reducible] def i0 (n : Int) : X:=.c (.lit (.int .i64 n))
def K.cs7 : BC:=.seq (.ops [b0 2 (.mv (.c (.lit (.bool false))))]) .ret
def K.cv9 : BC:=.cond 13 K.cs7 .skip
def K.cz3 : BC:=.seq (.ops [b0 11 (.mv 4),⟨some 12,none,(.at 11),.ls 11⟩,b0 13 (.ib .gtr 12 (i0 8))]) K.cv9
def K.cm4 : BC:=.ops [b0 14 (.ib .add 7 (i0 1)),b0 7 (.mv 14)]
def K.cn0 : BC:=.seq (.block 1 (.seq (.ops [b0 9 (.ia 1 5 7),⟨some 10,none,(.at 9),.ld1 9⟩,b0 4 (.mv 10)]) K.cz3)) K.cm4
def K.cA5 : BC:=.seq (.cond 8 .skip (.exit 0)) K.cn0
def K.bo8 : BC:=.seq (.ops [b0 8 (.ib .lss 7 6)]) K.cA5
def K.bT5 : BC:=.seq (.ops [b0 15 (.mv 0),⟨some 16,none,(.at 15),.ll 15⟩,b0 17 (.ib .leq 16 (i0 6)),b0 2 (.mv 17)]) .ret
def K.cu6 : BC:=.block 0 (.loop K.bo8)
def K.cm0 : BC:=.seq (.seq (.ops [b0 5 (.mv 0),⟨some 6,none,(.at 5),.ll 5⟩,b0 7 (.mv (i0 0))]) K.cu6) K.bT5
def K.ai6 : BFn:=⟨18,[.t 2],.seq (.ops [b0 2 (.mv (.c (.lit (.bool false))))]) K.cm0⟩
def K.bA9 : BC:=.seq (.ops [b0 3 (.mv 0),b0 4 (.nc 3),b0 5 (.fa 0 4),⟨some 6,none,(.at 5),.ld1 5⟩,b0 7 (.cl 53 [6]),b0 8 (.bd [(.lit (.map none))] [(0,1,7)]),⟨some 9,none,.here,.bx 96 8⟩,b0 2 (.mv 9)]) .ret
def K.ae3 : BFn:=⟨10,[.t 2],.seq (.ops [b0 2 (.mv (.c (.lit (.pointer none))))]) K.bA9⟩
def K.cr2 : BC:=.seq (.ops [b0 3 (.mv 0),b0 4 (.cl 55 [3,(.c (.lit (.string (bs [10]))))]),b0 2 (.mv 4)]) .ret
def K.an6 : BFn:=⟨5,[.t 2],.seq (.ops [b0 2 (.mv (.c (.lit (.slice none 0 0))))]) K.cr2⟩
def K.ay6 : BC:=.cond 30 .skip (.exit 2)
def K.az1 : BC:=.ops [b0 31 (.mv 7),b0 32 (.ib .sub 31 (i0 1)),b0 7 (.mv 32)]
def K.az5 : BC:=.seq (.block 3 (.draw [b0 33 (.mv 0),b0 34 (.mv 7),b0 35 (.mv 0),b0 36 (.mv 7),b0 37 (.ib .sub 36 (i0 1)),b0 38 (.mv 0),b0 39 (.mv 7),b0 40 (.ib .sub 39 (i0 1)),b0 41 (.ia 1 38 40),⟨some 42,none,(.at 41),.ld1 41⟩,b0 43 (.mv 0),b0 44 (.mv 7),b0 45 (.ia 1 43 44),⟨some 46,none,(.at 45),.ld1 45⟩,b0 47 (.ia 1 33 34),⟨none,none,(.at 47),.st 1 47 42⟩,b0 48 (.ia 1 35 37),⟨none,none,(.at 48),.st 1 48 46⟩] [])) K.az1
def K.ak8 : BC:=.seq (.seq (.draw [b0 16 (.mv 7),b0 17 (.mv 1),b0 18 (.ib .gtr 16 17),b0 19 (.mv 18),⟨some 20,(some (19,true)),.none,.mv 0⟩,⟨some 21,(some (19,true)),.none,.mv 7⟩,⟨some 22,(some (19,true)),.none,.ia 1 20 21⟩,⟨some 23,(some (19,true)),(.at 22),.ld1 22⟩,⟨some 24,(some (19,true)),.none,.mv 0⟩,⟨some 25,(some (19,true)),.none,.mv 7⟩,⟨some 26,(some (19,true)),.none,.ib .sub 25 (i0 1)⟩,⟨some 27,(some (19,true)),.none,.ia 1 24 26⟩,⟨some 28,(some (19,true)),(.at 27),.ld1 27⟩,⟨some 29,(some (19,true)),.none,.cl 146 [23,28]⟩,b0 30 (.pk 19 29 (.c (.lit (.bool false))))] []) K.ay6) K.az5
def K.ap7 : BC:=.ops [b0 13 (.mv 6),b0 14 (.ib .add 13 (i0 1)),b0 6 (.mv 14)]
def K.ay7 : BC:=.cond 12 .skip (.exit 0)
def K.ay5 : BC:=.block 2 (.loop K.ak8)
def K.az6 : BC:=.seq (.block 1 (.seq (.ops [b0 15 (.mv 6),b0 7 (.mv 15)]) K.ay5)) K.ap7
def K.al0 : BC:=.seq (.seq (.ops [b0 10 (.mv 6),b0 11 (.mv 2),b0 12 (.ib .lss 10 11)]) K.ay7) K.az6
def K.az2 : BC:=.block 0 (.loop K.al0)
def K.o9 : BFn:=⟨49,[],.seq (.ops [b0 8 (.mv 1),b0 9 (.ib .add 8 (i0 1)),b0 6 (.mv 9)]) K.az2⟩
def K.aJ3 : BC:=.ops [b0 12 (.mv (i0 1))]
def K.aJ9 : BC:=.seq (.ops [b0 55 (.mv 2),b0 56 (.ib .sub 55 (i0 1)),b0 57 (.mv 11),b0 58 (.mv 1),b0 59 (.ib .sub 57 58),b0 60 (.ib .sub 56 59),b0 11 (.mv 60)]) K.aJ3
def K.aL6 : BC:=.seq (.ops [b0 51 (.mv 0),b0 52 (.mv 1),b0 53 (.mv 2),b0 54 (.cl 144 [51,52,53])]) K.aJ9
def K.aL8 : BC:=.cond 50 K.aL6 .skip
def K.aK5 : BC:=.cond 72 .ret .skip
def K.aL4 : BC:=.seq (.ops [b0 69 (.mv 0),b0 70 (.mv 1),b0 71 (.mv 2),b0 72 (.cl 145 [69,70,71])]) K.aK5
def K.aI8 : BC:=.cond 68 K.aL4 .skip
def K.aK2 : BC:=.seq (.ops [b0 93 (.mv 13),b0 1 (.mv 93)]) (.exit 1)
def K.aL0 : BC:=.seq (.ops [b0 88 (.mv 0),b0 89 (.mv 1),b0 90 (.mv 2),b0 91 (.mv 11),b0 92 (.cl 147 [88,89,90,91]),b0 13 (.mv 92)]) K.aK2
def K.aM0 : BC:=.cond 87 K.aL0 .skip
def K.aI4 : BC:=.ops [b0 122 (.mv 14),b0 123 (.ib .add 122 (i0 1)),b0 1 (.mv 123)]
def K.aH7 : BC:=.seq (.ops [b0 117 (.mv 0),b0 118 (.mv 1),b0 119 (.mv 14),b0 120 (.mv 3),b0 121 (.cl 98 [117,118,119,120])]) K.aI4
def K.aH8 : BC:=.seq (.ops [b0 114 (.mv 16),b0 115 (.mv 18),b0 116 (.ib .geq 114 115),b0 8 (.mv 116)]) K.aH7
def K.aF9 : BC:=.ops [b0 133 (.mv 14),b0 2 (.mv 133)]
def K.aH1 : BC:=.seq (.ops [b0 127 (.mv 0),b0 128 (.mv 14),b0 129 (.ib .add 128 (i0 1)),b0 130 (.mv 2),b0 131 (.mv 3),b0 132 (.cl 98 [127,129,130,131])]) K.aF9
def K.aG8 : BC:=.seq (.ops [b0 124 (.mv 17),b0 125 (.mv 18),b0 126 (.ib .geq 124 125),b0 8 (.mv 126)]) K.aH1
def K.aG6 : BC:=.cond 113 K.aH8 K.aG8
def K.aG9 : BC:=.seq (.ops [b0 111 (.mv 16),b0 112 (.mv 17),b0 113 (.ib .lss 111 112)]) K.aG6
def K.aI2 : BC:=.seq (.ops [b0 109 (.mv 10),b0 110 (.ib .quo 109 (i0 8)),b0 18 (.mv 110)]) K.aG9
def K.aH5 : BC:=.seq (.ops [b0 103 (.mv 14),b0 104 (.mv 1),b0 105 (.ib .sub 103 104),b0 106 (.mv 2),b0 107 (.mv 14),b0 108 (.ib .sub 106 107),b0 16 (.mv 105),b0 17 (.mv 108)]) K.aI2
def K.aH6 : BC:=.seq (.ops [b0 102 (.mv 15),b0 9 (.mv 102)]) K.aH5
def K.aE8 : BC:=.seq (.ops [b0 95 (.mv 0),b0 96 (.mv 1),b0 97 (.mv 2),b0 98 (.mv 11),b0 99 (.cl 148 [95,96,97,98]),b0 94 (.mv 99),b0 100 (.ex 94 0),b0 101 (.ex 94 1),b0 14 (.mv 100),b0 15 (.mv 101)]) K.aH6
def K.aF3 : BC:=.seq (.seq (.draw [b0 73 (.mv 1),b0 74 (.ib .gtr 73 (i0 0)),b0 75 (.mv 74),⟨some 76,(some (75,true)),.none,.mv 0⟩,⟨some 77,(some (75,true)),.none,.mv 1⟩,⟨some 78,(some (75,true)),.none,.ib .sub 77 (i0 1)⟩,⟨some 79,(some (75,true)),.none,.ia 1 76 78⟩,⟨some 80,(some (75,true)),(.at 79),.ld1 79⟩,⟨some 81,(some (75,true)),.none,.mv 0⟩,⟨some 82,(some (75,true)),.none,.mv 11⟩,⟨some 83,(some (75,true)),.none,.ia 1 81 82⟩,⟨some 84,(some (75,true)),(.at 83),.ld1 83⟩,⟨some 85,(some (75,true)),.none,.cl 146 [80,84]⟩,⟨some 86,(some (75,true)),.none,.nt 85⟩,b0 87 (.pk 75 86 (.c (.lit (.bool false))))] []) K.aM0) K.aE8
def K.aF0 : BC:=.seq (.seq (.ops [b0 61 (.mv 8),b0 62 (.mv 61),⟨some 63,(some (62,true)),.none,.mv 9⟩,b0 64 (.pk 62 63 (.c (.lit (.bool false)))),b0 65 (.mv 64),⟨some 66,(some (65,true)),.none,.mv 12⟩,⟨some 67,(some (65,true)),.none,.ib .eql 66 (i0 1)⟩,b0 68 (.pk 65 67 (.c (.lit (.bool false))))]) K.aI8) K.aF3
def K.aF1 : BC:=.seq (.seq (.ops [b0 49 (.mv 12),b0 50 (.ib .eql 49 (i0 2))]) K.aL8) K.aF0
def K.as8 : BC:=.seq (.ops [b0 43 (.mv 0),b0 44 (.mv 1),b0 45 (.mv 2),b0 46 (.cl 143 [43,44,45]),b0 42 (.mv 46),b0 47 (.ex 42 0),b0 48 (.ex 42 1),b0 11 (.mv 47),b0 12 (.mv 48)]) K.aF1
def K.aF7 : BC:=.seq (.ops [b0 24 (.mv 0),b0 25 (.mv 1),b0 26 (.mv 2),b0 27 (.cl 140 [24,25,26])]) .ret
def K.aF5 : BC:=.cond 23 K.aF7 .skip
def K.aG1 : BC:=.seq (.ops [b0 30 (.mv 0),b0 31 (.mv 1),b0 32 (.mv 2),b0 33 (.cl 141 [30,31,32])]) .ret
def K.aG0 : BC:=.cond 29 K.aG1 .skip
def K.aG5 : BC:=.ops [b0 40 (.mv 3),b0 41 (.ib .sub 40 (i0 1)),b0 3 (.mv 41)]
def K.aI5 : BC:=.seq (.ops [b0 36 (.mv 0),b0 37 (.mv 1),b0 38 (.mv 2),b0 39 (.cl 142 [36,37,38])]) K.aG5
def K.aI1 : BC:=.cond 35 K.aI5 .skip
def K.aG4 : BC:=.seq (.seq (.ops [b0 34 (.mv 8),b0 35 (.nt 34)]) K.aI1) K.as8
def K.aH4 : BC:=.seq (.seq (.ops [b0 28 (.mv 3),b0 29 (.ib .eql 28 (i0 0))]) K.aG0) K.aG4
def K.aG3 : BC:=.seq (.seq (.ops [b0 22 (.mv 10),b0 23 (.ib .leq 22 (i0 12))]) K.aF5) K.aH4
def K.an1 : BC:=.block 1 (.seq (.ops [b0 19 (.mv 2),b0 20 (.mv 1),b0 21 (.ib .sub 19 20),b0 10 (.mv 21)]) K.aG3)
def K.aF2 : BC:=.block 0 (.loop K.an1)
def K.aF4 : BC:=.seq (.ops [b0 9 (.mv (.c (.lit (.bool true))))]) K.aF2
def K.x8 : BFn:=⟨134,[],.seq (.ops [b0 8 (.mv (.c (.lit (.bool true))))]) K.aF4⟩
def K.bO5 : BC:=.ops [b0 11 (.mv 2),b0 12 (.ib .add 11 (i0 16)),b0 2 (.mv 12)]
def K.bL4 : BC:=.seq (.ops [b0 9 (.mv 0),b0 10 (.ib .shr 9 (.c (.lit (.int .u64 16)))),b0 0 (.mv 10)]) K.bO5
def K.bJ3 : BC:=.cond 8 K.bL4 .skip
def K.bI4 : BC:=.ops [b0 17 (.mv 2),b0 18 (.ib .add 17 (i0 8)),b0 2 (.mv 18)]
def K.bL0 : BC:=.seq (.ops [b0 15 (.mv 0),b0 16 (.ib .shr 15 (.c (.lit (.int .u64 8)))),b0 0 (.mv 16)]) K.bI4
def K.bN1 : BC:=.cond 14 K.bL0 .skip
def K.bK8 : BC:=.seq (.ops [b0 19 (.mv 2),b0 20 (.mv 0),⟨some 21,none,(.at 20),.cvi .u8 20⟩,b0 22 (.xs (.c (.lit (.string (bs [0,1,2,2,3,3,3,3,4,4,4,4,4,4,4,4,5,5,5,5,5,5,5,5,5,5,5,5,5,5,5,5,6,6,6,6,6,6,6,6,6,6,6,6,6,6,6,6,6,6,6,6,6,6,6,6,6,6,6,6,6,6,6,6,7,7,7,7,7,7,7,7,7,7,7,7,7,7,7,7,7,7,7,7,7,7,7,7,7,7,7,7,7,7,7,7,7,7,7,7,7,7,7,7,7,7,7,7,7,7,7,7,7,7,7,7,7,7,7,7,7,7,7,7,7,7,7,7,8,8,8,8,8,8,8,8,8,8,8,8,8,8,8,8,8,8,8,8,8,8,8,8,8,8,8,8,8,8,8,8,8,8,8,8,8,8,8,8,8,8,8,8,8,8,8,8,8,8,8,8,8,8,8,8,8,8,8,8,8,8,8,8,8,8,8,8,8,8,8,8,8,8,8,8,8,8,8,8,8,8,8,8,8,8,8,8,8,8,8,8,8,8,8,8,8,8,8,8,8,8,8,8,8,8,8,8,8,8,8,8,8,8,8,8,8,8,8,8,8,8,8,8,8,8,8,8])))) 21),⟨some 23,none,(.at 22),.cvi .i64 22⟩,b0 24 (.ib .add 19 23),b0 2 (.mv 24)]) .ret
def K.aU9 : BC:=.seq (.seq (.ops [b0 13 (.mv 0),b0 14 (.ib .geq 13 (.c (.lit (.int .u64 256))))]) K.bN1) K.bK8
def K.aT8 : BC:=.seq (.seq (.ops [b0 7 (.mv 0),b0 8 (.ib .geq 7 (.c (.lit (.int .u64 65536))))]) K.bJ3) K.aU9
def K.bL1 : BC:=.ops [b0 2 (.mv (i0 32))]
def K.bD6 : BC:=.seq (.ops [b0 5 (.mv 0),b0 6 (.ib .shr 5 (.c (.lit (.int .u64 32)))),b0 0 (.mv 6)]) K.bL1
def K.bA6 : BC:=.cond 4 K.bD6 .skip
def K.bC1 : BC:=.seq (.seq (.ops [b0 3 (.mv 0),b0 4 (.ib .geq 3 (.c (.lit (.int .u64 4294967296))))]) K.bA6) K.aT8
def K.ae6 : BFn:=⟨25,[.t 2],.seq (.ops [b0 2 (.mv (i0 0))]) K.bC1⟩
def K.bV5 : BC:=.seq (.ops [b0 3 (.mv 0),⟨some 4,none,(.at 3),.cvi .u32 3⟩,b0 5 (.cl 149 [4]),b0 2 (.mv 5)]) .ret
def K.bW5 : BC:=.seq (.ops [b0 6 (.mv 0),b0 7 (.cl 150 [6]),b0 2 (.mv 7)]) .ret
def K.bW3 : BC:=.seq (.cond (.c (.lit (.bool false))) K.bV5 .skip) K.bW5
def K.ag7 : BFn:=⟨8,[.t 2],.seq (.ops [b0 2 (.mv (i0 0))]) K.bW3⟩
def K.aQ3 : BC:=.ops [b0 5 (.mv 0),b0 6 (.mv 2),b0 7 (.mv 2),⟨some 8,none,(.at 7),.cvi .u64 7⟩,b0 9 (.cl 99 [8]),b0 10 (.cl 98 [5,(i0 0),6,9])]
def K.aa7 : BFn:=⟨11,[],.seq (.ops [b0 3 (.mv 0),⟨some 4,none,(.at 3),.ll 3⟩,b0 2 (.mv 4)]) K.aQ3⟩
def K.aL3 : BC:=.cond 32 .skip (.exit 2)
def K.aL9 : BC:=.ops [b0 52 (.mv 3),b0 53 (.ib .add 52 (i0 1)),b0 3 (.mv 53)]
def K.aJ8 : BC:=.seq (.ops [b0 45 (.mv 0),b0 46 (.mv 3),b0 47 (.mv 4),b0 48 (.mv 5),b0 49 (.ia 1 47 48),⟨some 50,none,(.at 49),.ld1 49⟩,b0 51 (.ia 1 45 46),⟨none,none,(.at 51),.st 1 51 50⟩]) K.aL9
def K.aI9 : BC:=.cond 44 K.aJ8 .skip
def K.aK9 : BC:=.ops [b0 33 (.mv 5),b0 34 (.ib .add 33 (i0 1)),b0 5 (.mv 34)]
def K.aJ2 : BC:=.seq (.block 3 (.seq (.draw [b0 35 (.mv 4),b0 36 (.mv 5),b0 37 (.ia 1 35 36),⟨some 38,none,(.at 37),.ld1 37⟩,b0 39 (.mv 4),b0 40 (.mv 5),b0 41 (.ib .sub 40 (i0 1)),b0 42 (.ia 1 39 41),⟨some 43,none,(.at 42),.ld1 42⟩,b0 44 (.sb .neq 38 43)] []) K.aI9)) K.aK9
def K.an7 : BC:=.seq (.seq (.ops [b0 29 (.mv 5),b0 30 (.mv 4),⟨some 31,none,(.at 30),.ll 30⟩,b0 32 (.ib .lss 29 31)]) K.aL3) K.aJ2
def K.au2 : BC:=.ops [b0 14 (.mv 3),b0 15 (.ib .add 14 (i0 1)),b0 3 (.mv 15)]
def K.aL7 : BC:=.seq (.ops [b0 57 (.mv 0),b0 58 (.mv 3),b0 59 (.sll 1 57 none (some 58) none),b0 2 (.mv 59)]) .ret
def K.au1 : BC:=.seq (.ops [b0 54 (.mv 0),b0 55 (.mv 3),b0 56 (.sll 1 54 (some 55) none none),⟨none,none,.none,.gen (.call ⟨(.builtin .clear),#[(.tmp 56)],#[22]⟩) 0⟩]) K.aL7
def K.aI3 : BC:=.cond 13 .skip (.exit 0)
def K.aG7 : BC:=.block 2 (.loop K.an7)
def K.aG2 : BC:=.seq (.seq (.ops [b0 5 (.mv (i0 1))]) K.aG7) K.au1
def K.aE9 : BC:=.seq (.ops [b0 26 (.mv 0),b0 27 (.mv 3),b0 28 (.sll 1 26 (some 27) none none),b0 4 (.mv 28)]) K.aG2
def K.aI0 : BC:=.cond 25 K.aE9 .skip
def K.aH9 : BC:=.seq (.block 1 (.seq (.draw [b0 16 (.mv 0),b0 17 (.mv 3),b0 18 (.ia 1 16 17),⟨some 19,none,(.at 18),.ld1 18⟩,b0 20 (.mv 0),b0 21 (.mv 3),b0 22 (.ib .sub 21 (i0 1)),b0 23 (.ia 1 20 22),⟨some 24,none,(.at 23),.ld1 23⟩,b0 25 (.sb .eql 19 24)] []) K.aI0)) K.au2
def K.an4 : BC:=.seq (.seq (.ops [b0 10 (.mv 3),b0 11 (.mv 0),⟨some 12,none,(.at 11),.ll 11⟩,b0 13 (.ib .lss 10 12)]) K.aI3) K.aH9
def K.as7 : BC:=.seq (.ops [b0 60 (.mv 0),b0 2 (.mv 60)]) .ret
def K.aF6 : BC:=.seq (.ops [b0 9 (.mv 0),b0 2 (.mv 9)]) .ret
def K.aH3 : BC:=.cond 8 K.aF6 .skip
def K.aH0 : BC:=.block 0 (.loop K.an4)
def K.aF8 : BC:=.seq (.seq (.ops [b0 3 (.mv (i0 1))]) K.aH0) K.as7
def K.aH2 : BC:=.seq (.seq (.ops [b0 6 (.mv 0),⟨some 7,none,(.at 6),.ll 6⟩,b0 8 (.ib .lss 7 (i0 2))]) K.aH3) K.aF8
def K.x9 : BFn:=⟨61,[.t 2],.seq (.ops [b0 2 (.mv (.c (.lit (.slice none 0 0))))]) K.aH2⟩
def K.bE1 : BC:=.ops [b0 22 (.mv 3),b0 23 (.fa 11 6),⟨some 24,none,(.at 23),.ld1 23⟩,⟨some 25,none,.here,.bsl 9 1 [24]⟩,⟨some 26,none,(.app 22 25),.ap 9 1 16 22 25⟩,b0 3 (.mv 26)]
def K.bE9 : BC:=.ops [b0 32 (.mv 3),b0 33 (.fa 12 6),b0 34 (.fa 6 33),⟨some 35,none,(.at 34),.ld1 34⟩,⟨some 36,none,.here,.bsl 9 1 [35]⟩,⟨some 37,none,(.app 32 36),.ap 9 1 16 32 36⟩,b0 3 (.mv 37)]
def K.bB0 : BC:=.cond 27 K.bE9 .skip
def K.bG2 : BC:=.seq (.ops [b0 28 (.fa 12 6),b0 29 (.fa 6 28),⟨some 30,none,(.at 29),.ld1 29⟩,b0 31 (.sb .neq 30 (.c (.lit (.string (bs []))))),b0 27 (.mv 31)]) K.bB0
def K.bG5 : BC:=.cond 18 K.bE1 K.bG2
def K.bB5 : BC:=.block 2 (.seq (.ops [b0 19 (.fa 10 6),⟨some 20,none,(.at 19),.ld1 19⟩,b0 21 (.ib .eql 20 (.c (.lit (.int .u8 119)))),b0 18 (.mv 21)]) K.bG5)
def K.bF1 : BC:=.seq (.ops [b0 16 (.fa 0 5),⟨some 17,none,(.at 16),.ldn 20 16⟩,⟨some 6,none,.here,.al 134 [(.lit (.int .i64 0)),(.lit (.int .i64 0)),(.lit (.int .i64 0)),(.lit (.string (bs []))),(.lit .nilIface),(.lit (.int .i64 0)),(.lit (.int .i64 0)),(.lit (.string (bs []))),(.lit .nilIface),(.lit (.bool false)),(.lit (.int .u8 0)),(.lit (.string (bs []))),(.lit (.string (bs []))),(.lit .nilIface),(.lit (.slice none 0 0)),(.lit (.int .i64 0)),(.lit (.bool false)),(.lit (.bool false)),(.lit (.string (bs []))),(.lit (.string (bs [])))]⟩,⟨none,none,(.at 6),.st 20 6 17⟩]) K.bB5
def K.bG4 : BC:=.ops [b0 38 (.ib .add 12 (i0 1)),b0 12 (.mv 38)]
def K.bF2 : BC:=.seq (.block 1 (.seq (.ops [b0 14 (.ia 26 10 12),⟨some 15,none,(.at 14),.ldn 26 14⟩,⟨some 5,none,.here,.al 136 [(.lit (.int .i64 0)),(.lit (.int .i64 0)),(.lit (.int .i64 0)),(.lit (.string (bs []))),(.lit .nilIface),(.lit (.int .i64 0)),(.lit (.int .i64 0)),(.lit (.string (bs []))),(.lit .nilIface),(.lit (.bool false)),(.lit (.int .u8 0)),(.lit (.string (bs []))),(.lit (.string (bs []))),(.lit .nilIface),(.lit (.slice none 0 0)),(.lit (.int .i64 0)),(.lit (.bool false)),(.lit (.bool false)),(.lit (.string (bs []))),(.lit (.string (bs []))),(.lit (.int .i64 0)),(.lit (.int .i64 0)),(.lit (.int .i64 0)),(.lit (.int .i64 0)),(.lit (.int .i64 0)),(.lit (.int .i64 0))]⟩,⟨none,none,(.at 5),.st 26 5 15⟩]) K.bF1)) K.bG4
def K.bB7 : BC:=.seq (.cond 13 .skip (.exit 0)) K.bF2
def K.az7 : BC:=.seq (.ops [b0 13 (.ib .lss 12 11)]) K.bB7
def K.by0 : BC:=.seq (.ops [b0 41 (.mv 3),b0 42 (.cl 57 [41]),b0 2 (.mv 42)]) .ret
def K.aP1 : BC:=.seq (.ops [b0 39 (.mv 3),b0 40 (.cl 56 [39])]) K.by0
def K.bv6 : BC:=.block 0 (.loop K.az7)
def K.bv2 : BC:=.seq (.seq (.ops [b0 7 (.mv 0),b0 8 (.nc 7),b0 9 (.fa 1 8),⟨some 10,none,(.at 9),.ld1 9⟩,⟨some 11,none,(.at 10),.ll 10⟩,b0 12 (.mv (i0 0))]) K.bv6) K.aP1
def K.bz7 : BC:=.seq (.ops [b0 3 (.mv (.c (.lit (.slice none 0 0))))]) K.bv2
def K.ab3 : BFn:=⟨43,[.t 2],.seq (.ops [b0 2 (.mv (.c (.lit (.slice none 0 0))))]) K.bz7⟩
def K.bw3 : BC:=.seq (.draw [b0 3 (.mv 0),b0 4 (.nc 3),b0 5 (.fa 6 4),b0 6 (.fa 4 5),⟨some 7,none,(.at 6),.ld1 6⟩,b0 8 (.mv 0),b0 9 (.nc 8),b0 10 (.fa 2 9),⟨some 11,none,(.at 10),.ld1 10⟩,⟨some 12,none,(.at 11),.ll 11⟩,b0 13 (.ib .eql 7 12),b0 2 (.mv 13)] []) .ret
def K.ae0 : BFn:=⟨14,[.t 2],.seq (.ops [b0 2 (.mv (.c (.lit (.bool false))))]) K.bw3⟩
def K.bw2 : BC:=.seq (.ops [b0 2 (.mv (.c (.lit (.string (bs []))))),b0 3 (.mv (.c (.lit (.bool false))))]) .ret
def K.bw1 : BC:=.seq (.ops [b0 6 (.mv 0),b0 7 (.nc 6),b0 8 (.fa 6 7),b0 9 (.fa 7 8),⟨none,none,(.at 9),.st 1 9 (.c (.lit (.bool true)))⟩]) K.bw2
def K.by3 : BC:=.cond 5 K.bw1 .skip
def K.by4 : BC:=.seq (.draw [b0 19 (.mv 0),b0 20 (.nc 19),b0 21 (.fa 2 20),⟨some 22,none,(.at 21),.ld1 21⟩,b0 23 (.mv 0),b0 24 (.nc 23),b0 25 (.fa 6 24),b0 26 (.fa 4 25),⟨some 27,none,(.at 26),.ld1 26⟩,b0 28 (.ib .sub 27 (i0 1)),b0 29 (.ia 1 22 28),⟨some 30,none,(.at 29),.ld1 29⟩,b0 2 (.mv 30),b0 3 (.mv (.c (.lit (.bool true))))] []) .ret
def K.by7 : BC:=.seq (.ops [b0 10 (.mv 0),b0 11 (.nc 10),b0 12 (.fa 6 11),b0 13 (.fa 4 12),⟨some 14,none,(.at 13),.ld1 13⟩,b0 15 (.ib .add 14 (i0 1)),b0 16 (.nc 10),b0 17 (.fa 6 16),b0 18 (.fa 4 17),⟨none,none,(.at 18),.st 1 18 15⟩]) K.by4
def K.bw9 : BC:=.seq (.seq (.ops [b0 4 (.mv 0),b0 5 (.cl 100 [4])]) K.by3) K.by7
def K.ac4 : BFn:=⟨31,[.t 2,.t 3],.seq (.ops [b0 2 (.mv (.c (.lit (.string (bs []))))),b0 3 (.mv (.c (.lit (.bool false))))]) K.bw9⟩
def K.bn4 : BC:=.ops [b0 10 (.mv 0),b0 11 (.mv 0),b0 12 (.mv 0),b0 13 (.mv 2),b0 14 (.nc 10),b0 15 (.fa 6 14),b0 16 (.fa 1 15),⟨none,none,(.at 16),.st 1 16 13⟩,b0 17 (.nc 11),b0 18 (.fa 6 17),b0 19 (.fa 3 18),⟨none,none,(.at 19),.st 1 19 (.c (.lit (.bool false)))⟩,b0 20 (.nc 12),b0 21 (.fa 6 20),b0 22 (.fa 0 21),⟨none,none,(.at 22),.st 1 22 (i0 0)⟩]
def K.bs3 : BC:=.cond 9 K.bn4 .skip
def K.bs6 : BC:=.seq (.ops [b0 9 (.mv 3)]) K.bs3
def K.ab2 : BFn:=⟨23,[],.seq (.ops [b0 5 (.mv 0),b0 6 (.cl 58 [5]),b0 4 (.mv 6),b0 7 (.ex 4 0),b0 8 (.ex 4 1),b0 2 (.mv 7),b0 3 (.mv 8)]) K.bs6⟩
def K.cB4 : BC:=.draw [b0 28 (.mv 7),b0 29 (.mv 7),b0 30 (.nc 29),b0 31 (.fa 1 30),⟨some 32,none,(.at 31),.ld1 31⟩,⟨some 33,none,(.at 9),.ldn 4 9⟩,b0 34 (.cl 21 [33]),⟨some 35,none,.here,.bsl 88 1 [34]⟩,⟨some 36,none,(.app 32 35),.ap 88 1 8 32 35⟩,b0 37 (.nc 28),b0 38 (.fa 1 37),⟨none,none,(.at 38),.st 1 38 36⟩] [(4,6),(4,7)]
def K.cB5 : BC:=.ops [b0 39 (.ib .add 24 (i0 1)),b0 24 (.mv 39)]
def K.cG7 : BC:=.seq (.block 1 (.seq (.ops [b0 26 (.ia 4 22 24),⟨some 27,none,(.at 26),.ldn 4 26⟩,⟨some 9,none,.here,.al 87 [(.lit (.slice none 0 0)),(.lit (.int .i64 0)),(.lit (.int .i64 0)),(.lit (.bool false))]⟩,⟨none,none,(.at 9),.st 4 9 27⟩]) K.cB4)) K.cB5
def K.cH5 : BC:=.seq (.cond 25 .skip (.exit 0)) K.cG7
def K.bG3 : BC:=.seq (.ops [b0 25 (.ib .lss 24 23)]) K.cH5
def K.cC1 : BC:=.draw [b0 46 (.mv 7),b0 47 (.mv 7),b0 48 (.nc 47),b0 49 (.fa 2 48),⟨some 50,none,(.at 49),.ld1 49⟩,b0 51 (.mv 11),b0 52 (.cl 22 [51]),⟨some 53,none,(.app 50 52),.ap 9 1 16 50 52⟩,b0 54 (.nc 46),b0 55 (.fa 2 54),⟨none,none,(.at 55),.st 1 55 53⟩] [(4,6)]
def K.cD0 : BC:=.ops [b0 56 (.ib .add 42 (i0 1)),b0 42 (.mv 56)]
def K.cH9 : BC:=.seq (.block 3 (.seq (.ops [b0 44 (.ia 1 40 42),⟨some 45,none,(.at 44),.ld1 44⟩,b0 11 (.mv 45)]) K.cC1)) K.cD0
def K.cI5 : BC:=.seq (.cond 43 .skip (.exit 2)) K.cH9
def K.bC9 : BC:=.seq (.ops [b0 43 (.ib .lss 42 41)]) K.cI5
def K.cn9 : BC:=.ops [b0 64 (.mv 7),b0 65 (.nc 64),b0 66 (.fa 3 65),⟨some 67,none,(.at 66),.ld1 66⟩,b0 68 (.mv 13),b0 69 (.cl 24 [67,68])]
def K.cw4 : BC:=.ops [b0 70 (.ib .add 60 (i0 1)),b0 60 (.mv 70)]
def K.cz2 : BC:=.seq (.block 5 (.seq (.ops [b0 62 (.ia 1 58 60),⟨some 63,none,(.at 62),.ld1 62⟩,b0 13 (.mv 63)]) K.cn9)) K.cw4
def K.cn4 : BC:=.seq (.cond 61 .skip (.exit 4)) K.cz2
def K.bq8 : BC:=.seq (.ops [b0 61 (.ib .lss 60 59)]) K.cn4
def K.cu8 : BC:=.seq (.ops [b0 82 (.mv 7),b0 6 (.mv 82)]) .ret
def K.ct7 : BC:=.seq (.ops [b0 80 (.mv 7),b0 81 (.cl 25 [80])]) K.cu8
def K.bU5 : BC:=.seq (.ops [b0 71 (.mv 7),b0 72 (.mv 0),b0 73 (.nc 72),b0 74 (.fa 3 73),⟨some 75,none,(.at 74),.ld1 74⟩,⟨some 76,none,.here,.gen (.makeSlice 38 (.tmp 75) (.tmp 75)) 38⟩,b0 77 (.nc 71),b0 78 (.fa 6 77),b0 79 (.fa 5 78),⟨none,none,(.at 79),.st 1 79 76⟩]) K.ct7
def K.cy3 : BC:=.block 4 (.loop K.bq8)
def K.bT9 : BC:=.seq (.seq (.ops [b0 57 (.mv 0),b0 58 (.cl 23 [57]),⟨some 59,none,(.at 58),.ll 58⟩,b0 60 (.mv (i0 0))]) K.cy3) K.bU5
def K.cx6 : BC:=.block 2 (.loop K.bC9)
def K.bU1 : BC:=.seq (.seq (.ops [b0 40 (.mv 1),⟨some 41,none,(.at 40),.ll 40⟩,b0 42 (.mv (i0 0))]) K.cx6) K.bT9
def K.cq7 : BC:=.block 0 (.loop K.bG3)
def K.cu1 : BC:=.seq (.seq (.ops [b0 19 (.mv 0),b0 20 (.nc 19),b0 21 (.fa 2 20),⟨some 22,none,(.at 21),.ld1 21⟩,⟨some 23,none,(.at 22),.ll 22⟩,b0 24 (.mv (i0 0))]) K.cq7) K.bU1
def K.cq5 : BC:=.seq (.ops [b0 14 (.mv 0),b0 15 (.mv 2),b0 16 (.cl 20 [15]),b0 17 (.bd [(.lit (.pointer none)),(.lit (.slice none 0 0)),(.lit (.slice none 0 0)),(.lit (.pointer none)),(.lit (.pointer none)),(.lit (.slice none 0 0)),(.lit (.int .i64 0)),(.lit (.string (bs []))),(.lit (.string (bs []))),(.lit (.bool false)),(.lit (.int .i64 0)),(.lit (.slice none 0 0)),(.lit (.slice none 0 0)),(.lit (.bool false))] [(0,1,14),(3,1,16)]),⟨some 18,none,.here,.bx 80 17⟩,b0 7 (.mv 18)]) K.cu1
def K.ac9 : BFn:=⟨83,[.t 6],.seq (.ops [b0 6 (.mv (.c (.lit (.pointer none))))]) K.cq5⟩
def K.cv0 : BC:=.ops [b0 28 (.mv 3),b0 29 (.fa 0 5),⟨some 30,none,(.at 29),.ld1 29⟩,b0 31 (.mv 7),b0 32 (.cl 26 [28,30,31])]
def K.cr6 : BC:=.ops [b0 33 (.ib .add 24 (i0 1)),b0 24 (.mv 33)]
def K.cA6 : BC:=.seq (.block 3 (.seq (.ops [b0 26 (.ia 1 22 24),⟨some 27,none,(.at 26),.ld1 26⟩,b0 7 (.mv 27)]) K.cv0)) K.cr6
def K.cl9 : BC:=.seq (.cond 25 .skip (.exit 2)) K.cA6
def K.ct4 : BC:=.seq (.ops [b0 25 (.ib .lss 24 23)]) K.cl9
def K.co5 : BC:=.block 2 (.loop K.ct4)
def K.cn7 : BC:=.seq (.ops [b0 21 (.fa 1 5),⟨some 22,none,(.at 21),.ld1 21⟩,⟨some 23,none,(.at 22),.ll 22⟩,b0 24 (.mv (i0 0))]) K.co5
def K.cw9 : BC:=.seq (.ops [b0 17 (.mv 3),b0 18 (.fa 0 5),⟨some 19,none,(.at 18),.ld1 18⟩,b0 20 (.cl 24 [17,19])]) K.cn7
def K.cy1 : BC:=.ops [b0 34 (.ib .add 13 (i0 1)),b0 13 (.mv 34)]
def K.ct5 : BC:=.seq (.block 1 (.seq (.ops [b0 15 (.ia 2 11 13),⟨some 16,none,(.at 15),.ldn 2 15⟩,⟨some 5,none,.here,.al 98 [(.lit (.string (bs []))),(.lit (.slice none 0 0))]⟩,⟨none,none,(.at 5),.st 2 5 16⟩]) K.cw9)) K.cy1
def K.ci4 : BC:=.seq (.cond 14 .skip (.exit 0)) K.ct5
def K.aZ6 : BC:=.seq (.ops [b0 14 (.ib .lss 13 12)]) K.ci4
def K.bJ6 : BC:=.seq (.ops [b0 35 (.mv 3),b0 2 (.mv 35)]) .ret
def K.cg5 : BC:=.block 0 (.loop K.aZ6)
def K.cl2 : BC:=.seq (.seq (.ops [b0 11 (.mv 0),⟨some 12,none,(.at 11),.ll 11⟩,b0 13 (.mv (i0 0))]) K.cg5) K.bJ6
def K.cf1 : BC:=.seq (.ops [⟨some 8,none,.here,.gen (.makeMap 94 none) 94⟩,b0 9 (.bd [(.lit (.map none))] [(0,1,8)]),⟨some 10,none,.here,.bx 96 9⟩,b0 3 (.mv 10)]) K.cl2
def K.ag2 : BFn:=⟨36,[.t 2],.seq (.ops [b0 2 (.mv (.c (.lit (.pointer none))))]) K.cf1⟩
def K.cp7 : BC:=.ops [b0 22 (.mv 5),b0 23 (.ib .add 22 (i0 1)),b0 4 (.mv 23)]
def K.cv2 : BC:=.seq (.ops [b0 15 (.mv 3),b0 16 (.mv 0),b0 17 (.mv 4),b0 18 (.mv 5),b0 19 (.sls 16 (some 17) (some 18)),⟨some 20,none,.here,.bsl 9 1 [19]⟩,⟨some 21,none,(.app 15 20),.ap 9 1 16 15 20⟩,b0 3 (.mv 21)]) K.cp7
def K.cy5 : BC:=.cond 14 K.cv2 .skip
def K.cq2 : BC:=.seq (.ops [b0 11 (.mv 0),b0 12 (.mv 5),b0 13 (.xs 11 12),b0 14 (.ib .eql 13 (.c (.lit (.int .u8 10))))]) K.cy5
def K.cq6 : BC:=.ops [b0 24 (.ib .add 8 (i0 1)),b0 8 (.mv 24)]
def K.co0 : BC:=.seq (.block 1 (.seq (.ops [b0 10 (.mv 8),b0 5 (.mv 10)]) K.cq2)) K.cq6
def K.cu2 : BC:=.seq (.cond 9 .skip (.exit 0)) K.co0
def K.bq7 : BC:=.seq (.ops [b0 9 (.ib .lss 8 7)]) K.cu2
def K.bT0 : BC:=.seq (.ops [b0 25 (.mv 3),b0 26 (.mv 0),b0 27 (.mv 4),b0 28 (.sls 26 (some 27) none),⟨some 29,none,.here,.bsl 9 1 [28]⟩,⟨some 30,none,(.app 25 29),.ap 9 1 16 25 29⟩,b0 2 (.mv 30)]) .ret
def K.cx8 : BC:=.block 0 (.loop K.bq7)
def K.cj0 : BC:=.seq (.seq (.ops [b0 6 (.mv 0),⟨some 7,none,(.at 6),.ls 6⟩,b0 8 (.mv (i0 0))]) K.cx8) K.bT0
def K.ce6 : BC:=.seq (.ops [b0 4 (.mv (i0 0))]) K.cj0
def K.ce4 : BC:=.seq (.ops [b0 3 (.mv (.c (.lit (.slice none 0 0))))]) K.ce6
def K.ai1 : BFn:=⟨31,[.t 2],.seq (.ops [b0 2 (.mv (.c (.lit (.slice none 0 0))))]) K.ce4⟩
def K.cm9 : BC:=.ops [b0 21 (.mv 5),b0 22 (.mv 0),b0 23 (.mv 4),b0 24 (.ia 2 22 23),b0 25 (.fa 1 24),⟨some 26,none,(.at 25),.ld1 25⟩,b0 27 (.mv 6),b0 28 (.ia 1 26 27),⟨some 29,none,(.at 28),.ld1 28⟩,b0 30 (.cl 28 [29]),⟨some 31,none,(.app 21 30),.ap 9 1 16 21 30⟩,b0 5 (.mv 31)]
def K.cx5 : BC:=.ops [b0 32 (.ib .add 18 (i0 1)),b0 18 (.mv 32)]
def K.cy0 : BC:=.seq (.block 3 (.seq (.ops [b0 20 (.mv 18),b0 6 (.mv 20)]) K.cm9)) K.cx5
def K.cA3 : BC:=.seq (.cond 19 .skip (.exit 2)) K.cy0
def K.bk4 : BC:=.seq (.ops [b0 19 (.ib .lss 18 17)]) K.cA3
def K.bT1 : BC:=.ops [b0 41 (.ib .add 9 (i0 1)),b0 9 (.mv 41)]
def K.bU6 : BC:=.ops [b0 33 (.mv 3),b0 34 (.mv 0),b0 35 (.mv 4),b0 36 (.ia 2 34 35),b0 37 (.fa 0 36),⟨some 38,none,(.at 37),.ld1 37⟩,b0 39 (.mv 5),b0 40 (.cl 29 [33,38,39]),b0 3 (.mv 40)]
def K.cm3 : BC:=.block 2 (.loop K.bk4)
def K.cm6 : BC:=.seq (.seq (.ops [b0 12 (.mv 0),b0 13 (.mv 4),b0 14 (.ia 2 12 13),b0 15 (.fa 1 14),⟨some 16,none,(.at 15),.ld1 15⟩,⟨some 17,none,(.at 16),.ll 16⟩,b0 18 (.mv (i0 0))]) K.cm3) K.bU6
def K.cv8 : BC:=.seq (.ops [b0 5 (.mv (.c (.lit (.slice none 0 0))))]) K.cm6
def K.ck7 : BC:=.seq (.block 1 (.seq (.ops [b0 11 (.mv 9),b0 4 (.mv 11)]) K.cv8)) K.bT1
def K.ck3 : BC:=.seq (.cond 10 .skip (.exit 0)) K.ck7
def K.a90 : BC:=.seq (.ops [b0 10 (.ib .lss 9 8)]) K.ck3
def K.bO0 : BC:=.seq (.ops [b0 42 (.mv 3),b0 2 (.mv 42)]) .ret
def K.ch8 : BC:=.block 0 (.loop K.a90)
def K.ch0 : BC:=.seq (.seq (.ops [b0 7 (.mv 0),⟨some 8,none,(.at 7),.ll 7⟩,b0 9 (.mv (i0 0))]) K.ch8) K.bO0
def K.cd6 : BC:=.seq (.ops [b0 3 (.mv (.c (.lit (.slice none 0 0))))]) K.ch0
def K.af6 : BFn:=⟨43,[.t 2],.seq (.ops [b0 2 (.mv (.c (.lit (.slice none 0 0))))]) K.cd6⟩
def K.b68 : BC:=.seq (.ops [⟨some 12,none,(.at 1),.ldn 16 1⟩,⟨none,none,(.at 2),.st 16 2 12⟩]) .ret
def K.b78 : BC:=.seq (.ops [b0 10 (.fa 8 1),b0 11 (.fa 7 10),⟨none,none,(.at 11),.st 1 11 (.c (.lit (.bool true)))⟩]) K.b68
def K.b75 : BC:=.cond 9 K.b78 .skip
def K.b64 : BC:=.seq (.ops [⟨some 32,none,(.at 1),.ldn 16 1⟩,⟨none,none,(.at 2),.st 16 2 32⟩]) .ret
def K.b71 : BC:=.seq (.ops [b0 30 (.fa 8 1),b0 31 (.fa 0 30),⟨none,none,(.at 31),.st 1 31 (i0 0)⟩]) K.b64
def K.b57 : BC:=.seq (.ops [b0 28 (.fa 8 1),b0 29 (.fa 3 28),⟨none,none,(.at 29),.st 1 29 (.c (.lit (.bool false)))⟩]) K.b71
def K.b59 : BC:=.seq (.ops [b0 22 (.fa 8 1),b0 23 (.fa 4 22),⟨some 24,none,(.at 23),.ld1 23⟩,b0 25 (.ib .add 24 (i0 1)),b0 26 (.fa 8 1),b0 27 (.fa 4 26),⟨none,none,(.at 27),.st 1 27 25⟩]) K.b57
def K.b56 : BC:=.seq (.ops [b0 13 (.fa 5 1),⟨some 14,none,(.at 13),.ld1 13⟩,b0 15 (.fa 8 1),b0 16 (.fa 4 15),⟨some 17,none,(.at 16),.ld1 16⟩,b0 18 (.ia 1 14 17),⟨some 19,none,(.at 18),.ld1 18⟩,b0 20 (.fa 8 1),b0 21 (.fa 1 20),⟨none,none,(.at 21),.st 1 21 19⟩]) K.b59
def K.b58 : BC:=.seq (.seq (.ops [b0 3 (.fa 8 1),b0 4 (.fa 4 3),⟨some 5,none,(.at 4),.ld1 4⟩,b0 6 (.fa 5 1),⟨some 7,none,(.at 6),.ld1 6⟩,⟨some 8,none,(.at 7),.ll 7⟩,b0 9 (.ib .eql 5 8)]) K.b75) K.b56
def K.ak3 : BFn:=⟨33,[.cn 2 16],.seq (.ops [⟨some 1,none,.here,.bx 43 0⟩,⟨some 2,none,.here,.al 43 [(.lit (.bool false)),(.lit (.slice none 0 0)),(.lit (.slice none 0 0)),(.lit (.slice none 0 0)),(.lit (.int .i64 0)),(.lit (.slice none 0 0)),(.lit (.slice none 0 0)),(.lit (.string (bs []))),(.lit (.int .i64 0)),(.lit (.string (bs []))),(.lit (.string (bs []))),(.lit (.bool false)),(.lit (.int .i64 0)),(.lit (.slice none 0 0)),(.lit (.slice none 0 0)),(.lit (.bool false))]⟩]) K.b58⟩
def K.cn5 : BC:=.draw [b0 20 (.fa 5 7),⟨some 21,none,(.at 20),.ld1 20⟩,b0 22 (.mv 1),b0 23 (.mv 8),b0 24 (.ia 1 22 23),⟨some 25,none,(.at 24),.ld1 24⟩,b0 26 (.cl 28 [25]),⟨some 27,none,(.app 21 26),.ap 9 1 16 21 26⟩,b0 28 (.fa 5 7),⟨none,none,(.at 28),.st 1 28 27⟩] [(1,6)]
def K.cz1 : BC:=.ops [b0 29 (.ib .add 17 (i0 1)),b0 17 (.mv 29)]
def K.cx2 : BC:=.seq (.block 1 (.seq (.ops [b0 19 (.mv 17),b0 8 (.mv 19)]) K.cn5)) K.cz1
def K.ct2 : BC:=.seq (.cond 18 .skip (.exit 0)) K.cx2
def K.br4 : BC:=.seq (.ops [b0 18 (.ib .lss 17 16)]) K.ct2
def K.bS7 : BC:=.ops [b0 62 (.ib .add 33 (i0 1)),b0 33 (.mv 62)]
def K.cA2 : BC:=.ops [b0 55 (.fa 6 7),⟨some 56,none,(.at 55),.ld1 55⟩,b0 57 (.fa 28 10),b0 58 (.fa 14 57),⟨some 59,none,(.at 58),.ld1 58⟩,b0 60 (.cl 29 [56,59,(.c (.lit (.slice none 0 0)))]),b0 61 (.fa 6 7),⟨none,none,(.at 61),.st 1 61 60⟩]
def K.cn2 : BC:=.cond 54 K.cA2 .skip
def K.bV3 : BC:=.seq (.ops [b0 51 (.fa 28 10),b0 52 (.fa 14 51),⟨some 53,none,(.at 52),.ld1 52⟩,b0 54 (.sb .neq 53 (.c (.lit (.string (bs [])))))]) K.cn2
def K.cp1 : BC:=.ops [b0 45 (.fa 6 7),⟨some 46,none,(.at 45),.ld1 45⟩,b0 47 (.fa 27 10),⟨some 48,none,(.at 47),.ld1 47⟩,b0 49 (.cl 29 [46,48,(.c (.lit (.slice none 0 0)))]),b0 50 (.fa 6 7),⟨none,none,(.at 50),.st 1 50 49⟩]
def K.cf5 : BC:=.cond 44 K.cp1 .skip
def K.cf0 : BC:=.seq (.seq (.ops [b0 42 (.fa 26 10),⟨some 43,none,(.at 42),.ld1 42⟩,b0 44 (.ib .eql 43 (.c (.lit (.int .u8 119))))]) K.cf5) K.bV3
def K.ck0 : BC:=.seq (.ops [b0 36 (.fa 1 3),⟨some 37,none,(.at 36),.ld1 36⟩,b0 38 (.mv 9),b0 39 (.ia 50 37 38),b0 40 (.fa 0 39),⟨some 41,none,(.at 40),.ldn 44 40⟩,⟨some 10,none,.here,.al 114 [(.lit (.int .i64 0)),(.lit (.int .i64 0)),(.lit (.int .i64 0)),(.lit (.string (bs []))),(.lit (.int .i64 0)),(.lit (.int .u64 0)),(.lit (.int .u64 0)),(.lit (.int .u64 0)),(.lit (.int .u64 0)),(.lit (.slice none 0 0)),(.lit (.int .i64 0)),(.lit (.int .i64 0)),(.lit (.int .i64 0)),(.lit (.int .i64 0)),(.lit (.int .i64 0)),(.lit (.string (bs []))),(.lit (.int .i64 0)),(.lit (.int .u64 0)),(.lit (.int .u64 0)),(.lit (.int .u64 0)),(.lit (.int .u64 0)),(.lit (.slice none 0 0)),(.lit (.int .i64 0)),(.lit (.int .i64 0)),(.lit (.int .i64 0)),(.lit (.bool false)),(.lit (.int .u8 0)),(.lit (.string (bs []))),(.lit (.string (bs []))),(.lit (.int .i64 0)),(.lit (.int .u64 0)),(.lit (.int .u64 0)),(.lit (.int .u64 0)),(.lit (.int .u64 0)),(.lit (.slice none 0 0)),(.lit (.int .i64 0)),(.lit (.int .i64 0)),(.lit (.int .i64 0)),(.lit (.slice none 0 0)),(.lit (.int .i64 0)),(.lit (.bool false)),(.lit (.bool false)),(.lit (.string (bs []))),(.lit (.string (bs [])))]⟩,⟨none,none,(.at 10),.st 44 10 41⟩]) K.cf0
def K.ch2 : BC:=.seq (.block 3 (.seq (.ops [b0 35 (.mv 33),b0 9 (.mv 35)]) K.ck0)) K.bS7
def K.ce5 : BC:=.seq (.cond 34 .skip (.exit 2)) K.ch2
def K.a13 : BC:=.seq (.ops [b0 34 (.ib .lss 33 32)]) K.ce5
def K.ci1 : BC:=.ops [b0 74 (.ib .add 65 (i0 1)),b0 65 (.mv 74)]
def K.ch7 : BC:=.seq (.block 5 (.ops [b0 67 (.fa 8 7),b0 68 (.fa 5 67),⟨some 69,none,(.at 68),.ld1 68⟩,⟨some 70,none,.here,.bsl 3 1 [(i0 0)]⟩,⟨some 71,none,(.app 69 70),.ap 3 1 8 69 70⟩,b0 72 (.fa 8 7),b0 73 (.fa 5 72),⟨none,none,(.at 73),.st 1 73 71⟩])) K.ci1
def K.ci6 : BC:=.seq (.cond 66 .skip (.exit 4)) K.ch7
def K.a18 : BC:=.seq (.ops [b0 66 (.ib .lss 65 64)]) K.ci6
def K.bM3 : BC:=.seq (.ops [⟨some 75,none,(.at 7),.ldn 16 7⟩,b0 76 (.cl 30 [75]),⟨none,none,(.at 6),.st 16 6 76⟩]) .ret
def K.cf2 : BC:=.block 4 (.loop K.a18)
def K.bH2 : BC:=.seq (.seq (.ops [b0 63 (.fa 4 3),⟨some 64,none,(.at 63),.ld1 63⟩,b0 65 (.mv (i0 0))]) K.cf2) K.bM3
def K.cc5 : BC:=.block 2 (.loop K.a13)
def K.bL7 : BC:=.seq (.seq (.ops [b0 30 (.fa 1 3),⟨some 31,none,(.at 30),.ld1 30⟩,⟨some 32,none,(.at 31),.ll 31⟩,b0 33 (.mv (i0 0))]) K.cc5) K.bH2
def K.cj4 : BC:=.block 0 (.loop K.br4)
def K.cd2 : BC:=.seq (.seq (.ops [b0 15 (.mv 1),⟨some 16,none,(.at 15),.ll 15⟩,b0 17 (.mv (i0 0))]) K.cj4) K.bL7
def K.cc4 : BC:=.seq (.draw [⟨some 11,none,(.at 3),.ldn 5 3⟩,b0 12 (.mv 2),b0 13 (.cl 27 [12]),b0 14 (.bd [(.lit (.bool false)),(.lit (.slice none 0 0)),(.lit (.slice none 0 0)),(.lit (.slice none 0 0)),(.lit (.int .i64 0)),(.lit (.slice none 0 0)),(.lit (.slice none 0 0)),(.lit (.string (bs []))),(.lit (.int .i64 0)),(.lit (.string (bs []))),(.lit (.string (bs []))),(.lit (.bool false)),(.lit (.int .i64 0)),(.lit (.slice none 0 0)),(.lit (.slice none 0 0)),(.lit (.bool false))] [(0,5,11),(6,1,13)]),⟨some 7,none,.here,.al 43 [(.lit (.bool false)),(.lit (.slice none 0 0)),(.lit (.slice none 0 0)),(.lit (.slice none 0 0)),(.lit (.int .i64 0)),(.lit (.slice none 0 0)),(.lit (.slice none 0 0)),(.lit (.string (bs []))),(.lit (.int .i64 0)),(.lit (.string (bs []))),(.lit (.string (bs []))),(.lit (.bool false)),(.lit (.int .i64 0)),(.lit (.slice none 0 0)),(.lit (.slice none 0 0)),(.lit (.bool false))]⟩,⟨none,none,(.at 7),.st 16 7 14⟩] [(0,2),(0,4),(2,4)]) K.cd2
def K.ad9 : BFn:=⟨77,[.cn 6 16],.seq (.ops [⟨some 3,none,.here,.bx 30 0⟩,⟨some 6,none,.here,.al 43 [(.lit (.bool false)),(.lit (.slice none 0 0)),(.lit (.slice none 0 0)),(.lit (.slice none 0 0)),(.lit (.int .i64 0)),(.lit (.slice none 0 0)),(.lit (.slice none 0 0)),(.lit (.string (bs []))),(.lit (.int .i64 0)),(.lit (.string (bs []))),(.lit (.string (bs []))),(.lit (.bool false)),(.lit (.int .i64 0)),(.lit (.slice none 0 0)),(.lit (.slice none 0 0)),(.lit (.bool false))]⟩]) K.cc4⟩
def K.bh6 : BC:=.seq (.ops [⟨some 16,none,(.at 3),.ldn 8 3⟩,⟨none,none,(.at 2),.st 8 2 16⟩]) .ret
def K.br6 : BC:=.seq (.draw [b0 8 (.fa 5 3),⟨some 9,none,(.at 8),.ld1 8⟩,b0 10 (.cl 31 [9]),b0 11 (.fa 6 3),⟨some 12,none,(.at 11),.ld1 11⟩,b0 13 (.cl 32 [12]),b0 14 (.fa 5 3),⟨none,none,(.at 14),.st 1 14 10⟩,b0 15 (.fa 6 3),⟨none,none,(.at 15),.st 1 15 13⟩] [(2,4)]) K.bh6
def K.bs1 : BC:=.seq (.ops [b0 4 (.mv 0),b0 5 (.nc 4),b0 6 (.fa 6 5),⟨some 7,none,(.at 6),.ldn 8 6⟩,⟨some 3,none,.here,.al 47 [(.lit (.int .i64 0)),(.lit (.string (bs []))),(.lit (.string (bs []))),(.lit (.bool false)),(.lit (.int .i64 0)),(.lit (.slice none 0 0)),(.lit (.slice none 0 0)),(.lit (.bool false))]⟩,⟨none,none,(.at 3),.st 8 3 7⟩]) K.br6
def K.ab6 : BFn:=⟨17,[.cn 2 8],.seq (.ops [⟨some 2,none,.here,.al 47 [(.lit (.int .i64 0)),(.lit (.string (bs []))),(.lit (.string (bs []))),(.lit (.bool false)),(.lit (.int .i64 0)),(.lit (.slice none 0 0)),(.lit (.slice none 0 0)),(.lit (.bool false))]⟩]) K.bs1⟩
def K.bu6 : BC:=.ops [b0 9 (.mv 0),b0 10 (.nc 9),b0 11 (.fa 4 10),b0 12 (.cl 101 [11,(.c (.lit (.int .u8 10)))])]
def K.ad5 : BFn:=⟨13,[],.seq (.ops [b0 4 (.mv 0),b0 5 (.nc 4),b0 6 (.fa 4 5),b0 7 (.mv 1),b0 8 (.cl 65 [6,7])]) K.bu6⟩
def K.br5 : BC:=.seq (.draw [b0 19 (.mv 0),b0 20 (.nc 19),b0 21 (.fa 4 20),b0 22 (.fa 1 3),⟨some 23,none,(.at 22),.ld1 22⟩,b0 24 (.cl 65 [21,23])] []) (.exit 1)
def K.bp0 : BC:=.cond 18 K.br5 .skip
def K.br3 : BC:=.ops [b0 37 (.mv 0),b0 38 (.mv 5),b0 39 (.cl 60 [37,38])]
def K.bm0 : BC:=.ops [b0 40 (.ib .add 33 (i0 1)),b0 33 (.mv 40)]
def K.bs5 : BC:=.seq (.block 3 (.seq (.ops [b0 35 (.ia 1 31 33),⟨some 36,none,(.at 35),.ld1 35⟩,b0 5 (.mv 36)]) K.br3)) K.bm0
def K.bl0 : BC:=.seq (.cond 34 .skip (.exit 2)) K.bs5
def K.bl5 : BC:=.seq (.ops [b0 34 (.ib .lss 33 32)]) K.bl0
def K.bm6 : BC:=.block 2 (.loop K.bl5)
def K.bq9 : BC:=.seq (.draw [b0 25 (.mv 0),b0 26 (.nc 25),b0 27 (.fa 3 26),⟨some 28,none,(.at 27),.ld1 27⟩,b0 29 (.fa 1 3),⟨some 30,none,(.at 29),.ld1 29⟩,b0 31 (.cl 102 [28,30]),⟨some 32,none,(.at 31),.ll 31⟩,b0 33 (.mv (i0 0))] []) K.bm6
def K.bi9 : BC:=.seq (.seq (.ops [b0 16 (.fa 0 3),⟨some 17,none,(.at 16),.ld1 16⟩,b0 18 (.nt 17)]) K.bp0) K.bq9
def K.bf8 : BC:=.ops [b0 41 (.ib .add 12 (i0 1)),b0 12 (.mv 41)]
def K.bd4 : BC:=.seq (.block 1 (.seq (.ops [b0 14 (.ia 2 10 12),⟨some 15,none,(.at 14),.ldn 2 14⟩,⟨some 3,none,.here,.al 122 [(.lit (.bool false)),(.lit (.string (bs [])))]⟩,⟨none,none,(.at 3),.st 2 3 15⟩]) K.bi9)) K.bf8
def K.ba3 : BC:=.seq (.cond 13 .skip (.exit 0)) K.bd4
def K.aw0 : BC:=.seq (.ops [b0 13 (.ib .lss 12 11)]) K.ba3
def K.aI7 : BC:=.ops [b0 42 (.mv 0),b0 43 (.nc 42),b0 44 (.fa 6 43),b0 45 (.fa 6 44),⟨none,none,(.at 45),.st 1 45 (.c (.lit (.slice none 0 0)))⟩]
def K.bb8 : BC:=.block 0 (.loop K.aw0)
def K.aa5 : BFn:=⟨46,[],.seq (.seq (.ops [b0 6 (.mv 0),b0 7 (.nc 6),b0 8 (.fa 6 7),b0 9 (.fa 6 8),⟨some 10,none,(.at 9),.ld1 9⟩,⟨some 11,none,(.at 10),.ll 10⟩,b0 12 (.mv (i0 0))]) K.bb8) K.aI7⟩
def K.bC8 : BC:=.ops [b0 10 (.mv 0),b0 11 (.mv 0),b0 12 (.nc 11),b0 13 (.fa 6 12),b0 14 (.fa 1 13),⟨some 15,none,(.at 14),.ld1 14⟩,b0 16 (.cl 60 [10,15])]
def K.bF5 : BC:=.cond 9 K.bC8 .skip
def K.bA2 : BC:=.ops [b0 17 (.mv 0),b0 18 (.cl 61 [17])]
def K.ad3 : BFn:=⟨19,[],.seq (.seq (.ops [b0 2 (.mv 0),b0 3 (.nc 2),b0 4 (.fa 0 3),⟨some 5,none,(.at 4),.ld1 4⟩,b0 6 (.nc 5),b0 7 (.fa 0 6),⟨some 8,none,(.at 7),.ld1 7⟩,b0 9 (.nt 8)]) K.bF5) K.bA2⟩
def K.bl2 : BC:=.seq (.draw [b0 13 (.mv 0),⟨some 14,none,(.at 3),.ldn 26 3⟩,b0 15 (.cl 62 [13,14]),b0 16 (.fa 8 5),⟨some 17,none,(.at 16),.ld1 16⟩,b0 18 (.bb true 15 17),b0 4 (.mv 18)] [(2,4)]) .ret
def K.bn1 : BC:=.seq (.draw [b0 24 (.mv 0),b0 25 (.fa 0 5),⟨some 26,none,(.at 25),.ldn 4 25⟩,b0 27 (.fa 20 3),⟨some 28,none,(.at 27),.ld1 27⟩,b0 29 (.cl 63 [24,26,28]),b0 30 (.fa 8 5),⟨some 31,none,(.at 30),.ld1 30⟩,b0 32 (.bb true 29 31),b0 4 (.mv 32)] [(5,7)]) .ret
def K.bn2 : BC:=.cond 19 K.bn1 .skip
def K.br7 : BC:=.seq (.ops [b0 20 (.fa 0 5),b0 21 (.fa 0 20),⟨some 22,none,(.at 21),.ld1 21⟩,b0 23 (.ib .neq 22 (i0 0)),b0 19 (.mv 23)]) K.bn2
def K.bj2 : BC:=.cond 9 K.bl2 K.br7
def K.bj5 : BC:=.seq (.ops [b0 33 (.fa 8 5),⟨some 34,none,(.at 33),.ld1 33⟩,b0 35 (.nt 34),b0 4 (.mv 35)]) .ret
def K.bp8 : BC:=.seq (.block 0 (.seq (.ops [b0 10 (.fa 23 3),⟨some 11,none,(.at 10),.ld1 10⟩,b0 12 (.ib .geq 11 (i0 0)),b0 9 (.mv 12)]) K.bj2)) K.bj5
def K.bo4 : BC:=.seq (.ops [b0 6 (.fa 0 3),b0 7 (.fa 1 6),⟨some 8,none,(.at 7),.ldn 9 7⟩,⟨some 5,none,.here,.al 129 [(.lit (.int .i64 0)),(.lit (.int .i64 0)),(.lit (.string (bs []))),(.lit .nilIface),(.lit (.int .i64 0)),(.lit (.int .i64 0)),(.lit (.string (bs []))),(.lit .nilIface),(.lit (.bool false))]⟩,⟨none,none,(.at 5),.st 9 5 8⟩]) K.bp8
def K.ac6 : BFn:=⟨36,[.t 4],.seq (.ops [⟨some 3,none,.here,.bx 136 1⟩,b0 4 (.mv (.c (.lit (.bool false))))]) K.bo4⟩
def K.aO5 : BC:=.seq (.ops [b0 4 (.mv (.c (.lit (.bool true))))]) .ret
def K.bj3 : BC:=.ops [b0 163 (.mv 5),b0 164 (.fa 25 3),⟨some 165,none,(.at 164),.ld1 164⟩,b0 166 (.nc 163),b0 167 (.fa 0 166),⟨none,none,(.at 167),.st 1 167 165⟩]
def K.bj0 : BC:=.cond 162 K.bj3 .skip
def K.bh9 : BC:=.ops [b0 168 (.mv 5),b0 169 (.nc 168),b0 170 (.fa 3 169),⟨none,none,(.at 170),.st 1 170 (.c (.lit (.bool false)))⟩]
def K.bq0 : BC:=.seq (.seq (.draw [b0 154 (.mv 5),b0 155 (.nc 154),b0 156 (.fa 3 155),⟨some 157,none,(.at 156),.ld1 156⟩,b0 158 (.fa 0 3),b0 159 (.fa 10 158),⟨some 160,none,(.at 159),.ld1 159⟩,b0 161 (.ib .eql 160 (.c (.lit (.int .u8 116)))),b0 162 (.bb false 157 161)] []) K.bj0) K.bh9
def K.bm7 : BC:=.seq (.ops [b0 147 (.mv 5),b0 148 (.nc 147),b0 149 (.fa 0 148),⟨some 150,none,(.at 149),.ld1 149⟩,b0 151 (.ib .add 150 (i0 1)),b0 152 (.nc 147),b0 153 (.fa 0 152),⟨none,none,(.at 153),.st 1 153 151⟩]) K.bq0
def K.bq1 : BC:=.seq (.ops [b0 4 (.mv (.c (.lit (.bool false))))]) .ret
def K.aO3 : BC:=.cond 144 K.bm7 K.bq1
def K.bm9 : BC:=.ops [b0 21 (.mv 0),b0 22 (.cl 64 [21])]
def K.bo0 : BC:=.seq (.ops [b0 36 (.mv 0),b0 37 (.cl 64 [36])]) (.exit 0)
def K.be7 : BC:=.cond 35 K.bo0 .skip
def K.bf4 : BC:=.ops [b0 45 (.mv 0),b0 46 (.cl 61 [45])]
def K.bc7 : BC:=.seq (.ops [b0 38 (.mv 5),b0 39 (.mv 5),b0 40 (.mv 7),b0 41 (.nc 38),b0 42 (.fa 1 41),⟨none,none,(.at 42),.st 1 42 40⟩,b0 43 (.nc 39),b0 44 (.fa 0 43),⟨none,none,(.at 44),.st 1 44 (i0 0)⟩]) K.bf4
def K.bc5 : BC:=.seq (.seq (.ops [b0 34 (.mv 8),b0 35 (.nt 34)]) K.be7) K.bc7
def K.bc6 : BC:=.seq (.ops [b0 26 (.mv 5),b0 27 (.nc 26),b0 28 (.fa 1 27),⟨some 29,none,(.at 28),.ld1 28⟩,b0 30 (.cl 41 [29,(.c (.lit (.string (bs [10]))))]),b0 25 (.mv 30),b0 31 (.ex 25 0),b0 32 (.ex 25 1),b0 33 (.ex 25 2),b0 6 (.mv 31),b0 7 (.mv 32),b0 8 (.mv 33)]) K.bc5
def K.ba5 : BC:=.draw [b0 69 (.mv 0),b0 70 (.nc 69),b0 71 (.fa 4 70),b0 72 (.fa 0 3),b0 73 (.fa 11 72),⟨some 74,none,(.at 73),.ld1 73⟩,b0 75 (.cl 65 [71,74])] []
def K.be9 : BC:=.cond 68 K.ba5 .skip
def K.bf3 : BC:=.ops [b0 76 (.mv 0),b0 77 (.cl 64 [76])]
def K.bg0 : BC:=.seq (.seq (.draw [b0 49 (.fa 23 3),⟨some 50,none,(.at 49),.ld1 49⟩,b0 51 (.ib .lss 50 (i0 0)),b0 52 (.mv 51),⟨some 53,(some (52,false)),.none,.fa 0 3⟩,⟨some 54,(some (52,false)),.none,.fa 1 53⟩,⟨some 55,(some (52,false)),.none,.fa 8 54⟩,⟨some 56,(some (52,false)),(.at 55),.ld1 55⟩,b0 57 (.pk 52 (.c (.lit (.bool true))) 56),b0 58 (.mv 57),⟨some 59,(some (58,false)),.none,.mv 5⟩,⟨some 60,(some (58,false)),.none,.nc 59⟩,⟨some 61,(some (58,false)),.none,.fa 5 60⟩,⟨some 62,(some (58,false)),(.at 61),.ld1 61⟩,⟨some 63,(some (58,false)),.none,.fa 23 3⟩,⟨some 64,(some (58,false)),(.at 63),.ld1 63⟩,⟨some 65,(some (58,false)),.none,.ia 1 62 64⟩,⟨some 66,(some (58,false)),(.at 65),.ld1 65⟩,⟨some 67,(some (58,false)),.none,.ib .eql 66 (i0 0)⟩,b0 68 (.pk 58 (.c (.lit (.bool true))) 67)] []) K.be9) K.bf3
def K.bf1 : BC:=.ops [b0 82 (.mv 5),b0 83 (.nc 82),b0 84 (.fa 7 83),⟨none,none,(.at 84),.st 1 84 (.c (.lit (.bool true)))⟩]
def K.bd0 : BC:=.seq (.ops [b0 80 (.mv 0),b0 81 (.cl 33 [80])]) K.bf1
def K.be3 : BC:=.ops [b0 87 (.mv 5),b0 88 (.nc 87),b0 89 (.fa 7 88),⟨none,none,(.at 89),.st 1 89 (.c (.lit (.bool true)))⟩]
def K.bf6 : BC:=.ops [b0 104 (.mv 5),b0 105 (.nc 104),b0 106 (.fa 0 105),⟨some 107,none,(.at 106),.ld1 106⟩,b0 108 (.ib .add 107 (i0 1)),b0 109 (.nc 104),b0 110 (.fa 0 109),⟨none,none,(.at 110),.st 1 110 108⟩]
def K.bf2 : BC:=.seq (.ops [b0 100 (.mv 5),b0 101 (.mv 9),b0 102 (.nc 100),b0 103 (.fa 1 102),⟨none,none,(.at 103),.st 1 103 101⟩]) K.bf6
def K.be8 : BC:=.cond 99 K.bf2 .skip
def K.bb7 : BC:=.seq (.ops [b0 99 (.mv 10)]) K.be8
def K.bg1 : BC:=.seq (.ops [b0 95 (.mv 0),b0 96 (.cl 58 [95]),b0 94 (.mv 96),b0 97 (.ex 94 0),b0 98 (.ex 94 1),b0 9 (.mv 97),b0 10 (.mv 98)]) K.bb7
def K.be1 : BC:=.seq (.ops [b0 92 (.mv 0),b0 93 (.cl 33 [92])]) K.bg1
def K.bf7 : BC:=.ops [b0 130 (.mv 5),b0 131 (.nc 130),b0 132 (.fa 0 131),⟨some 133,none,(.at 132),.ld1 132⟩,b0 134 (.ib .add 133 (i0 1)),b0 135 (.nc 130),b0 136 (.fa 0 135),⟨none,none,(.at 136),.st 1 136 134⟩]
def K.bc8 : BC:=.seq (.ops [b0 121 (.mv 5),b0 122 (.nc 121),b0 123 (.fa 1 122),⟨some 124,none,(.at 123),.ld1 123⟩,b0 125 (.mv 11),b0 126 (.sb .add (.c (.lit (.string (bs [10])))) 125),b0 127 (.sb .add 124 126),b0 128 (.nc 121),b0 129 (.fa 1 128),⟨none,none,(.at 129),.st 1 129 127⟩]) K.bf7
def K.bg2 : BC:=.cond 120 K.bc8 .skip
def K.bd7 : BC:=.seq (.ops [b0 120 (.mv 12)]) K.bg2
def K.ba9 : BC:=.seq (.ops [b0 116 (.mv 0),b0 117 (.cl 58 [116]),b0 115 (.mv 117),b0 118 (.ex 115 0),b0 119 (.ex 115 1),b0 11 (.mv 118),b0 12 (.mv 119)]) K.bd7
def K.ba4 : BC:=.seq (.ops [b0 113 (.mv 0),b0 114 (.cl 61 [113])]) K.ba9
def K.be6 : BC:=.ops [b0 139 (.mv 5),b0 140 (.fa 25 3),⟨some 141,none,(.at 140),.ld1 140⟩,b0 142 (.nc 139),b0 143 (.fa 0 142),⟨none,none,(.at 143),.st 1 143 141⟩]
def K.bd9 : BC:=.ops [b0 146 (.ib .eql 18 (.c (.lit (.int .u8 84)))),b0 144 (.mv 146)]
def K.bd2 : BC:=.cond 144 .skip K.bd9
def K.bc9 : BC:=.seq (.seq (.ops [b0 145 (.ib .eql 18 (.c (.lit (.int .u8 116)))),b0 144 (.mv 145)]) K.bd2) K.aO3
def K.bb9 : BC:=.cond 137 K.be6 K.bc9
def K.bf9 : BC:=.seq (.ops [b0 138 (.ib .eql 18 (.c (.lit (.int .u8 98)))),b0 137 (.mv 138)]) K.bb9
def K.ba6 : BC:=.cond 111 K.ba4 K.bf9
def K.be0 : BC:=.seq (.ops [b0 112 (.ib .eql 18 (.c (.lit (.int .u8 78)))),b0 111 (.mv 112)]) K.ba6
def K.bb6 : BC:=.cond 90 K.be1 K.be0
def K.bd8 : BC:=.seq (.ops [b0 91 (.ib .eql 18 (.c (.lit (.int .u8 110)))),b0 90 (.mv 91)]) K.bb6
def K.bd5 : BC:=.cond 85 K.be3 K.bd8
def K.bf5 : BC:=.seq (.ops [b0 86 (.ib .eql 18 (.c (.lit (.int .u8 81)))),b0 85 (.mv 86)]) K.bd5
def K.bc4 : BC:=.cond 78 K.bd0 K.bf5
def K.bb5 : BC:=.seq (.ops [b0 79 (.ib .eql 18 (.c (.lit (.int .u8 113)))),b0 78 (.mv 79)]) K.bc4
def K.bd3 : BC:=.cond 47 K.bg0 K.bb5
def K.bd1 : BC:=.seq (.ops [b0 48 (.ib .eql 18 (.c (.lit (.int .u8 99)))),b0 47 (.mv 48)]) K.bd3
def K.bf0 : BC:=.cond 23 K.bc6 K.bd1
def K.bb4 : BC:=.seq (.ops [b0 24 (.ib .eql 18 (.c (.lit (.int .u8 68)))),b0 23 (.mv 24)]) K.bf0
def K.bd6 : BC:=.cond 19 K.bm9 K.bb4
def K.bg3 : BC:=.block 0 (.seq (.ops [b0 20 (.ib .eql 18 (.c (.lit (.int .u8 100)))),b0 19 (.mv 20)]) K.bd6)
def K.be5 : BC:=.seq (.seq (.ops [b0 16 (.fa 0 3),b0 17 (.fa 10 16),⟨some 18,none,(.at 17),.ld1 17⟩]) K.bg3) K.aO5
def K.bg4 : BC:=.seq (.ops [b0 13 (.mv 0),b0 14 (.nc 13),b0 15 (.fa 6 14),b0 5 (.mv 15)]) K.be5
def K.ab5 : BFn:=⟨171,[.t 4],.seq (.ops [⟨some 3,none,.here,.bx 136 1⟩,b0 4 (.mv (.c (.lit (.bool false))))]) K.bg4⟩
def K.bx3 : BC:=.ops [b0 13 (.mv 4),b0 14 (.mv 4),b0 15 (.nc 14),b0 16 (.fa 2 15),⟨some 17,none,(.at 16),.ld1 16⟩,b0 18 (.nc 13),b0 19 (.fa 1 18),⟨none,none,(.at 19),.st 1 19 17⟩]
def K.bz2 : BC:=.draw [b0 22 (.mv 4),b0 23 (.nc 22),b0 24 (.fa 1 23),⟨some 25,none,(.at 24),.ld1 24⟩,b0 26 (.mv 4),b0 27 (.nc 26),b0 28 (.fa 2 27),⟨some 29,none,(.at 28),.ld1 28⟩,b0 30 (.sb .add (.c (.lit (.string (bs [10])))) 29),b0 31 (.sb .add 25 30),b0 32 (.nc 22),b0 33 (.fa 1 32),⟨none,none,(.at 33),.st 1 33 31⟩] []
def K.by1 : BC:=.ops [b0 36 (.mv 4),b0 37 (.mv 4),b0 38 (.nc 37),b0 39 (.fa 1 38),⟨some 40,none,(.at 39),.ld1 39⟩,b0 41 (.nc 36),b0 42 (.fa 2 41),⟨none,none,(.at 42),.st 1 42 40⟩]
def K.bv3 : BC:=.draw [b0 45 (.mv 4),b0 46 (.nc 45),b0 47 (.fa 2 46),⟨some 48,none,(.at 47),.ld1 47⟩,b0 49 (.mv 4),b0 50 (.nc 49),b0 51 (.fa 1 50),⟨some 52,none,(.at 51),.ld1 51⟩,b0 53 (.sb .add (.c (.lit (.string (bs [10])))) 52),b0 54 (.sb .add 48 53),b0 55 (.nc 45),b0 56 (.fa 2 55),⟨none,none,(.at 56),.st 1 56 54⟩] []
def K.bw7 : BC:=.draw [b0 59 (.mv 4),b0 60 (.mv 4),b0 61 (.mv 4),b0 62 (.nc 61),b0 63 (.fa 2 62),⟨some 64,none,(.at 63),.ld1 63⟩,b0 65 (.mv 4),b0 66 (.nc 65),b0 67 (.fa 1 66),⟨some 68,none,(.at 67),.ld1 67⟩,b0 69 (.nc 59),b0 70 (.fa 1 69),⟨none,none,(.at 70),.st 1 70 64⟩,b0 71 (.nc 60),b0 72 (.fa 2 71),⟨none,none,(.at 72),.st 1 72 68⟩] []
def K.bv4 : BC:=.ops [b0 75 (.mv 4),b0 76 (.nc 75),b0 77 (.fa 1 76),⟨none,none,(.at 77),.st 1 77 (.c (.lit (.string (bs []))))⟩]
def K.bz0 : BC:=.draw [b0 80 (.mv 4),b0 81 (.mv 4),b0 82 (.nc 81),b0 83 (.fa 1 82),⟨some 84,none,(.at 83),.ld1 83⟩,b0 85 (.fa 0 3),b0 86 (.fa 19 85),⟨some 87,none,(.at 86),.ld1 86⟩,b0 88 (.cl 66 [84,87]),b0 89 (.nc 80),b0 90 (.fa 1 89),⟨none,none,(.at 90),.st 1 90 88⟩] []
def K.bu9 : BC:=.ops [b0 93 (.mv 0),⟨some 94,none,(.at 3),.ldn 26 3⟩,b0 95 (.cl 67 [93,94])]
def K.bz6 : BC:=.cond 91 K.bu9 .skip
def K.bw0 : BC:=.seq (.ops [b0 92 (.ib .eql 10 (.c (.lit (.int .u8 115)))),b0 91 (.mv 92)]) K.bz6
def K.bg8 : BC:=.cond 78 K.bz0 K.bw0
def K.bq5 : BC:=.seq (.ops [b0 79 (.ib .eql 10 (.c (.lit (.int .u8 121)))),b0 78 (.mv 79)]) K.bg8
def K.bo9 : BC:=.cond 73 K.bv4 K.bq5
def K.bn6 : BC:=.seq (.ops [b0 74 (.ib .eql 10 (.c (.lit (.int .u8 122)))),b0 73 (.mv 74)]) K.bo9
def K.bo7 : BC:=.cond 57 K.bw7 K.bn6
def K.bl8 : BC:=.seq (.ops [b0 58 (.ib .eql 10 (.c (.lit (.int .u8 120)))),b0 57 (.mv 58)]) K.bo7
def K.br0 : BC:=.cond 43 K.bv3 K.bl8
def K.bi4 : BC:=.seq (.ops [b0 44 (.ib .eql 10 (.c (.lit (.int .u8 72)))),b0 43 (.mv 44)]) K.br0
def K.bl1 : BC:=.cond 34 K.by1 K.bi4
def K.br8 : BC:=.seq (.ops [b0 35 (.ib .eql 10 (.c (.lit (.int .u8 104)))),b0 34 (.mv 35)]) K.bl1
def K.bn8 : BC:=.cond 20 K.bz2 K.br8
def K.bh2 : BC:=.seq (.ops [b0 21 (.ib .eql 10 (.c (.lit (.int .u8 71)))),b0 20 (.mv 21)]) K.bn8
def K.bk7 : BC:=.cond 11 K.bx3 K.bh2
def K.bj9 : BC:=.block 0 (.seq (.ops [b0 12 (.ib .eql 10 (.c (.lit (.int .u8 103)))),b0 11 (.mv 12)]) K.bk7)
def K.bs4 : BC:=.seq (.ops [b0 8 (.fa 0 3),b0 9 (.fa 10 8),⟨some 10,none,(.at 9),.ld1 9⟩]) K.bj9
def K.bi7 : BC:=.seq (.ops [b0 5 (.mv 0),b0 6 (.nc 5),b0 7 (.fa 6 6),b0 4 (.mv 7)]) K.bs4
def K.ad6 : BFn:=⟨96,[],.seq (.ops [⟨some 3,none,.here,.bx 136 1⟩]) K.bi7⟩
def K.bv0 : BC:=.ops [b0 20 (.mv 0),b0 21 (.mv 4),b0 22 (.nc 21),b0 23 (.fa 4 22),⟨some 24,none,(.at 23),.ld1 23⟩,b0 25 (.cl 68 [24]),b0 26 (.cl 60 [20,25])]
def K.bz5 : BC:=.ops [b0 29 (.mv 4),b0 30 (.mv 4),b0 31 (.nc 30),b0 32 (.fa 6 31),⟨some 33,none,(.at 32),.ld1 32⟩,b0 34 (.mv 5),b0 35 (.bd [(.lit (.bool false)),(.lit (.string (bs [])))] [(0,1,(.c (.lit (.bool false)))),(1,1,34)]),⟨some 36,none,.here,.bsl 122 2 [35]⟩,⟨some 37,none,(.app 33 36),.ap 122 2 24 33 36⟩,b0 38 (.nc 29),b0 39 (.fa 6 38),⟨none,none,(.at 39),.st 1 39 37⟩]
def K.bu7 : BC:=.ops [b0 42 (.mv 4),b0 43 (.mv 4),b0 44 (.nc 43),b0 45 (.fa 6 44),⟨some 46,none,(.at 45),.ld1 45⟩,b0 47 (.mv 5),b0 48 (.bd [(.lit (.bool false)),(.lit (.string (bs [])))] [(0,1,(.c (.lit (.bool true)))),(1,1,47)]),⟨some 49,none,.here,.bsl 122 2 [48]⟩,⟨some 50,none,(.app 46 49),.ap 122 2 24 46 49⟩,b0 51 (.nc 42),b0 52 (.fa 6 51),⟨none,none,(.at 52),.st 1 52 50⟩]
def K.bw8 : BC:=.ops [b0 55 (.mv 0),b0 56 (.nc 55),b0 57 (.fa 4 56),b0 58 (.mv 5),b0 59 (.cl 65 [57,58])]
def K.bv5 : BC:=.ops [b0 62 (.mv 0),b0 63 (.mv 4),b0 64 (.nc 63),b0 65 (.fa 1 64),⟨some 66,none,(.at 65),.ld1 65⟩,b0 67 (.cl 69 [66]),b0 68 (.sb .add 67 (.c (.lit (.string (bs [36]))))),b0 69 (.cl 60 [62,68])]
def K.bw5 : BC:=.ops [b0 72 (.mv 0),b0 73 (.mv 4),b0 74 (.nc 73),b0 75 (.fa 1 74),⟨some 76,none,(.at 75),.ld1 75⟩,b0 77 (.cl 60 [72,76])]
def K.by9 : BC:=.ops [b0 89 (.mv 0),b0 90 (.mv 6),b0 91 (.cl 60 [89,90])]
def K.bx6 : BC:=.seq (.ops [b0 81 (.mv 4),b0 82 (.nc 81),b0 83 (.fa 1 82),⟨some 84,none,(.at 83),.ld1 83⟩,b0 85 (.cl 41 [84,(.c (.lit (.string (bs [10]))))]),b0 80 (.mv 85),b0 86 (.ex 80 0),b0 87 (.ex 80 1),b0 88 (.ex 80 2),b0 6 (.mv 86),b0 7 (.mv 87),b0 8 (.mv 88)]) K.by9
def K.by2 : BC:=.draw [b0 94 (.mv 0),b0 95 (.nc 94),b0 96 (.fa 3 95),⟨some 97,none,(.at 96),.ld1 96⟩,b0 98 (.mv 5),b0 99 (.mv 4),b0 100 (.nc 99),b0 101 (.fa 1 100),⟨some 102,none,(.at 101),.ld1 101⟩,b0 103 (.cl 26 [97,98,102])] []
def K.bw6 : BC:=.cond 92 K.by2 .skip
def K.bq2 : BC:=.seq (.ops [b0 93 (.ib .eql 17 (.c (.lit (.int .u8 119)))),b0 92 (.mv 93)]) K.bw6
def K.bn5 : BC:=.cond 78 K.bx6 K.bq2
def K.bs0 : BC:=.seq (.ops [b0 79 (.ib .eql 17 (.c (.lit (.int .u8 80)))),b0 78 (.mv 79)]) K.bn5
def K.bh3 : BC:=.cond 70 K.bw5 K.bs0
def K.bk5 : BC:=.seq (.ops [b0 71 (.ib .eql 17 (.c (.lit (.int .u8 112)))),b0 70 (.mv 71)]) K.bh3
def K.bj7 : BC:=.cond 60 K.bv5 K.bk5
def K.bo6 : BC:=.seq (.ops [b0 61 (.ib .eql 17 (.c (.lit (.int .u8 108)))),b0 60 (.mv 61)]) K.bj7
def K.bp1 : BC:=.cond 53 K.bw8 K.bo6
def K.bp9 : BC:=.seq (.ops [b0 54 (.ib .eql 17 (.c (.lit (.int .u8 105)))),b0 53 (.mv 54)]) K.bp1
def K.bj8 : BC:=.cond 40 K.bu7 K.bp9
def K.bi8 : BC:=.seq (.ops [b0 41 (.ib .eql 17 (.c (.lit (.int .u8 114)))),b0 40 (.mv 41)]) K.bj8
def K.bi5 : BC:=.cond 27 K.bz5 K.bi8
def K.bk8 : BC:=.seq (.ops [b0 28 (.ib .eql 17 (.c (.lit (.int .u8 97)))),b0 27 (.mv 28)]) K.bi5
def K.bg6 : BC:=.cond 18 K.bv0 K.bk8
def K.bq6 : BC:=.block 0 (.seq (.ops [b0 19 (.ib .eql 17 (.c (.lit (.int .u8 61)))),b0 18 (.mv 19)]) K.bg6)
def K.bh5 : BC:=.seq (.ops [b0 15 (.fa 0 3),b0 16 (.fa 10 15),⟨some 17,none,(.at 16),.ld1 16⟩]) K.bq6
def K.br9 : BC:=.seq (.ops [b0 12 (.fa 0 3),b0 13 (.fa 11 12),⟨some 14,none,(.at 13),.ld1 13⟩,b0 5 (.mv 14)]) K.bh5
def K.bl3 : BC:=.seq (.ops [b0 9 (.mv 0),b0 10 (.nc 9),b0 11 (.fa 6 10),b0 4 (.mv 11)]) K.br9
def K.ad4 : BFn:=⟨104,[],.seq (.ops [⟨some 3,none,.here,.bx 136 1⟩]) K.bl3⟩
def K.by5 : BC:=.seq (.ops [b0 2 (.mv (.c (.lit (.bool false))))]) .ret
def K.bx8 : BC:=.cond 8 K.by5 .skip
def K.bz3 : BC:=.seq (.ops [b0 2 (.mv (.c (.lit (.bool true))))]) .ret
def K.bv7 : BC:=.seq (.ops [b0 25 (.mv 0),b0 26 (.cl 25 [25])]) K.bz3
def K.bv1 : BC:=.seq (.ops [b0 23 (.mv 0),b0 24 (.cl 33 [23])]) K.bv7
def K.bv8 : BC:=.cond 22 K.bv1 .skip
def K.bx7 : BC:=.ops [b0 46 (.mv 0),b0 47 (.fa 24 3),⟨some 48,none,(.at 47),.ld1 47⟩,b0 49 (.nc 46),b0 50 (.fa 6 49),b0 51 (.fa 0 50),⟨none,none,(.at 51),.st 1 51 48⟩]
def K.bz4 : BC:=.ops [b0 69 (.mv 0),⟨some 70,none,(.at 3),.ldn 26 3⟩,b0 71 (.cl 37 [69,70])]
def K.bz1 : BC:=.seq (.ops [b0 66 (.mv 0),⟨some 67,none,(.at 3),.ldn 26 3⟩,b0 68 (.cl 36 [66,67])]) K.bz4
def K.bx2 : BC:=.seq (.ops [b0 57 (.mv 0),b0 58 (.nc 57),b0 59 (.fa 6 58),b0 60 (.fa 0 59),⟨some 61,none,(.at 60),.ld1 60⟩,b0 62 (.ib .add 61 (i0 1)),b0 63 (.nc 57),b0 64 (.fa 6 63),b0 65 (.fa 0 64),⟨none,none,(.at 65),.st 1 65 62⟩]) K.bz1
def K.bi6 : BC:=.cond 52 K.bx2 .skip
def K.bp3 : BC:=.seq (.ops [b0 53 (.mv 0),⟨some 54,none,(.at 3),.ldn 26 3⟩,b0 55 (.cl 35 [53,54]),b0 56 (.nt 55),b0 52 (.mv 56)]) K.bi6
def K.bi1 : BC:=.cond 41 K.bx7 K.bp3
def K.bh4 : BC:=.seq (.ops [b0 2 (.mv (.c (.lit (.bool true))))]) .ret
def K.bk3 : BC:=.seq (.block 0 (.seq (.ops [b0 42 (.mv 0),⟨some 43,none,(.at 3),.ldn 26 3⟩,b0 44 (.cl 34 [42,43]),b0 45 (.nt 44),b0 41 (.mv 45)]) K.bi1)) K.bh4
def K.bh7 : BC:=.seq (.draw [b0 27 (.mv 0),b0 28 (.nc 27),b0 29 (.fa 0 28),⟨some 30,none,(.at 29),.ld1 29⟩,b0 31 (.nc 30),b0 32 (.fa 1 31),⟨some 33,none,(.at 32),.ld1 32⟩,b0 34 (.mv 0),b0 35 (.nc 34),b0 36 (.fa 6 35),b0 37 (.fa 0 36),⟨some 38,none,(.at 37),.ld1 37⟩,b0 39 (.ia 26 33 38),⟨some 40,none,(.at 39),.ldn 26 39⟩,⟨some 3,none,.here,.al 136 [(.lit (.int .i64 0)),(.lit (.int .i64 0)),(.lit (.int .i64 0)),(.lit (.string (bs []))),(.lit .nilIface),(.lit (.int .i64 0)),(.lit (.int .i64 0)),(.lit (.string (bs []))),(.lit .nilIface),(.lit (.bool false)),(.lit (.int .u8 0)),(.lit (.string (bs []))),(.lit (.string (bs []))),(.lit .nilIface),(.lit (.slice none 0 0)),(.lit (.int .i64 0)),(.lit (.bool false)),(.lit (.bool false)),(.lit (.string (bs []))),(.lit (.string (bs []))),(.lit (.int .i64 0)),(.lit (.int .i64 0)),(.lit (.int .i64 0)),(.lit (.int .i64 0)),(.lit (.int .i64 0)),(.lit (.int .i64 0))]⟩,⟨none,none,(.at 3),.st 26 3 40⟩] [(3,14),(6,14),(11,14),(13,14)]) K.bk3
def K.bp2 : BC:=.seq (.seq (.draw [b0 9 (.mv 0),b0 10 (.nc 9),b0 11 (.fa 6 10),b0 12 (.fa 0 11),⟨some 13,none,(.at 12),.ld1 12⟩,b0 14 (.mv 0),b0 15 (.nc 14),b0 16 (.fa 0 15),⟨some 17,none,(.at 16),.ld1 16⟩,b0 18 (.nc 17),b0 19 (.fa 1 18),⟨some 20,none,(.at 19),.ld1 19⟩,⟨some 21,none,(.at 20),.ll 20⟩,b0 22 (.ib .geq 13 21)] []) K.bv8) K.bh7
def K.bg9 : BC:=.seq (.seq (.ops [b0 4 (.mv 0),b0 5 (.nc 4),b0 6 (.fa 6 5),b0 7 (.fa 7 6),⟨some 8,none,(.at 7),.ld1 7⟩]) K.bx8) K.bp2
def K.ab4 : BFn:=⟨72,[.t 2],.seq (.ops [b0 2 (.mv (.c (.lit (.bool false))))]) K.bg9⟩
def K.bD8 : BC:=.seq (.ops [b0 3 (.mv 0),b0 4 (.nc 3),b0 5 (.fa 4 4),b0 6 (.cl 38 [5]),b0 2 (.mv 6)]) .ret
def K.ae7 : BFn:=⟨7,[.t 2],.seq (.ops [b0 2 (.mv (.c (.lit (.string (bs [])))))]) K.bD8⟩
def K.bK0 : BC:=.ops [b0 31 (.mv 5),b0 32 (.mv 8),b0 33 (.mv 8),b0 34 (.ib .add 33 (i0 1)),b0 35 (.sls (.c (.lit (.string (bs [97,98,99,100,101])))) (some 32) (some 34)),b0 36 (.sb .add (.c (.lit (.string (bs [58])))) 35),b0 37 (.sb .add 36 (.c (.lit (.string (bs [10]))))),b0 38 (.sb .add 31 37),b0 5 (.mv 38)]
def K.bI3 : BC:=.ops [b0 39 (.ib .add 28 (i0 1)),b0 28 (.mv 39)]
def K.bN7 : BC:=.seq (.block 1 (.seq (.ops [b0 30 (.mv 28),b0 8 (.mv 30)]) K.bK0)) K.bI3
def K.bL8 : BC:=.seq (.cond 29 .skip (.exit 0)) K.bN7
def K.aE2 : BC:=.seq (.ops [b0 29 (.ib .lss 28 27)]) K.bL8
def K.bL6 : BC:=.ops [b0 66 (.mv 6),b0 67 (.mv 15),b0 68 (.sb .add 67 (.c (.lit (.string (bs [10]))))),b0 69 (.sb .add 66 68),b0 6 (.mv 69)]
def K.bM2 : BC:=.ops [b0 70 (.ib .add 62 (i0 1)),b0 62 (.mv 70)]
def K.bK7 : BC:=.seq (.block 3 (.seq (.ops [b0 64 (.ia 1 60 62),⟨some 65,none,(.at 64),.ld1 64⟩,b0 15 (.mv 65)]) K.bL6)) K.bM2
def K.bJ2 : BC:=.seq (.cond 63 .skip (.exit 2)) K.bK7
def K.aE6 : BC:=.seq (.ops [b0 63 (.ib .lss 62 61)]) K.bJ2
def K.bD3 : BC:=.seq (.ops [b0 4 (.mv (.c (.lit (.bool false))))]) .ret
def K.bF7 : BC:=.cond 85 K.bD3 .skip
def K.bC6 : BC:=.ops [b0 86 (.ib .add 76 (i0 1)),b0 76 (.mv 86)]
def K.bC5 : BC:=.seq (.block 5 (.seq (.ops [b0 78 (.mv 12),b0 79 (.cl 11 [78]),b0 80 (.fd1 7 79),b0 81 (.mv 80),⟨some 82,(some (81,false)),.none,.mv 12⟩,⟨some 83,(some (81,false)),.none,.cl 12 [82]⟩,⟨some 84,(some (81,false)),.none,.nt 83⟩,b0 85 (.pk 81 (.c (.lit (.bool true))) 84)]) K.bF7)) K.bC6
def K.bE2 : BC:=.seq (.cond 77 .skip (.exit 4)) K.bC5
def K.aB2 : BC:=.seq (.ops [b0 77 (.ib .lss 76 75)]) K.bE2
def K.aR4 : BC:=.seq (.ops [b0 87 (.mv 12),b0 88 (.cl 11 [87]),b0 89 (.fd1 7 88),b0 90 (.mv 89),⟨some 91,(some (90,true)),.none,.mv 12⟩,⟨some 92,(some (90,true)),.none,.cl 13 [91]⟩,⟨some 93,(some (90,true)),.none,.mv 6⟩,⟨some 94,(some (90,true)),.none,.sb .eql 92 93⟩,b0 95 (.pk 90 94 (.c (.lit (.bool false)))),b0 96 (.mv 95),⟨some 97,(some (96,true)),.none,.mv 12⟩,⟨some 98,(some (96,true)),.none,.cl 12 [97]⟩,⟨some 99,(some (96,true)),.none,.nt 98⟩,b0 100 (.pk 96 99 (.c (.lit (.bool false)))),b0 4 (.mv 100)]) .ret
def K.bB6 : BC:=.block 4 (.loop K.aB2)
def K.aR2 : BC:=.seq (.seq (.ops [b0 71 (.mv 13),⟨some 72,none,(.at 71),.ll 71⟩,b0 73 (.mv 7),b0 74 (.ib .add 73 (i0 1)),b0 75 (.ib .mul 72 74),b0 76 (.mv (i0 0))]) K.bB6) K.aR4
def K.bG1 : BC:=.seq (.ops [b0 4 (.mv (.c (.lit (.bool false))))]) .ret
def K.bE0 : BC:=.cond 47 K.bG1 .skip
def K.bB8 : BC:=.seq (.ops [b0 4 (.mv (.c (.lit (.bool false))))]) .ret
def K.bC3 : BC:=.cond 55 K.bB8 .skip
def K.bA3 : BC:=.block 2 (.loop K.aE6)
def K.bG7 : BC:=.seq (.seq (.ops [b0 60 (.mv 13),⟨some 61,none,(.at 60),.ll 60⟩,b0 62 (.mv (i0 0))]) K.bA3) K.aR2
def K.bA5 : BC:=.seq (.ops [⟨some 56,none,(.at 10),.ldn 5 10⟩,b0 57 (.mv 0),b0 58 (.cl 10 [56,57,(.c (.lit (.slice none 0 0)))]),b0 59 (.fd1 5 58),b0 13 (.mv 59)]) K.bG7
def K.bA7 : BC:=.seq (.seq (.ops [b0 54 (.mv 12),b0 55 (.gen (.binOp .eql 33 (.tmp 54) (.const (.pointer none)) 33) 4)]) K.bC3) K.bA5
def K.bD5 : BC:=.seq (.ops [b0 48 (.mv 9),⟨some 49,none,.here,.bsl 9 1 []⟩,b0 50 (.mv 0),⟨some 51,none,(.app 49 50),.ap 9 1 16 49 50⟩,b0 52 (.cl 9 [(.c (.lit (.slice none 0 0)))]),b0 53 (.cl 8 [48,51,52]),b0 12 (.mv 53)]) K.bA7
def K.bD7 : BC:=.seq (.seq (.ops [b0 46 (.mv 11),b0 47 (.nt 46)]) K.bE0) K.bD5
def K.aS2 : BC:=.seq (.ops [b0 41 (.mv 5),b0 42 (.cl 7 [41,(.c (.lit (.bool false)))]),b0 40 (.mv 42),b0 43 (.ex 40 0),b0 44 (.ex 40 1),b0 45 (.ex 40 2),⟨some 10,none,.here,.al 30 [(.lit (.bool false)),(.lit (.slice none 0 0)),(.lit (.slice none 0 0)),(.lit (.slice none 0 0)),(.lit (.int .i64 0))]⟩,b0 9 (.mv 43),⟨none,none,(.at 10),.st 5 10 44⟩,b0 11 (.mv 45)]) K.bD7
def K.bF4 : BC:=.seq (.ops [b0 23 (.cl 5 []),b0 4 (.mv 23)]) .ret
def K.bD0 : BC:=.cond 22 K.bF4 .skip
def K.bA4 : BC:=.block 0 (.loop K.aE2)
def K.bF6 : BC:=.seq (.seq (.ops [b0 27 (.mv 7),b0 28 (.mv (i0 0))]) K.bA4) K.aS2
def K.bC4 : BC:=.seq (.ops [b0 24 (.mv 1),⟨some 25,none,(.at 24),.cvi .i64 24⟩,b0 26 (.ib .rem 25 (i0 5)),b0 7 (.mv 26)]) K.bF6
def K.bD9 : BC:=.seq (.ops [b0 5 (.mv (.c (.lit (.string (bs [35,32,110,111,116,104,105,110,103,10]))))),b0 6 (.mv (.c (.lit (.string (bs [])))))]) K.bC4
def K.bD1 : BC:=.seq (.seq (.ops [b0 16 (.cl 5 []),b0 17 (.nt 16),b0 18 (.mv 17),⟨some 19,(some (18,false)),.none,.mv 0⟩,⟨some 20,(some (18,false)),.none,.cl 6 [19]⟩,⟨some 21,(some (18,false)),.none,.nt 20⟩,b0 22 (.pk 18 (.c (.lit (.bool true))) 21)]) K.bD0) K.bD9
def K.aa4 : BFn:=⟨101,[.t 4],.seq (.ops [b0 4 (.mv (.c (.lit (.bool false))))]) K.bD1⟩
def K.bj6 : BC:=.seq (.ops [b0 3 (.mv 0),b0 4 (.nc 3),b0 5 (.fa 3 4),⟨some 6,none,(.at 5),.ld1 5⟩,b0 7 (.cl 20 [6]),b0 2 (.mv 7)]) .ret
def K.am6 : BFn:=⟨8,[.t 2],.seq (.ops [b0 2 (.mv (.c (.lit (.pointer none))))]) K.bj6⟩
def K.cT6 : BC:=.cond 23 .skip (.exit 0)
def K.db0 : BC:=.block 1 (.ops [b0 24 (.mv 11),b0 25 (.ib .add 24 (i0 1)),b0 11 (.mv 25)])
def K.c86 : BC:=.seq (.seq (.ops [b0 17 (.mv 11),b0 18 (.mv 3),b0 19 (.ib .lss 17 18),b0 20 (.mv 19),⟨some 21,(some (20,true)),.none,.mv 10⟩,⟨some 22,(some (20,true)),.none,.cl 12 [21]⟩,b0 23 (.pk 20 22 (.c (.lit (.bool false))))]) K.cT6) K.db0
def K.c45 : BC:=.seq (.ops [b0 30 (.bd [(.lit (.string (bs []))),(.lit (.slice none 0 0)),(.lit (.int .i64 0))] []),⟨none,none,(.at 8),.st 3 8 30⟩,b0 9 (.mv (i0 21))]) .ret
def K.cV0 : BC:=.cond 29 K.c45 .skip
def K.db2 : BC:=.seq (.ops [b0 31 (.mv 10),b0 32 (.cl 13 [31]),b0 33 (.mv 10),b0 34 (.cl 70 [33]),b0 35 (.cl 71 [34]),b0 36 (.mv 11),b0 37 (.bd [(.lit (.string (bs []))),(.lit (.slice none 0 0)),(.lit (.int .i64 0))] [(0,1,32),(1,1,35),(2,1,36)]),⟨none,none,(.at 8),.st 3 8 37⟩,b0 9 (.mv (i0 0))]) .ret
def K.c95 : BC:=.seq (.seq (.ops [b0 26 (.mv 10),b0 27 (.cl 11 [26]),b0 28 (.fd1 7 27),b0 29 (.nt 28)]) K.cV0) K.db2
def K.cW9 : BC:=.seq (.block 0 (.loop K.c86)) K.c95
def K.c57 : BC:=.seq (.ops [b0 11 (.mv (i0 0))]) K.cW9
def K.c38 : BC:=.seq (.ops [b0 12 (.mv 0),b0 13 (.mv 1),b0 14 (.mv 2),b0 15 (.cl 9 [14]),b0 16 (.cl 8 [12,13,15]),b0 10 (.mv 16)]) K.c57
def K.b07 : BFn:=⟨38,[.cn 8 3,.t 9],.seq (.ops [⟨some 8,none,.here,.al 142 [(.lit (.string (bs []))),(.lit (.slice none 0 0)),(.lit (.int .i64 0))]⟩,b0 9 (.mv (i0 0))]) K.c38⟩
def K.cG6 : BC:=.seq (.ops [b0 26 (.mv 13),b0 27 (.mv 14),b0 8 (.mv (.c (.lit (.string (bs []))))),b0 9 (.mv 26),b0 10 (.mv 27)]) .ret
def K.cB8 : BC:=.cond 25 K.cG6 .skip
def K.cI1 : BC:=.seq (.ops [b0 35 (.fa 0 15),⟨some 36,none,(.at 35),.ld1 35⟩,b0 37 (.mv 14),b0 8 (.mv 36),b0 9 (.mv (i0 0)),b0 10 (.mv 37)]) .ret
def K.cF1 : BC:=.seq (.ops [b0 29 (.mv 11),b0 30 (.mv 2),b0 31 (.mv 3),b0 32 (.cl 40 [29,30,(.c (.lit (.slice none 0 0))),31]),b0 28 (.mv 32),b0 33 (.ex 28 0),b0 34 (.ex 28 1),⟨some 15,none,.here,.al 142 [(.lit (.string (bs []))),(.lit (.slice none 0 0)),(.lit (.int .i64 0))]⟩,⟨none,none,(.at 15),.st 3 15 33⟩,b0 14 (.mv 34)]) K.cI1
def K.cH2 : BC:=.seq (.seq (.ops [b0 24 (.mv 14),b0 25 (.ib .neq 24 (i0 0))]) K.cB8) K.cF1
def K.cB9 : BC:=.seq (.ops [b0 17 (.mv 0),⟨some 18,none,(.at 5),.ldn 2 5⟩,b0 19 (.cl 39 [17,18]),b0 16 (.mv 19),b0 20 (.ex 16 0),b0 21 (.ex 16 1),b0 22 (.ex 16 2),b0 23 (.ex 16 3),b0 11 (.mv 20),b0 12 (.mv 21),b0 13 (.mv 22),b0 14 (.mv 23)]) K.cH2
def K.aU6 : BFn:=⟨38,[.t 8,.t 9,.t 10],.seq (.ops [⟨some 5,none,.here,.bx 55 1⟩,b0 8 (.mv (.c (.lit (.string (bs []))))),b0 9 (.mv (i0 0)),b0 10 (.mv (i0 0))]) K.cB9⟩
def K.bQ5 : BC:=.seq (.ops [b0 4 (.mv (.c (.lit (.bool true))))]) .ret
def K.bO8 : BC:=.cond 32 K.bQ5 .skip
def K.bP2 : BC:=.ops [b0 33 (.mv 5),b0 34 (.mv 8),b0 35 (.sb .add 34 (.c (.lit (.string (bs [10]))))),b0 36 (.sb .add 33 35),b0 5 (.mv 36)]
def K.bP4 : BC:=.seq (.seq (.ops [b0 30 (.mv 8),⟨some 31,none,(.at 30),.ls 30⟩,b0 32 (.ib .gtr 31 (i0 100))]) K.bO8) K.bP2
def K.bP0 : BC:=.ops [b0 37 (.ib .add 26 (i0 1)),b0 26 (.mv 37)]
def K.bP8 : BC:=.seq (.block 1 (.seq (.ops [b0 28 (.ia 1 24 26),⟨some 29,none,(.at 28),.ld1 28⟩,b0 8 (.mv 29)]) K.bP4)) K.bP0
def K.bR4 : BC:=.seq (.cond 27 .skip (.exit 0)) K.bP8
def K.bS3 : BC:=.seq (.ops [b0 27 (.ib .lss 26 25)]) K.bR4
def K.bQ6 : BC:=.ops [b0 47 (.mv 6),b0 48 (.ib .add 47 (i0 1)),b0 6 (.mv 48)]
def K.bP3 : BC:=.cond 46 K.bQ6 .skip
def K.bI6 : BC:=.seq (.ops [b0 43 (.mv 5),b0 44 (.mv 9),b0 45 (.xs 43 44),b0 46 (.ib .eql 45 (.c (.lit (.int .u8 10))))]) K.bP3
def K.bH8 : BC:=.ops [b0 49 (.ib .add 40 (i0 1)),b0 40 (.mv 49)]
def K.bN4 : BC:=.seq (.block 3 (.seq (.ops [b0 42 (.mv 40),b0 9 (.mv 42)]) K.bI6)) K.bH8
def K.bJ1 : BC:=.seq (.cond 41 .skip (.exit 2)) K.bN4
def K.bN5 : BC:=.seq (.ops [b0 41 (.ib .lss 40 39)]) K.bJ1
def K.bK3 : BC:=.seq (.ops [b0 74 (.mv 10),b0 75 (.mv 5),b0 76 (.sb .eql 74 75),b0 77 (.mv 76),⟨some 78,(some (77,true)),.none,.mv 11⟩,⟨some 79,(some (77,true)),.none,.ib .eql 78 (i0 0)⟩,b0 80 (.pk 77 79 (.c (.lit (.bool false)))),b0 81 (.mv 80),⟨some 82,(some (81,true)),.none,.mv 12⟩,⟨some 83,(some (81,true)),.none,.ib .eql 82 (i0 0)⟩,b0 84 (.pk 81 83 (.c (.lit (.bool false)))),b0 85 (.mv 84),⟨some 86,(some (85,true)),.none,.mv 15⟩,⟨some 87,(some (85,true)),.none,.ib .eql 86 (i0 21)⟩,⟨some 88,(some (85,true)),.none,.mv 6⟩,⟨some 89,(some (85,true)),.none,.ib .gtr 88 (i0 0)⟩,⟨some 90,(some (85,true)),.none,.bb false 87 89⟩,b0 91 (.pk 85 90 (.c (.lit (.bool false)))),b0 4 (.mv 91)]) .ret
def K.bI0 : BC:=.seq (.ops [b0 63 (.mv 1),b0 64 (.bd [(.lit (.bool false)),(.lit (.bool false))] [(1,1,63)]),⟨some 65,none,.here,.bsl 9 1 []⟩,b0 66 (.mv 0),⟨some 67,none,(.app 65 66),.ap 9 1 16 65 66⟩,b0 68 (.mv 6),b0 69 (.ib .sub 68 (i0 1)),b0 70 (.cl 15 [(.c (.lit (.string (bs [])))),64,67,69]),b0 62 (.mv 70),b0 71 (.ex 62 0),b0 72 (.ex 62 1),b0 73 (.ex 62 2),b0 13 (.mv 71),b0 14 (.mv 72),b0 15 (.mv 73)]) K.bK3
def K.bJ0 : BC:=.seq (.ops [b0 52 (.mv 1),b0 53 (.bd [(.lit (.bool false)),(.lit (.bool false))] [(1,1,52)]),⟨some 54,none,.here,.bsl 9 1 []⟩,b0 55 (.mv 0),⟨some 56,none,(.app 54 55),.ap 9 1 16 54 55⟩,b0 57 (.mv 6),b0 58 (.cl 15 [(.c (.lit (.string (bs [])))),53,56,57]),b0 51 (.mv 58),b0 59 (.ex 51 0),b0 60 (.ex 51 1),b0 61 (.ex 51 2),b0 10 (.mv 59),b0 11 (.mv 60),b0 12 (.mv 61)]) K.bI0
def K.bI1 : BC:=.ops [b0 5 (.mv (.c (.lit (.string (bs [])))))]
def K.bO1 : BC:=.cond 50 K.bI1 .skip
def K.bG9 : BC:=.seq (.seq (.ops [b0 50 (.mv 1)]) K.bO1) K.bJ0
def K.bI5 : BC:=.block 2 (.loop K.bN5)
def K.bM5 : BC:=.seq (.seq (.ops [b0 38 (.mv 5),⟨some 39,none,(.at 38),.ls 38⟩,b0 40 (.mv (i0 0))]) K.bI5) K.bG9
def K.bH5 : BC:=.seq (.ops [b0 23 (.cl 14 []),b0 4 (.mv 23)]) .ret
def K.bK1 : BC:=.cond 22 K.bH5 .skip
def K.bM4 : BC:=.block 0 (.loop K.bS3)
def K.bL9 : BC:=.seq (.seq (.ops [b0 24 (.mv 0),⟨some 25,none,(.at 24),.ll 24⟩,b0 26 (.mv (i0 0))]) K.bM4) K.bM5
def K.bM8 : BC:=.seq (.ops [b0 5 (.mv (.c (.lit (.string (bs []))))),b0 6 (.mv (i0 0))]) K.bL9
def K.bL5 : BC:=.seq (.seq (.ops [b0 16 (.cl 14 []),b0 17 (.nt 16),b0 18 (.mv 17),⟨some 19,(some (18,false)),.none,.mv 0⟩,⟨some 20,(some (18,false)),(.at 19),.ll 19⟩,⟨some 21,(some (18,false)),.none,.ib .gtr 20 (i0 20)⟩,b0 22 (.pk 18 (.c (.lit (.bool true))) 21)]) K.bK1) K.bM8
def K.av7 : BFn:=⟨92,[.t 4],.seq (.ops [b0 4 (.mv (.c (.lit (.bool false))))]) K.bL5⟩
def K.aQ2 : BC:=.seq (.ops [b0 3 (.mv 0),b0 4 (.mv 0),⟨some 5,none,(.at 4),.ll 4⟩,b0 6 (.mv 0),⟨some 7,none,(.at 6),.ll 6⟩,b0 8 (.sll 1 3 none (some 5) (some 7)),b0 2 (.mv 8)]) .ret
def K.aj2 : BFn:=⟨9,[.t 2],.seq (.ops [b0 2 (.mv (.c (.lit (.slice none 0 0))))]) K.aQ2⟩
class ae4 (P : Program) : Prop where
 ai6 : aq2 P F.ai6 = some K.ai6
 ext_law16_Made : S.ai8 P ai8
 ae3 : aq2 P F.ae3 = some K.ae3
 ext_strings_Split : S.strings_Split P strings_Split
 an6 : aq2 P F.an6 = some K.an6
 o9 : aq2 P F.o9 = some K.o9
 x8 : aq2 P F.x8 = some K.x8
 ae6 : aq2 P F.ae6 = some K.ae6
 ag7 : aq2 P F.ag7 = some K.ag7
 aa7 : aq2 P F.aa7 = some K.aa7
 x9 : aq2 P F.x9 = some K.x9
 ab3 : aq2 P F.ab3 = some K.ab3
 ae0 : aq2 P F.ae0 = some K.ae0
 ac4 : aq2 P F.ac4 = some K.ac4
 ab2 : aq2 P F.ab2 = some K.ab2
 ac9 : aq2 P F.ac9 = some K.ac9
 ag2 : aq2 P F.ag2 = some K.ag2
 ai1 : aq2 P F.ai1 = some K.ai1
 af6 : aq2 P F.af6 = some K.af6
 ak3 : aq2 P F.ak3 = some K.ak3
 ad9 : aq2 P F.ad9 = some K.ad9
 ext_slices_Clone_int_int : S.ah6 P ah6
 ext_slices_Clone_mach_Item_mach_Item : S.ab9 P ab9
 ab6 : aq2 P F.ab6 = some K.ab6
 ad5 : aq2 P F.ad5 = some K.ad5
 aa5 : aq2 P F.aa5 = some K.aa5
 ad3 : aq2 P F.ad3 = some K.ad3
 ac6 : aq2 P F.ac6 = some K.ac6
 ab5 : aq2 P F.ab5 = some K.ab5
 ad6 : aq2 P F.ad6 = some K.ad6
 ad4 : aq2 P F.ad4 = some K.ad4
 ab4 : aq2 P F.ab4 = some K.ab4
 ae7 : aq2 P F.ae7 = some K.ae7
 aa4 : aq2 P F.aa4 = some K.aa4
 ext_run_Load : S.aD5 P aD5
 am6 : aq2 P F.am6 = some K.am6
 ext_files_Files_List : S.al3 P al3
 b07 : aq2 P F.b07 = some K.b07
 aU6 : aq2 P F.aU6 = some K.aU6
 av7 : aq2 P F.av7 = some K.av7
 aj2 : aq2 P F.aj2 = some K.aj2
 ext_slices_Clone_string_string : S.ak7 P ak7
 lies_80_4 : liesAt P P.depth 80 (14 / P.cellsOf 80) 4 78 1 = true
 un_33 : P.underlying 33 = some (.pointer 80)
 ms_38 : MkSl P 38 3 1 [.lit (.int .i64 0)]
 bld : BldC P 75 78 288 4 5 153 105 65 101 38
 ext_law19_awake (r : Bool) (h : (some true : Option Bool) = some r) : ∃ v,ak5 P F.aL2 [] .bare = some (.ret v,none) ∧ ResC [.bool r] v
 ext_law20_awake (r : Bool) (h : (some true : Option Bool) = some r) : ∃ v,ak5 P F.aS0 [] .bare = some (.ret v,none) ∧ ResC [.bool r] v
open Go.RowKit
theorem bldTb : (Tryz.prog.info? 78).any (fun i=>i.size != 0) = true:=by kernel_rfl
theorem bldFacts : aY7 Tryz.prog 75 78 288 4 153 where
 up:=by kernel_rfl
 uu:=by kernel_rfl
 ib:=by
  have h:=bldTb
  cases hi : Tryz.prog.info? 78 with
  | none=>rw [hi] at h; cases h
  | some i=>rw [hi] at h; exact ⟨i,rfl,by simpa using h⟩
 ne:=⟨_,Tryz.func153,by kernel_rfl⟩
 same:=rfl
 nil:=fun T S=>by kernel_rfl
def mkB (P : Program) (e : TypeId) (n : Nat) : Option (Bool × List AV):=(P.info? e).bind fun i=>i.zero.map fun z=>(z.cells.size == n && i.size == n && decide (0 < n) && decide (i.bytes ≤ 100000),z.cells.toList.map AV.lit)
theorem mkSl_of {P : Program} {t e : TypeId} {n : Nat} {zc : List AV} (h1 : P.underlying t = some (.slice e)) (h2 : mkB P e n = some (true,zc)) : MkSl P t e n zc:=by
 refine ⟨h1,?_⟩
 unfold mkB at h2
 obtain ⟨i,hi,h2⟩:=Option.bind_eq_some_iff.1 h2
 obtain ⟨z,hz,h2⟩:=Option.map_eq_some_iff.1 h2
 simp only [Prod.mk.injEq,Bool.and_eq_true,beq_iff_eq,decide_eq_true_eq] at h2
 exact ⟨i,z,hi,hz,h2.1.1.1.1,h2.1.1.1.2,h2.1.1.2,h2.1.2,h2.2⟩
theorem made_ok : S.ai8 Tryz.prog ai8:=by
 intro a0 a1 r h _ args ha
 obtain ⟨rfl,n,hn,rfl,rfl⟩:=cN7 (show G.made a0 a1 = some r from h)
 have hargs : args.map AV.ag0 = [sA (ag1 n),bA false]:=by
  obtain ⟨x,t,h1,h2,y,t2,h3,h4,h5⟩:=ha
  rw [h1,h3,h5,show x = _ from h2,show y = _ from h4]
  rfl
 unfold b73
 rw [hargs]
 have run : ak5 Tryz.prog F.ai8 [sA (ag1 n),bA false] .bare = some (.ret (bP9 n),none):=by
  match n,hn with
  | 0,_=>exact c66
  | 1,_=>exact da3
  | 2,_=>exact da1
  | 3,_=>exact cV8
  | 4,_=>exact c65
  | n + 5,hn=>exact absurd hn (by omega)
 exact ⟨bP9 n,run,cX7 n⟩
theorem load_ok : S.aD5 Tryz.prog aD5:=by
 intro a0 a1 r h _ args ha
 have h : (if a0.length = 0 ∧ a1.Extended = false then some (some (eFlat a1.Quiet),[],(0 : Int),(0 : Int)) else none) = some r:=h
 split at h
 case isFalse=>cases h
 rename_i hc
 cases h
 obtain rfl : a0 = []:=List.eq_nil_of_length_eq_zero hc.1
 obtain ⟨x,q⟩:=a1
 obtain rfl : x = false:=hc.2
 have hargs : args.map AV.ag0 = [sA [],.agg [bA false,bA q]]:=by
  obtain ⟨x,t,h1,h2,y,t2,h3,⟨cs,h4,h6⟩,h5⟩:=ha
  rw [h1,h3,h5,show x = _ from h2,h4]
  obtain ⟨b1,t1,rfl,e1,b2,t2,rfl,e2,e3⟩:=h6
  rw [show b1 = _ from e1,show b2 = _ from e2,show t2 = _ from e3]
  rfl
 unfold b73
 rw [hargs]
 have run : al9 Tryz.prog 120 F.aD5 [sA [],.agg [bA false,bA q]] .bare = some (.ret (loadA q),none):=by
  cases q with
  | false=>exact c04
  | true=>exact cV6
 refine ⟨loadA q,ai7.2 ⟨120,run⟩,_,rfl,_,_,rfl,?_,_,_,rfl,RelC.nil _ _,_,_,rfl,rfl,_,_,rfl,rfl,rfl⟩
 show RelC (vref ac5 (some (eFlat q))) _
 unfold vref RelC
 exact ⟨[bA q,nS,nS,iA 0],[bA q,nS,iA 0],rfl,o8 ai3 (o8 (RelC.nil _ _) (o8 (RelC.nil _ _) (o8 aa8 au9))),rfl⟩
theorem cG9 [Cfg] {P : Program} {f : FuncId} {k : List AV → AS → Option (AE × Upd)} (hg : Cfg.given f = some k) (args : List AV) (S : AS) : al9 P 1 f args S = k args S:=by
 unfold al9
 rw [hg]
theorem list_ok : S.al3 Tryz.prog al3:=by
 intro a0 r h S args F hat hnd hlv
 have h : (if a0.lines.length = 0 then some [] else none) = some r:=h
 split at h
 case isFalse=>cases h
 rename_i hc
 cases h
 obtain ⟨ls⟩:=a0
 obtain rfl : ls = []:=List.eq_nil_of_length_eq_zero hc
 obtain ⟨a,t,F1,F2,ha,rfl,h2,h3⟩:=hat
 obtain ⟨rfl,rfl⟩:=h3
 unfold AtA AtO at h2
 obtain ⟨q,k,cs,F',rfl,rfl,g1,g2⟩:=h2
 obtain ⟨b,rfl⟩ : ∃ b,args = [b]:=by
  match args,ha with
  | [],ha=>simp at ha
  | [b],_=>exact ⟨b,rfl⟩
  | b :: c :: r,ha=>simp at ha
 have hb : b = .ptr q k 0 0:=by
  have : b.ag0 = .ptr q k 0 0:=by simpa using ha
  cases b <;> simp [AV.ag0,AV.av9] at this ⊢
  exact this
 subst hb
 have g2 : AtL S q k 0 [Mp.o Mp.ks _ []] cs F':=g2
 unfold AtL at g2
 obtain ⟨a1,t1,F3,F4,rfl,rfl,g3,g4⟩:=g2
 unfold AtL at g4
 obtain ⟨rfl,rfl⟩:=g4
 unfold AtO at g3
 obtain ⟨p,m,es,ck,F5,rfl,rfl,g5,g6,_,_,_⟩:=g3
 have hes : es = []:=by simpa using g6
 subst hes
 refine ⟨.lit (.slice none 0 0),ai7.2 ⟨1,?_⟩,RelC.nil _ _⟩
 rw [cG9 (f:=F.al3) (k:=aR1) rfl]
 simp only [aR1,g1,g5,and_self,if_true]
instance codeAll : ae4 Tryz.prog where
 ai6:=by kernel_rfl
 ae3:=by kernel_rfl
 an6:=by kernel_rfl
 o9:=by kernel_rfl
 x8:=by kernel_rfl
 ae6:=by kernel_rfl
 ag7:=by kernel_rfl
 aa7:=by kernel_rfl
 x9:=by kernel_rfl
 ab3:=by kernel_rfl
 ae0:=by kernel_rfl
 ac4:=by kernel_rfl
 ab2:=by kernel_rfl
 ac9:=by kernel_rfl
 ag2:=by kernel_rfl
 ai1:=by kernel_rfl
 af6:=by kernel_rfl
 ak3:=by kernel_rfl
 ad9:=by kernel_rfl
 ab6:=by kernel_rfl
 ad5:=by kernel_rfl
 aa5:=by kernel_rfl
 ad3:=by kernel_rfl
 ac6:=by kernel_rfl
 ab5:=by kernel_rfl
 ad6:=by kernel_rfl
 ad4:=by kernel_rfl
 ab4:=by kernel_rfl
 ae7:=by kernel_rfl
 aa4:=by kernel_rfl
 am6:=by kernel_rfl
 b07:=by kernel_rfl
 aU6:=by kernel_rfl
 av7:=by kernel_rfl
 aj2:=by kernel_rfl
 ext_law16_Made:=made_ok
 ext_strings_Split:=fun a0 a1 r h k0 args ha=>(split_ok rfl a0 a1 r h k0 args ha).b
 ext_slices_Clone_int_int:=fun a0 r h k0 args ha=>(cd4 (e:=3) (n:=1) (by':=8) (t:=38) (tb:=4) rfl (by kernel_rfl) (fun _=>rfl) (fun _=>rfl) (by kernel_rfl) rfl a0 r h k0 args ha).b
 ext_slices_Clone_mach_Item_mach_Item:=fun a0 r h k0 args ha=>(cd4 (e:=122) (n:=2) (by':=24) (t:=45) (tb:=4) rfl (by kernel_rfl) (fun _=>rfl) (fun _=>rfl) (by kernel_rfl) rfl a0 r h k0 args ha).b
 ext_run_Load:=load_ok
 ext_files_Files_List:=list_ok
 ext_slices_Clone_string_string:=fun a0 r h k0 args ha=>(cd4 (e:=9) (n:=1) (by':=16) (t:=22) (tb:=4) rfl (by kernel_rfl) (fun _=>rfl) (fun _=>rfl) (by kernel_rfl) rfl a0 r h k0 args ha).b
 lies_80_4:=by kernel_rfl
 un_33:=by kernel_rfl
 ms_38:=mkSl_of (by kernel_rfl) (by kernel_rfl)

 bld:=⟨bldFacts,by kernel_rfl,by kernel_rfl,by kernel_rfl,rfl,rfl,rfl,rfl,rfl,rfl,rfl,rfl,by kernel_rfl,rfl⟩
 ext_law19_awake r h:=by
  cases h
  exact ⟨_,ai7.2 ⟨400,cE1⟩,rfl⟩
 ext_law20_awake r h:=by
  cases h
  exact ⟨_,ai7.2 ⟨400,cE5⟩,rfl⟩
open Go.ChangeShapes Go.WideShapes Go.ChangeAt Go.RowKit
def bJ7 (P : Program) (ts : List TypeId) : Bool:=ts.all fun t=>P.readableRec t && decide (t < P.types.size)
theorem bO2 {H : Type} {enc : TypeId × Value → H} {P : Program} (hl : laidOutB P = true) {W W' : World} (hb : Below W.heap.size W W') :
  ∀ {ts : List TypeId} {vs : List Value} {ds : List (DataW H)} {ps : List MemPlace},bJ7 P ts = true → (∀ p ∈ ps,p.block < W.heap.size) →
   DataW.TrodAll enc P W 0 (fun _=>true) true ts vs ds ps → DataW.TrodAll enc P W' 0 (fun b=>decide (b < W.heap.size)) true ts vs ds ps
 | [],[],[],_,_,_,h=>h
 | t :: ts,v :: vs,d :: ds,ps,hr,hlt,h=>by
  obtain ⟨p,q,h1,h2,rfl⟩:=h
  simp only [bJ7,List.all_cons,Bool.and_eq_true,decide_eq_true_eq] at hr
  exact ⟨p,q,Below.trod hl hr.1.1 hr.1.2 h1 hb (fun x hx=>hlt x (List.mem_append_left _ hx)),
   bO2 hl hb (by simpa [bJ7] using hr.2) (fun x hx=>hlt x (List.mem_append_right _ hx)) h2,rfl⟩
 | [],_ :: _,_,_,_,_,h=>by cases h
 | [],[],_ :: _,_,_,_,h=>by cases h
 | _ :: _,[],_,_,_,_,h=>by cases h
 | _ :: _,_ :: _,[],_,_,_,h=>by cases h
theorem db6 {H : Type} {enc : TypeId × Value → H} {P : Program} {f : Func} {s : ChangeSpec} {W W' : World} {args : Array Value} {ds gs : List (DataW H)} {before : List MemPlace} {tb : TypeId}
  (hl : laidOutB P = true) (hrow : bJ7 P f.params.toList = true) (hres : f.resultTypes = #[tb]) (htb : P.underlying tb = some .bool) (hv : s.vars = [])
  (hs : ∀ x : List (DataW H),x.length = ds.length → s.fn H x = { results:=[.lit (.bool true)],args:=x }) (hW : DataW.Whole enc P f.params.toList s.vars false W args.toList ds gs before) (hb : Below W.heap.size W W') :
  s.post enc P f false true false false W args (.bool true) W':=by
 have hlt:=hW.lt
 have hW':=hW
 obtain ⟨p,q,hA,hV,rfl,_⟩:=hW
 rw [hv] at hV
 obtain ⟨rfl,rfl⟩:=trodVars_none hV
 have e:=hs ds rfl
 refine ⟨ds,[],p ++ [],[],p,[],hW',?_,?_,?_,hb.frame _,fun h=>by cases h⟩
 ·rw [List.append_nil,e,hres]
  exact trodAll_mk1 (shut_bool htb _)
 ·rw [List.append_nil,e]
  exact bO2 hl hb hrow (fun x hx=>hlt x (by simpa using hx)) hA
 ·rw [List.append_nil,e,hv]
  rfl
open Go.ChangeShapes Go.WideShapes Go.ChangeAt Go.RowKit Go.Deep
theorem own : ownKnob Tryz.prog.godebug = none:=by kernel_rfl
theorem laidOut : laidOutB Tryz.prog = true:=by kernel_rfl
mutual
def bu2 : DataW Unit → List Value
 | .lit (.int k n)=>[.int k n]
 | .agg l=>cz8 l
 | _=>[]
def cz8 : List (DataW Unit) → List Value
 | []=>[]
 | d :: r=>bu2 d ++ cz8 r
end
def putCells (cs : Array Value) : Obj → Obj
 | .cells _ t frozen=>.cells cs t frozen
 | o=>o
noncomputable def laidWorld (os : Os) : World :=
 { World.holding Tryz.prog os ⟨#[],#[],[]⟩ with heap:=(((((World.holding Tryz.prog os ⟨#[],#[],[]⟩).heap.modify 2 (putCells (bu2 Go.Pinned.utf8First).toArray)).modify 3 (putCells (bu2 Rows.laid_unicode_utf8_acceptRanges).toArray)).modify 4 (putCells (bu2 Rows.laid_math_bits_deBruijn32tab).toArray)).modify 5 (putCells (bu2 Rows.laid_math_bits_deBruijn64tab).toArray)).modify 1 (putCells (bu2 Rows.laid_internal_strconv_uint64pow10).toArray) }
def deB : List Int:=[0,1,56,2,57,49,28,3,61,58,42,50,38,29,17,4,62,47,59,36,45,43,51,22,53,39,33,30,24,18,12,5,63,55,48,27,60,41,37,16,46,35,44,21,52,32,23,11,54,26,40,15,34,20,31,10,25,14,19,9,13,8,7,6]
theorem deB_eq : (Rows.laid_math_bits_deBruijn64tab : DataW Unit) = Go.Lib.tabData .u8 deB:=by kernel_rfl
theorem tabs (W : World) (h : laidMet Tryz.prog Rows.machPlainRow.laid W) (hsh : W.ShapedOpen Tryz.prog) : ∀ x ∈ Cfg.tabs,∃ v,W.cell? ⟨x.1,x.2.1,none⟩ = some v ∧ x.2.2 v:=by
 obtain ⟨ps,⟨_,_,_,_,_,q1,_,_,_,_,⟨g,t,cs,fuel,p,q,hg,ht,hvar,hd,_,_⟩,_⟩,_⟩:=h
 have hg' : Tryz.prog.globalNamed "math/bits.deBruijn64tab" = some 5 := by kernel_rfl
 obtain rfl:=Option.some.inj (hg'.symm.trans hg)
 have ht' : (Tryz.prog.globals[5]?).map (·.type) = some 450:=by kernel_rfl
 obtain rfl:=Option.some.inj (ht'.symm.trans ht)
 rw [deB_eq] at hd
 have hT : Go.Lib.TabIs Tryz.prog W "math/bits.deBruijn64tab" .u8 deB := by
  unfold Go.Lib.TabIs
  rw [hvar,← Go.Lib.cells_of_tab (e:=5) (n:=64) (by kernel_rfl) (by kernel_rfl) (by kernel_rfl) (by kernel_rfl) hd]
 have hc:=hT.cell hg' 7 (by decide)
 obtain ⟨m,hm⟩:=Tryz.laysM146.s1_3 W hsh
 intro x hx
 have hx' : x ∈ [(5,7,fun v=>v = Value.int .u8 3),(0,0,fun v=>∃ m,v = Value.int .i64 m)]:=hx
 rcases List.mem_cons.1 hx' with rfl | hx'
 ·exact ⟨_,hc,rfl⟩
 ·rw [List.mem_singleton] at hx'
  subst hx'
  exact ⟨_,hm,m,rfl⟩
theorem relC_sl {sz : Nat} {es : List (List V)} {as1 : List (List AV)} (k : Option (Option Addr)) (h : ae5 es as1) : RelC (.sl sz es) (slV sz as1 k):=by
 rcases aQ0 sz as1 k with e | ⟨e,a,e'⟩
 ·rw [e]; exact RelC.list rfl h
 ·subst e
  rw [e']
  cases es with
  | nil=>exact RelC.nil _ _
  | cons=>unfold ae5 at h; obtain ⟨_,_,h,_⟩:=h; cases h
abbrev shT : Sh:=.seq .str
theorem c94 (y : shT.Ty) : RelC (.sl 1 (List.map aa6 y.1)) (slV 1 (y.1.map Sh.str.avs) y.2) :=
 relC_sl _ (bD2 aa6 Sh.str.avs (fun _=>o8 ag6 au9) y.1)
open Go.RowKit
noncomputable section
end
open Go.RowKit
noncomputable section
def ae3 (a0 : D.y9) : Option (D.y9 × D.y9) :=
 some (a0,a0)
def an6 (a0 : List UInt8) : Option (List (List UInt8)) :=
 (strings_Split a0 [10]).bind fun x_1 =>
 some x_1
def aT6 (p11 : (List D.al7)) (p12 : Int) : (D.y9 × Int) → Option (Ctl (D.y9 × Int) D.y9 D.y9):=fun (q_i2,p13) =>
 (if p13 < p12 then (G.idx p11 p13).bind fun x_9 =>
 none else some (.brk q_i2))
def ag2 (a0 : (List D.al7)) : Option D.y9 :=
 (Loop (aT6 a0 (a0.length : Int)) ((D.y9.mk []),0)).bind fun o=>(match o with
 | .brk q_i2b_19=>some q_i2b_19
 | .ret r=>some r)
end
open Go.RowKit
noncomputable section
end
open Go.RowKit
noncomputable section
def aw1 (p0 : Int) (p2 : Int) : Option Int :=
 (if p0 ≥ 256 then (G.shrK .u64 p0 8).bind fun x_8 =>
 (G.idxS [0,1,2,2,3,3,3,3,4,4,4,4,4,4,4,4,5,5,5,5,5,5,5,5,5,5,5,5,5,5,5,5,6,6,6,6,6,6,6,6,6,6,6,6,6,6,6,6,6,6,6,6,6,6,6,6,6,6,6,6,6,6,6,6,7,7,7,7,7,7,7,7,7,7,7,7,7,7,7,7,7,7,7,7,7,7,7,7,7,7,7,7,7,7,7,7,7,7,7,7,7,7,7,7,7,7,7,7,7,7,7,7,7,7,7,7,7,7,7,7,7,7,7,7,7,7,7,7,8,8,8,8,8,8,8,8,8,8,8,8,8,8,8,8,8,8,8,8,8,8,8,8,8,8,8,8,8,8,8,8,8,8,8,8,8,8,8,8,8,8,8,8,8,8,8,8,8,8,8,8,8,8,8,8,8,8,8,8,8,8,8,8,8,8,8,8,8,8,8,8,8,8,8,8,8,8,8,8,8,8,8,8,8,8,8,8,8,8,8,8,8,8,8,8,8,8,8,8,8,8,8,8,8,8,8,8,8,8,8,8,8,8,8,8,8,8,8,8,8,8,8,8,8,8,8,8] (IntKind.u8.wrap x_8)).bind fun x_10 =>
 some (G.addI (G.addI p2 8) (IntKind.i64.wrap x_10)) else (G.idxS [0,1,2,2,3,3,3,3,4,4,4,4,4,4,4,4,5,5,5,5,5,5,5,5,5,5,5,5,5,5,5,5,6,6,6,6,6,6,6,6,6,6,6,6,6,6,6,6,6,6,6,6,6,6,6,6,6,6,6,6,6,6,6,6,7,7,7,7,7,7,7,7,7,7,7,7,7,7,7,7,7,7,7,7,7,7,7,7,7,7,7,7,7,7,7,7,7,7,7,7,7,7,7,7,7,7,7,7,7,7,7,7,7,7,7,7,7,7,7,7,7,7,7,7,7,7,7,7,8,8,8,8,8,8,8,8,8,8,8,8,8,8,8,8,8,8,8,8,8,8,8,8,8,8,8,8,8,8,8,8,8,8,8,8,8,8,8,8,8,8,8,8,8,8,8,8,8,8,8,8,8,8,8,8,8,8,8,8,8,8,8,8,8,8,8,8,8,8,8,8,8,8,8,8,8,8,8,8,8,8,8,8,8,8,8,8,8,8,8,8,8,8,8,8,8,8,8,8,8,8,8,8,8,8,8,8,8,8,8,8,8,8,8,8,8,8,8,8,8,8,8,8,8,8,8,8] (IntKind.u8.wrap p0)).bind fun x_12 =>
 some (G.addI p2 (IntKind.i64.wrap x_12)))
def aw2 (p0 : Int) (p2 : Int) : Option Int :=
 (if p0 ≥ 65536 then (G.shrK .u64 p0 16).bind fun x_5 =>
 aw1 x_5 (G.addI p2 16) else aw1 p0 p2)
def ae6 (a0 : Int) : Option Int :=
 (if a0 ≥ 4294967296 then (G.shrK .u64 a0 32).bind fun x_2 =>
 aw2 x_2 32 else aw2 a0 0)
def ag7 (a0 : Int) : Option Int :=
 (ae6 a0).bind fun x_1 =>
 some x_1
end
open Go.RowKit
noncomputable section
def ak9 (p0 : (List (List UInt8))) (p1 : Int) (p2 : Int) (p6 : Int) : Int → Option (Ctl Int Unit (Ctl Int Unit Unit)):=fun p7 =>
 (G.when (decide (p7 > p1)) (G.idx p0 p7) []).bind fun x_10 =>
 (G.when (decide (p7 > p1)) (G.idx p0 (G.subI p7 1)) []).bind fun x_29 =>
 (if decide (p7 > p1) = true then none else (if ((decide (p7 > p1)) && false) = true then (G.idx p0 (G.subI p7 1)).bind fun x_41 =>
 (G.idx p0 p7).bind fun x_45 =>
 (G.idx p0 p7).bind fun x_49 =>
 none else some (.brk ())))
def ah7 (p0 : (List (List UInt8))) (p1 : Int) (p2 : Int) : Int → Option (Ctl Int Unit Unit):=fun p6 =>
 (if p6 < p2 then (Loop (ak9 p0 p1 p2 p6) p6).bind fun o=>(match o with
 | .brk _=>some (.nxt (G.addI p6 1))
 | .ret r=>some r) else some (.brk ()))
def o9 (a0 : (List (List UInt8))) (a1 : Int) (a2 : Int) : Option Unit :=
 (Loop (ah7 a0 a1 a2) (G.addI a1 1)).bind fun o=>(match o with
 | .brk _=>some ()
 | .ret r=>some r)
def an8 (fu : Nat) (rec_slices_pdqsortOrdered_string : (List (List UInt8)) → Int → Int → Int → Option Unit) (p0 : (List (List UInt8))) (p1 : Int) (p2 : Int) (p3 : Int) (p8 : Bool) (p9 : Bool) (p10 : Int) : Option (Ctl (Int × Int × Int × Bool × Bool) Unit Unit) :=
 none
def ah9 (fu : Nat) (rec_slices_pdqsortOrdered_string : (List (List UInt8)) → Int → Int → Int → Option Unit) (p0 : (List (List UInt8))) : (Int × Int × Int × Bool × Bool) → Option (Ctl (Int × Int × Int × Bool × Bool) Unit Unit):=fun (p1,p2,p3,p8,p9) =>
 (if (G.subI p2 p1) ≤ 12 then (o9 p0 p1 p2).bind fun x_2 =>
 some (.ret ()) else (if p3 = 0 then none else (if (!p8) = true then none else an8 fu rec_slices_pdqsortOrdered_string p0 p1 p2 p3 p8 p9 (G.subI p2 p1))))
def ag9 (fu : Nat) (rec_slices_pdqsortOrdered_string : (List (List UInt8)) → Int → Int → Int → Option Unit) (a0 : (List (List UInt8))) (a1 : Int) (a2 : Int) (a3 : Int) : Option Unit :=
 (Loop (ah9 fu rec_slices_pdqsortOrdered_string a0) (a1,a2,a3,true,true)).bind fun o=>(match o with
 | .brk _=>some ()
 | .ret r=>some r)
def x8 : Nat → (List (List UInt8)) → Int → Int → Int → Option Unit
 | 0,_,_,_,_=>none
 | fu + 1,a0,a1,a2,a3=>ag9 fu (x8 fu) a0 a1 a2 a3
def aa7 (fu : Nat) (a0 : (List (List UInt8))) : Option Unit :=
 (ag7 (IntKind.u64.wrap (a0.length : Int))).bind fun x_1 =>
 (x8 fu a0 0 (a0.length : Int) x_1).bind fun x_3 =>
 some ()
def ao1 (p0 : (List (List UInt8))) (p4 : (List (List UInt8))) : (Int × Int) → Option (Ctl (Int × Int) Int (Ctl Int Unit (List (List UInt8)))):=fun (p3,p5) =>
 (if p5 < (p4.length : Int) then (G.idx p4 p5).bind fun x_19 =>
 (G.idx p4 (G.subI p5 1)).bind fun x_23 =>
 (if x_19 ≠ x_23 then (G.idx p4 p5).bind fun x_28 =>
 (G.idx p0 p3).bind fun x_32 =>
 none else some (.nxt (p3,(G.addI p5 1)))) else some (.brk p3))
def an9 (p0 : (List (List UInt8))) : Int → Option (Ctl Int Unit (List (List UInt8))):=fun p3 =>
 (if p3 < (p0.length : Int) then (G.idx p0 p3).bind fun x_5 =>
 (G.idx p0 (G.subI p3 1)).bind fun x_9 =>
 (if x_5 = x_9 then (G.subN p0 p3 p0.length).bind fun x_12 =>
 (Loop (ao1 p0 x_12) (p3,1)).bind fun o=>(match o with
 | .brk p3b_36=>(G.subN p0 p3b_36 p0.length).bind fun x_37 =>
 none
 | .ret r=>some r) else some (.nxt (G.addI p3 1))) else some (.brk ()))
def x9 (a0 : (List (List UInt8))) : Option (List (List UInt8)) :=
 (if (a0.length : Int) < 2 then some a0 else (Loop (an9 a0) 1).bind fun o=>(match o with
 | .brk _=>some a0
 | .ret r=>some r))
def aj2 (a0 : (List (List UInt8))) : Option (List (List UInt8)) :=
 none
end
open Go.RowKit
noncomputable section
def al4 (fu : Nat) (p10 : (List D.ap5)) (p11 : Int) : ((List (List UInt8)) × Int) → Option (Ctl ((List (List UInt8)) × Int) (List (List UInt8)) (List (List UInt8))):=fun (p3,p12) =>
 (if p12 < p11 then (G.idx p10 p12).bind fun x_12 =>
 (if x_12.Command.Name = 119 then (G.app p3 [x_12.Command.Arg]).bind fun x_30 =>
 some (.nxt (x_30,(G.addI p12 1))) else (if x_12.Command.Sub.File ≠ [] then (G.app p3 [x_12.Command.Sub.File]).bind fun x_38 =>
 some (.nxt (x_38,(G.addI p12 1))) else some (.nxt (p3,(G.addI p12 1))))) else some (.brk p3))
def ab3 (fu : Nat) (a0 : (Option D.ad1)) : Option (List (List UInt8)) :=
 (a0).bind fun x_3 =>
 (Loop (al4 fu x_3.Ops (x_3.Ops.length : Int)) ([],0)).bind fun o=>(match o with
 | .brk p3b_44=>(aa7 fu p3b_44).bind fun x_45 =>
 (x9 p3b_44).bind fun x_47 =>
 some x_47
 | .ret r=>some r)
end
open Go.RowKit
noncomputable section
def ae0 (a0 : D.l9) : Option Bool :=
 some (decide (a0.state.Line = (a0.input.length : Int)))
def ac4 (a0 : D.l9) : Option (D.l9 × List UInt8 × Bool) :=
 (ae0 a0).bind fun x_21 =>
 (if x_21 = true then some ((D.l9.mk a0.f a0.regexes a0.input a0.files a0.out (D.aa0.mk a0.state.Op a0.state.Pattern a0.state.Hold a0.state.Flag a0.state.Line a0.state.Ranges a0.state.Queue true)),[],false) else (G.idx a0.input (G.subI (G.addI a0.state.Line 1) 1)).bind fun x_62 =>
 some ((D.l9.mk a0.f a0.regexes a0.input a0.files a0.out (D.aa0.mk a0.state.Op a0.state.Pattern a0.state.Hold a0.state.Flag (G.addI a0.state.Line 1) a0.state.Ranges a0.state.Queue a0.state.Done)),x_62,true))
def ab2 (a0 : D.l9) : Option D.l9 :=
 (ac4 a0).bind fun x_21 =>
 (if x_21.2.2 = true then some (D.l9.mk x_21.1.f x_21.1.regexes x_21.1.input x_21.1.files x_21.1.out (D.aa0.mk 0 x_21.2.1 x_21.1.state.Hold false x_21.1.state.Line x_21.1.state.Ranges x_21.1.state.Queue x_21.1.state.Done)) else some x_21.1)
def ba0 (fu : Nat) (p0 : (Option D.ad1)) (p1 : (List (List UInt8))) (p22 : (List D.ax1)) (p23 : Int) : (D.l9 × D.y9 × Int) → Option (Ctl (D.l9 × D.y9 × Int) (D.l9 × D.y9) (D.y9 × D.l9)):=fun (q_i6,q_i0,p24) =>
 (if p24 < p23 then (G.idx p22 p24).bind fun x_31 =>
 none else some (.brk (q_i6,q_i0)))
def aB3 (fu : Nat) (p0 : (Option D.ad1)) (p40 : (List (List UInt8))) (p41 : Int) : (D.l9 × D.y9 × Int) → Option (Ctl (D.l9 × D.y9 × Int) (D.l9 × D.y9) (D.y9 × D.l9)):=fun (q_i6,q_i0,p42) =>
 (if p42 < p41 then (G.idx p40 p42).bind fun x_45 =>
 (an6 x_45).bind fun x_47 =>
 (G.app q_i6.input x_47).bind fun x_51 =>
 some (.nxt ((D.l9.mk q_i6.f q_i6.regexes x_51 q_i6.files q_i6.out q_i6.state),q_i0,(G.addI p42 1))) else some (.brk (q_i6,q_i0)))
def aZ0 (fu : Nat) (p0 : (Option D.ad1)) (p58 : (List (List UInt8))) (p59 : Int) : (D.l9 × D.y9 × Int) → Option (Ctl (D.l9 × D.y9 × Int) (D.l9 × D.y9) (D.y9 × D.l9)):=fun (q_i6,q_i0,p60) =>
 (if p60 < p59 then (G.idx p58 p60).bind fun x_67 =>
 none else some (.brk (q_i6,q_i0)))
def ac9 (fu : Nat) (a0 : (Option D.ad1)) (a1 : (List (List UInt8))) (a2 : D.y9) : Option (D.y9 × D.l9) :=
 (ae3 a2).bind fun x_6 =>
 (a0).bind fun x_22 =>
 (Loop (ba0 fu a0 a1 x_22.Programs (x_22.Programs.length : Int)) ((D.l9.mk a0 [] [] x_6.2 [] (D.aa0.mk 0 [] [] false 0 [] [] false)),x_6.1,0)).bind fun o=>(match o with
 | .brk (q_i6b_41,q_i0b_41)=>(Loop (aB3 fu a0 a1 (a1.length : Int)) (q_i6b_41,q_i0b_41,0)).bind fun o=>(match o with
 | .brk (q_i6b_59,q_i0b_59)=>(ab3 fu a0).bind fun x_60 =>
 (Loop (aZ0 fu a0 x_60 (x_60.length : Int)) (q_i6b_59,q_i0b_59,0)).bind fun o=>(match o with
 | .brk (q_i6b_71,q_i0b_71)=>(a0).bind fun x_74 =>
 (G.make x_74.Ranges 0).bind fun x_78 =>
 (ab2 (D.l9.mk q_i6b_71.f q_i6b_71.regexes q_i6b_71.input q_i6b_71.files q_i6b_71.out (D.aa0.mk q_i6b_71.state.Op q_i6b_71.state.Pattern q_i6b_71.state.Hold q_i6b_71.state.Flag q_i6b_71.state.Line x_78 q_i6b_71.state.Queue q_i6b_71.state.Done))).bind fun x_85 =>
 some (q_i0b_71,x_85)
 | .ret r=>some r)
 | .ret r=>some r)
 | .ret r=>some r)
def ab6 (a0 : D.l9) : Option D.aa0 :=
 (G.emp a0.state.Ranges).bind fun _ =>
 (ah6 a0.state.Ranges).bind fun x_28 =>
 (ab9 a0.state.Queue).bind fun x_33 =>
 some (D.aa0.mk a0.state.Op a0.state.Pattern a0.state.Hold a0.state.Flag a0.state.Line x_28 x_33 a0.state.Done)
def ad5 (a0 : D.l9) (a1 : List UInt8) : Option D.l9 :=
 (G.app a0.out a1).bind fun x_20 =>
 (G.appB x_20 10).bind fun x_27 =>
 some (D.l9.mk a0.f a0.regexes a0.input a0.files x_27 a0.state)
def as3 (p11 : Int) : (D.l9 × Int) → Option (Ctl (D.l9 × Int) D.l9 D.l9):=fun (q_i0,p12) =>
 (if p12 < p11 then (G.idx q_i0.state.Queue p12).bind fun x_25 =>
 (if (!x_25.File) = true then (G.app q_i0.out x_25.Text).bind fun x_32 =>
 some (.nxt ((D.l9.mk q_i0.f q_i0.regexes q_i0.input q_i0.files x_32 q_i0.state),(G.addI p12 1))) else none) else some (.brk q_i0))
def aa5 (a0 : D.l9) : Option D.l9 :=
 (Loop (as3 (a0.state.Queue.length : Int)) (a0,0)).bind fun o=>(match o with
 | .brk q_i0b_41=>some (D.l9.mk q_i0b_41.f q_i0b_41.regexes q_i0b_41.input q_i0b_41.files q_i0b_41.out (D.aa0.mk q_i0b_41.state.Op q_i0b_41.state.Pattern q_i0b_41.state.Hold q_i0b_41.state.Flag q_i0b_41.state.Line q_i0b_41.state.Ranges [] q_i0b_41.state.Done))
 | .ret r=>some r)
def ad3 (a0 : D.l9) : Option D.l9 :=
 (a0.f).bind fun x_22 =>
 (if (!x_22.Quiet) = true then (ad5 a0 a0.state.Pattern).bind fun x_28 =>
 (aa5 x_28).bind fun x_33 =>
 some x_33 else (aa5 a0).bind fun x_39 =>
 some x_39)
def ac6 (a0 : D.l9) (a1 : D.ap5) : Option (D.l9 × Bool) :=
 (if a1.Range ≥ 0 then none else (if a1.Command.Guard.A.Kind ≠ 0 then none else some (a0,(!a1.Command.Guard.Not))))
def ao8 (jq_i8 : D.ap5) (jq_i0 : D.l9) (jp144 : Bool) : Option (D.l9 × Bool) :=
 (if jp144 = true then (if (decide (jq_i0.state.Flag = (decide (jq_i8.Command.Name = 116))) != false) = true then some ((D.l9.mk jq_i0.f jq_i0.regexes jq_i0.input jq_i0.files jq_i0.out (D.aa0.mk jq_i8.To jq_i0.state.Pattern jq_i0.state.Hold false jq_i0.state.Line jq_i0.state.Ranges jq_i0.state.Queue jq_i0.state.Done)),true) else some ((D.l9.mk jq_i0.f jq_i0.regexes jq_i0.input jq_i0.files jq_i0.out (D.aa0.mk (G.addI jq_i0.state.Op 1) jq_i0.state.Pattern jq_i0.state.Hold false jq_i0.state.Line jq_i0.state.Ranges jq_i0.state.Queue jq_i0.state.Done)),true)) else some (jq_i0,false))
def ab5 (a0 : D.l9) (a1 : D.ap5) : Option (D.l9 × Bool) :=
 (if a1.Command.Name = 100 then none else (if a1.Command.Name = 68 then none else (if a1.Command.Name = 99 then (if ((decide (a1.Range < 0)) || a1.Command.Guard.Not) = true then (if (((decide (a1.Range < 0)) || a1.Command.Guard.Not) || false) = true then (G.app a0.out a1.Command.Arg).bind fun x_65 =>
 none else none) else (G.idx a0.state.Ranges a1.Range).bind fun x_72 =>
 (if (((decide (a1.Range < 0)) || a1.Command.Guard.Not) || (decide (x_72 = 0))) = true then (G.app a0.out a1.Command.Arg).bind fun x_79 =>
 none else none)) else (if a1.Command.Name = 113 then (ad3 a0).bind fun x_88 =>
 some ((D.l9.mk x_88.f x_88.regexes x_88.input x_88.files x_88.out (D.aa0.mk x_88.state.Op x_88.state.Pattern x_88.state.Hold x_88.state.Flag x_88.state.Line x_88.state.Ranges x_88.state.Queue true)),true) else (if a1.Command.Name = 81 then some ((D.l9.mk a0.f a0.regexes a0.input a0.files a0.out (D.aa0.mk a0.state.Op a0.state.Pattern a0.state.Hold a0.state.Flag a0.state.Line a0.state.Ranges a0.state.Queue true)),true) else (if a1.Command.Name = 110 then (ad3 a0).bind fun x_115 =>
 (ac4 x_115).bind fun x_120 =>
 (if x_120.2.2 = true then some ((D.l9.mk x_120.1.f x_120.1.regexes x_120.1.input x_120.1.files x_120.1.out (D.aa0.mk (G.addI x_120.1.state.Op 1) x_120.2.1 x_120.1.state.Hold x_120.1.state.Flag x_120.1.state.Line x_120.1.state.Ranges x_120.1.state.Queue x_120.1.state.Done)),true) else some (x_120.1,true)) else (if a1.Command.Name = 78 then (aa5 a0).bind fun x_146 =>
 (ac4 x_146).bind fun x_151 =>
 (if x_151.2.2 = true then (G.catS [10] x_151.2.1).bind fun x_174 =>
 (G.catS x_151.1.state.Pattern x_174).bind fun x_176 =>
 some ((D.l9.mk x_151.1.f x_151.1.regexes x_151.1.input x_151.1.files x_151.1.out (D.aa0.mk (G.addI x_151.1.state.Op 1) x_176 x_151.1.state.Hold x_151.1.state.Flag x_151.1.state.Line x_151.1.state.Ranges x_151.1.state.Queue x_151.1.state.Done)),true) else some (x_151.1,true)) else (if a1.Command.Name = 98 then some ((D.l9.mk a0.f a0.regexes a0.input a0.files a0.out (D.aa0.mk a1.To a0.state.Pattern a0.state.Hold a0.state.Flag a0.state.Line a0.state.Ranges a0.state.Queue a0.state.Done)),true) else (if a1.Command.Name = 116 then ao8 a1 a0 (decide (a1.Command.Name = 116)) else ao8 a1 a0 (decide (a1.Command.Name = 84)))))))))))
def ad6 (a0 : D.l9) (a1 : D.ap5) : Option D.l9 :=
 (if a1.Command.Name = 103 then some (D.l9.mk a0.f a0.regexes a0.input a0.files a0.out (D.aa0.mk a0.state.Op a0.state.Hold a0.state.Hold a0.state.Flag a0.state.Line a0.state.Ranges a0.state.Queue a0.state.Done)) else (if a1.Command.Name = 71 then (G.catS [10] a0.state.Hold).bind fun x_33 =>
 (G.catS a0.state.Pattern x_33).bind fun x_35 =>
 some (D.l9.mk a0.f a0.regexes a0.input a0.files a0.out (D.aa0.mk a0.state.Op x_35 a0.state.Hold a0.state.Flag a0.state.Line a0.state.Ranges a0.state.Queue a0.state.Done)) else (if a1.Command.Name = 104 then some (D.l9.mk a0.f a0.regexes a0.input a0.files a0.out (D.aa0.mk a0.state.Op a0.state.Pattern a0.state.Pattern a0.state.Flag a0.state.Line a0.state.Ranges a0.state.Queue a0.state.Done)) else (if a1.Command.Name = 72 then (G.catS [10] a0.state.Pattern).bind fun x_41 =>
 (G.catS a0.state.Hold x_41).bind fun x_43 =>
 some (D.l9.mk a0.f a0.regexes a0.input a0.files a0.out (D.aa0.mk a0.state.Op a0.state.Pattern x_43 a0.state.Flag a0.state.Line a0.state.Ranges a0.state.Queue a0.state.Done)) else (if a1.Command.Name = 120 then some (D.l9.mk a0.f a0.regexes a0.input a0.files a0.out (D.aa0.mk a0.state.Op a0.state.Hold a0.state.Pattern a0.state.Flag a0.state.Line a0.state.Ranges a0.state.Queue a0.state.Done)) else (if a1.Command.Name = 122 then some (D.l9.mk a0.f a0.regexes a0.input a0.files a0.out (D.aa0.mk a0.state.Op [] a0.state.Hold a0.state.Flag a0.state.Line a0.state.Ranges a0.state.Queue a0.state.Done)) else (if a1.Command.Name = 121 then none else (if a1.Command.Name = 115 then none else some a0))))))))
def ad4 (a0 : D.l9) (a1 : D.ap5) : Option D.l9 :=
 (if a1.Command.Name = 61 then none else (if a1.Command.Name = 97 then (G.app a0.state.Queue [(D.ao9.mk false a1.Command.Arg)]).bind fun x_38 =>
 some (D.l9.mk a0.f a0.regexes a0.input a0.files a0.out (D.aa0.mk a0.state.Op a0.state.Pattern a0.state.Hold a0.state.Flag a0.state.Line a0.state.Ranges x_38 a0.state.Done)) else (if a1.Command.Name = 114 then (G.app a0.state.Queue [(D.ao9.mk true a1.Command.Arg)]).bind fun x_52 =>
 some (D.l9.mk a0.f a0.regexes a0.input a0.files a0.out (D.aa0.mk a0.state.Op a0.state.Pattern a0.state.Hold a0.state.Flag a0.state.Line a0.state.Ranges x_52 a0.state.Done)) else (if a1.Command.Name = 105 then (G.app a0.out a1.Command.Arg).bind fun x_60 =>
 some (D.l9.mk a0.f a0.regexes a0.input a0.files x_60 a0.state) else (if a1.Command.Name = 108 then none else (if a1.Command.Name = 112 then (ad5 a0 a0.state.Pattern).bind fun x_71 =>
 some x_71 else (if a1.Command.Name = 80 then none else (if a1.Command.Name = 119 then none else some a0))))))))
def ab4 (a0 : D.l9) : Option (D.l9 × Bool) :=
 (if a0.state.Done = true then some (a0,false) else (a0.f).bind fun x_24 =>
 (if a0.state.Op ≥ (x_24.Ops.length : Int) then (ad3 a0).bind fun x_32 =>
 (ab2 x_32).bind fun x_37 =>
 some (x_37,true) else (a0.f).bind fun x_44 =>
 (G.idx x_44.Ops a0.state.Op).bind fun x_52 =>
 (ac6 a0 x_52).bind fun x_67 =>
 (if (!x_67.2) = true then some ((D.l9.mk x_67.1.f x_67.1.regexes x_67.1.input x_67.1.files x_67.1.out (D.aa0.mk x_52.Else x_67.1.state.Pattern x_67.1.state.Hold x_67.1.state.Flag x_67.1.state.Line x_67.1.state.Ranges x_67.1.state.Queue x_67.1.state.Done)),true) else (ab5 x_67.1 x_52).bind fun x_91 =>
 (if (!x_91.2) = true then (ad6 (D.l9.mk x_91.1.f x_91.1.regexes x_91.1.input x_91.1.files x_91.1.out (D.aa0.mk (G.addI x_91.1.state.Op 1) x_91.1.state.Pattern x_91.1.state.Hold x_91.1.state.Flag x_91.1.state.Line x_91.1.state.Ranges x_91.1.state.Queue x_91.1.state.Done)) x_52).bind fun x_115 =>
 (ad4 x_115 x_52).bind fun x_120 =>
 some (x_120,true) else some (x_91.1,true)))))
def ae7 (a0 : D.l9) : Option (List UInt8) :=
 some a0.out
def am6 (a0 : D.l9) : Option (D.l9 × D.y9) :=
 (ae3 a0.files).bind fun x_20 =>
 some ((D.l9.mk a0.f a0.regexes a0.input x_20.1 a0.out a0.state),x_20.2)
end
open Go.RowKit
noncomputable section
def ay1 (p0 : List UInt8) (p7 : Int) : ((List (List UInt8)) × Int × Int) → Option (Ctl ((List (List UInt8)) × Int × Int) ((List (List UInt8)) × Int) (List (List UInt8))):=fun (p3,p4,p8) =>
 (if p8 < p7 then (G.idxS p0 p8).bind fun x_2 =>
 (if x_2 = 10 then (G.subS p0 p4 p8).bind fun x_5 =>
 (G.app p3 [x_5]).bind fun x_10 =>
 some (.nxt (x_10,(G.addI p8 1),(G.addI p8 1))) else some (.nxt (p3,p4,(G.addI p8 1)))) else some (.brk (p3,p4)))
def ai1 (a0 : List UInt8) : Option (List (List UInt8)) :=
 (Loop (ay1 a0 (a0.length : Int)) ([],0,0)).bind fun o=>(match o with
 | .brk (p3b_16,p4b_16)=>(G.subS a0 p4b_16 a0.length).bind fun x_17 =>
 (G.app p3b_16 [x_17]).bind fun x_22 =>
 some x_22
 | .ret r=>some r)
def bj1 (p0 : (List D.aj1)) (p3 : (List D.aj1)) (p4 : Int) (p8 : Int) (p9 : Int) (p17 : Int) : ((List (List UInt8)) × Int) → Option (Ctl ((List (List UInt8)) × Int) (List (List UInt8)) (Ctl ((List D.aj1) × Int) (List D.aj1) (List D.aj1))):=fun (p5,p18) =>
 (if p18 < p17 then (G.idx p0 p4).bind fun x_13 =>
 (G.idx x_13.Lines p18).bind fun x_21 =>
 (ai1 x_21).bind fun x_23 =>
 (G.app p5 x_23).bind fun x_27 =>
 some (.nxt (x_27,(G.addI p18 1))) else some (.brk p5))
def aU4 (p0 : (List D.aj1)) (p8 : Int) : ((List D.aj1) × Int) → Option (Ctl ((List D.aj1) × Int) (List D.aj1) (List D.aj1)):=fun (p3,p9) =>
 (if p9 < p8 then (G.idx p0 p9).bind fun x_4 =>
 (Loop (bj1 p0 p3 p9 p8 p9 (x_4.Lines.length : Int)) ([],0)).bind fun o=>(match o with
 | .brk p5b_33=>(G.idx p0 p9).bind fun x_36 =>
 none
 | .ret r=>some r) else some (.brk p3))
def af6 (a0 : (List D.aj1)) : Option (List D.aj1) :=
 (Loop (aU4 a0 (a0.length : Int)) ([],0)).bind fun o=>(match o with
 | .brk p3b_42=>some p3b_42
 | .ret r=>some r)
end
open Go.RowKit
noncomputable section
def ak3 (a0 : D.aa9) : Option D.aa9 :=
 (if a0.S.Line = (a0.Input.length : Int) then some { a0 with S:={ a0.S with Done:=true } } else (G.idx a0.Input a0.S.Line).bind fun x_20 =>
 (some { a0 with S:={ { a0.S with Pattern:=x_20 } with Line:=(G.addI a0.S.Line 1) } }).bind fun q_28 =>
 some { q_28 with S:={ { q_28.S with Flag:=false } with Op:=0 } })
def aw9 (p1 : (List (List UInt8))) (p16 : Int) (q3 : D.ai2) (q6 : D.aa9) : (Int × D.aa9) → Option (Ctl (Int × D.aa9) D.aa9 D.aa9):=fun (p17,q7) =>
 (if p17 < p16 then (G.idx p1 p17).bind fun x_26 =>
 (ai1 x_26).bind fun x_28 =>
 (G.app q7.Input x_28).bind fun x_32 =>
 some (.nxt ((G.addI p17 1),{ q7 with Input:=x_32 })) else some (.brk q7))
def aT7 (p32 : Int) (p33 : Int) (q3 : D.ai2) (q6 : D.aa9) (q7 : D.aa9) (q10 : D.bQ4) : Option (Ctl (Int × D.aa9) D.aa9 D.aa9) :=
 (if q10.Sub.File ≠ [] then none else some (.nxt ((G.addI p33 1),q7)))
def ax3 (p32 : Int) (q3 : D.ai2) (q6 : D.aa9) : (Int × D.aa9) → Option (Ctl (Int × D.aa9) D.aa9 D.aa9):=fun (p33,q7) =>
 (if p33 < p32 then (G.idx q3.Ops p33).bind fun x_53 =>
 (if x_53.Command.Name = 119 then none else aT7 p32 p33 q3 q6 q7 x_53.Command) else some (.brk q7))
def aU5 (p64 : Int) (q6 : D.aa9) : (Int × D.aa9) → Option (Ctl (Int × D.aa9) D.aa9 D.aa9):=fun (p65,q7) =>
 (if p65 < p64 then (G.app q7.S.Ranges [0]).bind fun x_81 =>
 some (.nxt ((G.addI p65 1),{ q7 with S:={ q7.S with Ranges:=x_81 } })) else some (.brk q7))
def ad9 (a0 : D.ai2) (a1 : (List (List UInt8))) (a2 : (List D.aj1)) : Option D.aa9 :=
 (af6 a2).bind fun x_5 =>
 (Loop (aw9 a1 (a1.length : Int) a0 (D.aa9.mk (D.ai2.mk false [] [] [] 0) [] [] [] (D.al8.mk 0 [] [] false 0 [] [] false))) (0,(D.aa9.mk a0 [] x_5 [] (D.al8.mk 0 [] [] false 0 [] [] false)))).bind fun o=>(match o with
 | .brk q7b_43=>(Loop (ax3 (a0.Ops.length : Int) a0 (D.aa9.mk (D.ai2.mk false [] [] [] 0) [] [] [] (D.al8.mk 0 [] [] false 0 [] [] false))) (0,q7b_43)).bind fun o=>(match o with
 | .brk q7b_73=>(Loop (aU5 a0.Ranges (D.aa9.mk (D.ai2.mk false [] [] [] 0) [] [] [] (D.al8.mk 0 [] [] false 0 [] [] false))) (0,q7b_73)).bind fun o=>(match o with
 | .brk q7b_92=>(ak3 q7b_92).bind fun x_95 =>
 some x_95
 | .ret r=>some r)
 | .ret r=>some r)
 | .ret r=>some r)
end
open Go.RowKit
noncomputable section
def ax9 (p0 : (List (List UInt8))) (p5 : (List (List UInt8))) (p6 : Int) : Int → Option (Ctl Int Unit Bool):=fun p7 =>
 (if p7 < p6 then (G.idx p5 p7).bind fun x_4 =>
 (if (x_4.length : Int) > 8 then some (.ret false) else some (.nxt (G.addI p7 1))) else some (.brk ()))
def ai6 (a0 : (List (List UInt8))) : Option Bool :=
 (Loop (ax9 a0 a0 (a0.length : Int)) 0).bind fun o=>(match o with
 | .brk _=>some (decide ((a0.length : Int) ≤ 6))
 | .ret r=>some r)
def am7 (fu : Nat) (p0 : (List (List UInt8))) (p6 : List UInt8) (p7 : Int) (p27 : Int) : (List UInt8 × Int) → Option (Ctl (List UInt8 × Int) (List UInt8) Bool):=fun (p5,p28) =>
 (if p28 < p27 then (G.subS [97,98,99,100,101] p28 (G.addI p28 1)).bind fun x_18 =>
 (G.catS [58] x_18).bind fun x_20 =>
 (G.catS x_20 [10]).bind fun x_22 =>
 (G.catS p5 x_22).bind fun x_24 =>
 some (.nxt (x_24,(G.addI p28 1))) else some (.brk p5))
def am5 (fu : Nat) (p7 : Int) (p13 : (List (List UInt8))) (p60 : (List (List UInt8))) (p61 : Int) : (D.l9 × List UInt8 × Int) → Option (Ctl (D.l9 × List UInt8 × Int) (D.l9 × List UInt8) Bool):=fun (q_i5,p6,p62) =>
 (if p62 < p61 then (G.idx p60 p62).bind fun x_108 =>
 (G.catS x_108 [10]).bind fun x_110 =>
 (G.catS p6 x_110).bind fun x_112 =>
 some (.nxt (q_i5,x_112,(G.addI p62 1))) else some (.brk (q_i5,p6)))
def am4 (fu : Nat) (p6 : List UInt8) (p75 : Int) : (D.l9 × Int) → Option (Ctl (D.l9 × Int) D.l9 Bool):=fun (q_i5,p76) =>
 (if p76 < p75 then (ab6 q_i5).bind fun x_119 =>
 (if x_119.Done = true then (if (x_119.Done || false) = true then some (.ret false) else some (.nxt (q_i5,(G.addI p76 1)))) else (ab4 q_i5).bind fun x_150 =>
 (if (x_119.Done || (!x_150.2)) = true then some (.ret false) else some (.nxt (x_150.1,(G.addI p76 1))))) else some (.brk q_i5))
def aa4 (fu : Nat) (a0 : (List (List UInt8))) (a1 : Int) : Option Bool :=
 (aL2).bind fun x_1 =>
 (G.when (!(!x_1)) (ai6 a0) false).bind fun x_6 =>
 (if ((!x_1) || (!x_6)) = true then (aL2).bind fun x_15 =>
 some x_15 else (Loop (am7 fu a0 [] (Int.tmod (IntKind.i64.wrap a1) 5) (Int.tmod (IntKind.i64.wrap a1) 5)) ([35,32,110,111,116,104,105,110,103,10],0)).bind fun o=>(match o with
 | .brk p5b_28=>(ai8 p5b_28 false).bind fun x_29 =>
 (if (!x_29.2.2) = true then some false else (G.app [] a0).bind fun x_47 =>
 (ag2 []).bind fun x_51 =>
 (ac9 fu x_29.1 x_47 x_51).bind fun x_58 =>
 (if false = true then some false else (ad9 x_29.2.1 a0 []).bind fun x_85 =>
 (Loop (am5 fu (Int.tmod (IntKind.i64.wrap a1) 5) x_85.Input x_85.Input (x_85.Input.length : Int)) (x_58.2,[],0)).bind fun o=>(match o with
 | .brk (q_i5b_116,p6b_116)=>(Loop (am4 fu p6b_116 (G.mulI (x_85.Input.length : Int) (G.addI (Int.tmod (IntKind.i64.wrap a1) 5) 1))) (q_i5b_116,0)).bind fun o=>(match o with
 | .brk q_i5b_176=>(ab6 q_i5b_176).bind fun x_178 =>
 (if x_178.Done = true then (ae7 q_i5b_176).bind fun x_191 =>
 (if (x_178.Done && (decide (x_191 = p6b_116))) = true then (ab4 q_i5b_176).bind fun x_197 =>
 some ((x_178.Done && (decide (x_191 = p6b_116))) && (!x_197.2)) else some ((x_178.Done && (decide (x_191 = p6b_116))) && false)) else (if (x_178.Done && false) = true then (ab4 q_i5b_176).bind fun x_206 =>
 some ((x_178.Done && false) && (!x_206.2)) else some ((x_178.Done && false) && false)))
 | .ret r=>some r)
 | .ret r=>some r)))
 | .ret r=>some r))
end
open Go.RowKit
noncomputable section
def c27 (fu : Nat) (p3 : Int) : (D.l9 × D.ap0 × Int) → Option (Ctl (D.l9 × D.ap0 × Int) (D.l9 × D.ap0 × Int) (D.ap0 × Int)):=fun (q_i4,q_i1,p11) =>
 (if decide (p11 < p3) = true then (ab4 q_i4).bind fun x_20 =>
 (if ((decide (p11 < p3)) && x_20.2) = true then some (.nxt (x_20.1,q_i1,(G.addI p11 1))) else some (.brk (x_20.1,q_i1,p11))) else (if ((decide (p11 < p3)) && false) = true then some (.nxt (q_i4,q_i1,(G.addI p11 1))) else some (.brk (q_i4,q_i1,p11))))
def b07 (fu : Nat) (a0 : (Option D.ad1)) (a1 : (List (List UInt8))) (a2 : (List D.al7)) (a3 : Int) : Option (D.ap0 × Int) :=
 (ag2 a2).bind fun x_2 =>
 (ac9 fu a0 a1 x_2).bind fun x_8 =>
 (Loop (c27 fu a3) (x_8.2,(D.ap0.mk [] [] 0),0)).bind fun o=>(match o with
 | .brk (q_i4b_31,q_i1b_31,p11b_31)=>(ab6 q_i4b_31).bind fun x_32 =>
 (if (!x_32.Done) = true then some ((D.ap0.mk ((D.ap0.mk [] [] 0).Out) ((D.ap0.mk [] [] 0).Files) ((D.ap0.mk [] [] 0).Steps)),21) else (ae7 q_i4b_31).bind fun x_48 =>
 (am6 q_i4b_31).bind fun x_50 =>
 (al3 x_50.2).bind fun x_57 =>
 some ((D.ap0.mk ((D.ap0.mk x_48 x_57 p11b_31).Out) ((D.ap0.mk x_48 x_57 p11b_31).Files) ((D.ap0.mk x_48 x_57 p11b_31).Steps)),0))
 | .ret r=>some r)
def aU6 (fu : Nat) (a0 : List UInt8) (a1 : D.aw7) (a2 : (List (List UInt8))) (a3 : Int) : Option (List UInt8 × Int × Int) :=
 (aD5 a0 a1).bind fun x_4 =>
 (if x_4.2.2.2 ≠ 0 then some ([],x_4.2.2.1,x_4.2.2.2) else (b07 fu x_4.1 a2 [] a3).bind fun x_11 =>
 some (x_11.1.Out,0,x_11.2))
end
end Go.Proofs.YtbinfgmdamlkbaaGreatDoor
