/-
  A part of the proof: packed by a program.
-/
import Derived.Test.YtbinfgmdamlkbaaGreatDoorQP4
set_option maxRecDepth 100000
set_option maxHeartbeats 4000000
set_option linter.unusedVariables false
set_option linter.unusedSimpArgs false
namespace Go.Proofs.YtbinfgmdamlkbaaGreatDoor
open Go.RowKit
noncomputable section
def bQ0 (fu : Nat) (p0 : (List (List UInt8))) (p1 : Bool) (p6 : Int) (p24 : (List (List UInt8))) (p25 : Int) : (List UInt8 × Int) → Option (Ctl (List UInt8 × Int) (List UInt8) Bool):=fun (p5,p26) =>
 (if p26 < p25 then (G.idx p24 p26).bind fun x_18 =>
 (if (x_18.length : Int) > 100 then some (.ret true) else (G.catS x_18 [10]).bind fun x_21 =>
 (G.catS p5 x_21).bind fun x_23 =>
 some (.nxt (x_23,(G.addI p26 1)))) else some (.brk p5))
def bQ2 (fu : Nat) (p0 : (List (List UInt8))) (p1 : Bool) (p5 : List UInt8) (p39 : Int) : (Int × Int) → Option (Ctl (Int × Int) Int Bool):=fun (p6,p40) =>
 (if p40 < p39 then (G.idxS p5 p40).bind fun x_29 =>
 (if x_29 = 10 then some (.nxt ((G.addI p6 1),(G.addI p40 1))) else some (.nxt (p6,(G.addI p40 1)))) else some (.brk p6))
def aX9 (fu : Nat) (p0 : (List (List UInt8))) (p1 : Bool) (p5 : List UInt8) (p6 : Int) : Option Bool :=
 (G.app [] p0).bind fun x_42 =>
 (aU6 fu [] (D.aw7.mk false p1) x_42 p6).bind fun x_46 =>
 (G.app [] p0).bind fun x_54 =>
 (aU6 fu [] (D.aw7.mk false p1) x_54 (G.subI p6 1)).bind fun x_58 =>
 some ((((decide (x_46.1 = p5)) && (decide (x_46.2.1 = 0))) && (decide (x_46.2.2 = 0))) && (decide ((decide (x_58.2.2 = 21)) = (decide (p6 > 0))) != false))
def av7 (fu : Nat) (a0 : (List (List UInt8))) (a1 : Bool) : Option Bool :=
 (aS0).bind fun x_1 =>
 (if ((!x_1) || (decide ((a0.length : Int) > 20))) = true then (aS0).bind fun x_13 =>
 some x_13 else (Loop (bQ0 fu a0 a1 0 a0 (a0.length : Int)) ([],0)).bind fun o=>(match o with
 | .brk p5b_27=>(Loop (bQ2 fu a0 a1 p5b_27 (p5b_27.length : Int)) (0,0)).bind fun o=>(match o with
 | .brk p6b_34=>(if a1 = true then aX9 fu a0 a1 [] p6b_34 else aX9 fu a0 a1 p5b_27 p6b_34)
 | .ret r=>some r)
 | .ret r=>some r))
end
end Go.Proofs.YtbinfgmdamlkbaaGreatDoor
namespace Go.Proofs.YtbinfgmdamlkbaaGreatDoor
open Go.RowKit
theorem Loop_ind {σ β ρ : Type} {body : σ → Option (Ctl σ β ρ)} (I : Nat → σ → Prop) (Q : Out β ρ → Prop)
  (h : ∀ k s,I k s → (∃ s' j,body s = some (.nxt s') ∧ j < k ∧ I j s') ∨ (∃ b,body s = some (.brk b) ∧ Q (.brk b)) ∨ (∃ r,body s = some (.ret r) ∧ Q (.ret r))) : ∀ k s,I k s → ∃ o,Loop body s = some o ∧ Q o:=by
 intro k
 induction k using Nat.strongRecOn with
 | _ k ih =>
  intro s hI
  rcases h k s hI with ⟨s',j,h1,hj,h2⟩ | ⟨b,h1,h2⟩ | ⟨r,h1,h2⟩
  ·obtain ⟨o,k1,k2⟩:=ih j hj s' h2
   obtain ⟨n,hn⟩:=aS3.1 k1
   exact ⟨o,aS3.2 ⟨n + 1,by unfold bQ8; rw [h1]; exact hn⟩,k2⟩
  ·exact ⟨_,aS3.2 ⟨1,by unfold bQ8; rw [h1]⟩,h2⟩
  ·exact ⟨_,aS3.2 ⟨1,by unfold bQ8; rw [h1]⟩,h2⟩
theorem aP6 {σ β ρ : Type} {body : σ → Option (Ctl σ β ρ)} (n : Nat) (I : Nat → σ → Prop) (Q : Out β ρ → Prop)
  (h : ∀ i s,i < n → I i s → (∃ s',body s = some (.nxt s') ∧ I (i + 1) s') ∨ (∃ b,body s = some (.brk b) ∧ Q (.brk b)) ∨ (∃ r,body s = some (.ret r) ∧ Q (.ret r)))
  (hn : ∀ s,I n s → (∃ b,body s = some (.brk b) ∧ Q (.brk b)) ∨ (∃ r,body s = some (.ret r) ∧ Q (.ret r))) {s : σ} (h0 : I 0 s) : ∃ o,Loop body s = some o ∧ Q o:=by
 refine Loop_ind (fun k s=>∃ i,k = n - i ∧ i ≤ n ∧ I i s) Q ?_ n s ⟨0,rfl,Nat.zero_le _,h0⟩
 rintro k s ⟨i,rfl,hi,hI⟩
 rcases Nat.lt_or_ge i n with hlt | hge
 ·rcases h i s hlt hI with ⟨s',h1,h2⟩ | h1
  ·exact .inl ⟨s',n - (i + 1),h1,by omega,i + 1,rfl,hlt,h2⟩
  ·exact .inr h1
 ·obtain rfl : i = n:=by omega
  exact .inr (hn s hI)
namespace G
theorem addI_eq {a b : Int} (h1 : -9223372036854775808 ≤ a + b) (h2 : a + b ≤ 9223372036854775807) : addI a b = a + b:=wrap_i64 h1 h2
theorem subI_eq {a b : Int} (h1 : -9223372036854775808 ≤ a - b) (h2 : a - b ≤ 9223372036854775807) : subI a b = a - b:=wrap_i64 h1 h2
theorem ay2 {i : Nat} (h : i < 9223372036854775807) : addI (i : Int) 1 = ((i + 1 : Nat) : Int):=by rw [addI_eq (by omega) (by omega)]; omega
theorem cF8 {α : Type} (l : List α) (i : Nat) : idx l (i : Int) = l[i]?:=by
 unfold idx
 rw [if_pos (by omega),Int.toNat_natCast]
theorem b96 {α : Type} (l : List α) (i : Nat) (h : i < l.length) : idx l (i : Int) = some l[i]:=by rw [cF8,List.getElem?_eq_getElem h]
theorem b21 {α : Type} {a b : List α} (h : a.length + b.length ≤ 1000000000) : app a b = some (a ++ b):=if_pos h
theorem bX9 {a b : List UInt8} (h : a.length + b.length ≤ 9223372036854775807) : catS a b = some (a ++ b):=if_pos h
theorem c79 {α : Type} (o : Option α) (d : α) : when true o d = o:=rfl
end G
theorem bK2 {α : Type} (l : List α) (i : Nat) (h : i < l.length) : l.take (i + 1) = l.take i ++ [l[i]]:=by
 rw [List.take_add_one,List.getElem?_eq_getElem h]; rfl
open Go.RowKit
theorem bt1 : ∀ l : List UInt8,(cutL l).length ≤ l.length + 1
 | []=>Nat.le_refl _
 | c :: r=>by
  have ih:=bt1 r
  unfold cutL
  split
  ·simp only [List.length_cons]; omega
  ·split <;> rename_i h <;> rw [h] at ih <;> simp only [List.length_cons,List.length_nil] at * <;> omega
theorem cw5 : ∀ (l : List UInt8),∀ s ∈ cutL l,s.length ≤ l.length
 | [],s,h=>by simp [cutL] at h; subst h; exact Nat.le_refl _
 | c :: r,s,h=>by
  have ih:=cw5 r
  unfold cutL at h
  split at h
  ·rcases List.mem_cons.1 h with rfl | h
   ·simp
   ·have:=ih s h; simp only [List.length_cons]; omega
  ·split at h <;> rename_i e <;> rw [e] at ih
   ·rename_i x t
    rcases List.mem_cons.1 h with rfl | h
    ·have:=ih x (List.mem_cons_self ..); simp only [List.length_cons]; omega
    ·have:=ih s (List.mem_cons_of_mem _ h); simp only [List.length_cons]; omega
   ·rcases List.mem_cons.1 h with rfl | h
    ·simp
    ·cases h
theorem idxS_at (l : List UInt8) (i : Nat) (h : i < l.length) : G.idxS l (i : Int) = some ((l[i].toNat : Nat) : Int):=by
 unfold G.idxS
 rw [if_pos (by omega),Int.toNat_natCast,List.getElem?_eq_getElem h]
 rfl
theorem c39 (l : List UInt8) (i j : Nat) (h : i ≤ j) (h' : j ≤ l.length) : G.subS l (i : Int) (j : Int) = some ((l.drop i).take (j - i)):=by
 unfold G.subS
 rw [if_pos ⟨by omega,by omega,by omega⟩]
 simp only [Int.toNat_natCast]
 rw [List.drop_take]
theorem cut_eq (s : List UInt8) (hs : s.length ≤ 100000000) : ai1 s = some (cutL s):=by
 unfold ai1
 obtain ⟨o,h1,out,f,h2,h3,h4,h5,h6⟩:=aP6 (body:=ay1 s (s.length : Int)) s.length
  (fun i x=>∃ out f,x = (out,((f : Nat) : Int),((i : Nat) : Int)) ∧ f ≤ i ∧ out ++ cutL (s.drop f) = cutL s ∧ ∀ c ∈ (s.drop f).take (i - f),c ≠ 10)
  (fun o=>∃ out f,o = .brk (out,((f : Nat) : Int)) ∧ f ≤ s.length ∧ out ++ cutL (s.drop f) = cutL s ∧ (∀ c ∈ (s.drop f).take (s.length - f),c ≠ 10) ∧ out.length ≤ s.length + 1)
  (by
   rintro i x hi ⟨out,f,rfl,hf,h1,h2⟩
   refine .inl ?_
   have hlen : out.length ≤ s.length + 1:=by
    have:=congrArg List.length h1
    have:=bt1 s
    simp only [List.length_append] at *
    omega
   unfold ay1
   simp only
   rw [if_pos (by omega),idxS_at s i hi]
   simp only [Option.bind_some]
   by_cases h10 : s[i] = 10
   ·rw [if_pos (by rw [h10]; rfl),c39 s f i hf (by omega)]
    simp only [Option.bind_some]
    rw [G.b21 (by simp only [List.length_cons,List.length_nil]; omega),Option.bind_some,G.ay2 (by omega)]
    refine ⟨_,rfl,_,i + 1,rfl,Nat.le_refl _,?_,by simp⟩
    rw [← h1,List.append_assoc]
    congr 1
    have e : s.drop f = (s.drop f).take (i - f) ++ 10 :: s.drop (i + 1):=by
     have : (s.drop f).drop (i - f) = 10 :: s.drop (i + 1):=by
      rw [List.drop_drop,show f + (i - f) = i by omega,List.drop_eq_getElem_cons hi,h10]
     rw [← this,List.take_append_drop]
    conv=>rhs; rw [e,ci0 _ _ h2]
    rfl
   ·rw [if_neg (by
     intro e
     apply h10
     have : s[i].toNat = 10:=by omega
     exact UInt8.toNat_inj.1 this),G.ay2 (by omega)]
    refine ⟨_,rfl,out,f,rfl,by omega,h1,?_⟩
    intro c hc
    rw [show i + 1 - f = (i - f) + 1 by omega,bK2 _ _ (by rw [List.length_drop]; omega)] at hc
    rcases List.mem_append.1 hc with hc | hc
    ·exact h2 c hc
    ·rw [List.mem_singleton] at hc
     subst hc
     rw [List.getElem_drop]
     simpa [show f + (i - f) = i by omega] using h10)
  (by
   rintro x ⟨out,f,rfl,hf,h1,h2⟩
   refine .inl ⟨(out,(f : Int)),?_,out,f,rfl,hf,h1,h2,?_⟩
   ·unfold ay1
    simp only
    rw [if_neg (by omega)]
   ·have:=congrArg List.length h1
    have:=bt1 s
    simp only [List.length_append] at *
    omega)
  ⟨[],0,rfl,Nat.le_refl _,rfl,fun c hc=>by simp at hc⟩
 subst h2
 have h1 : Loop (ay1 s (s.length : Int)) ([],0,0) = _:=h1
 rw [h1]
 simp only [Option.bind_some]
 rw [c39 s f s.length h3 (Nat.le_refl _)]
 simp only [Option.bind_some]
 rw [G.b21 (by simp only [List.length_cons,List.length_nil]; omega)]
 simp only [Option.bind_some]
 rw [← h4]
 congr 2
 have e : s.drop f = (s.drop f).take (s.length - f):=by rw [List.take_of_length_le (by rw [List.length_drop]; exact Nat.le_refl _)]
 conv=>rhs; rw [e]
 exact (b30 _ h5).symm
theorem c67 (s : List UInt8) (hs : s.length ≤ 100000000) : an6 s = some (cutL s):=by
 unfold an6 strings_Split G.split
 rw [if_pos ⟨rfl,by omega⟩]
 rfl
open Go.RowKit
theorem a09 {σ β ρ : Type} {body : σ → Option (Ctl σ β ρ)} {s : σ} {b : β} (h : body s = some (.brk b)) : Loop body s = some (.brk b):=aS3.2 ⟨1,by unfold bQ8; rw [h]⟩
def told (l : List (List UInt8)) : List UInt8:=l.flatMap (· ++ [10])
theorem cp9 (l : List (List UInt8)) (i : Nat) (h : i < l.length) : told (l.take (i + 1)) = told (l.take i) ++ (l[i] ++ [10]):=by
 unfold told
 rw [bK2 l i h,List.flatMap_append]
 simp
theorem cK1 (l : List (List UInt8)) (h : ∀ s ∈ l,s.length ≤ 8) : (told l).length ≤ 9 * l.length:=by
 induction l with
 | nil=>simp [told]
 | cons a r ih =>
  have h1:=h a (List.mem_cons_self ..)
  have:=ih fun s hs=>h s (List.mem_cons_of_mem _ hs)
  simp only [told,List.flatMap_cons,List.length_append,List.length_cons,List.length_nil] at *
  omega
structure FewL (a : List (List UInt8)) : Prop where
 len : a.length ≤ 6
 each : ∀ s ∈ a,s.length ≤ 8
theorem few_eq (a : List (List UInt8)) (ha : a.length ≤ 9223372036854775807) : ∃ b,ai6 a = some b ∧ (b = true → FewL a):=by
 unfold ai6
 obtain ⟨o,h1,h2⟩:=aP6 (body:=ax9 a a (a.length : Int)) a.length (fun i x=>x = (i : Int) ∧ ∀ s ∈ a.take i,s.length ≤ 8)
  (fun o=>o = .ret false ∨ ((o = .brk ()) ∧ ∀ s ∈ a,s.length ≤ 8))
  (by
   rintro i x hi ⟨rfl,h⟩
   unfold ax9
   simp only
   rw [if_pos (by omega),G.b96 a i hi]
   simp only [Option.bind_some]
   by_cases hl : a[i].length ≤ 8
   ·rw [if_neg (by omega),G.ay2 (by omega)]
    refine .inl ⟨_,rfl,rfl,fun s hs=>?_⟩
    rw [bK2 a i hi] at hs
    rcases List.mem_append.1 hs with hs | hs
    ·exact h s hs
    ·rw [List.mem_singleton.1 hs]; exact hl
   ·rw [if_pos (by omega)]
    exact .inr (.inr ⟨_,rfl,.inl rfl⟩))
  (by
   rintro x ⟨rfl,h⟩
   unfold ax9
   simp only
   rw [if_neg (by omega)]
   refine .inl ⟨(),rfl,.inr ⟨by trivial,fun s hs=>h s ?_⟩⟩
   rwa [List.take_length])
  ⟨rfl,fun s hs=>by simp at hs⟩
 have h1 : Loop (ax9 a a (a.length : Int)) 0 = _:=h1
 rw [h1]
 rcases h2 with rfl | ⟨rfl,h⟩
 ·exact ⟨false,rfl,fun h=>by cases h⟩
 ·refine ⟨_,rfl,fun e=>⟨?_,h⟩⟩
  have:=of_decide_eq_true e
  omega
def ah8 (a : List (List UInt8)) : List (List UInt8):=a.flatMap cutL
theorem ce1 {a : List (List UInt8)} (h : FewL a) : (ah8 a).length ≤ 54 ∧ ∀ s ∈ ah8 a,s.length ≤ 8:=by
 constructor
 ·have : ∀ l : List (List UInt8),(∀ s ∈ l,s.length ≤ 8) → (ah8 l).length ≤ 9 * l.length:=by
   intro l
   induction l with
   | nil=>intro _; simp [ah8]
   | cons x r ih =>
    intro h
    have h1:=h x (List.mem_cons_self ..)
    have h2:=bt1 x
    have:=ih fun s hs=>h s (List.mem_cons_of_mem _ hs)
    simp only [ah8,List.flatMap_cons,List.length_append,List.length_cons] at *
    omega
  have:=this a h.each
  have:=h.len
  omega
 ·intro s hs
  obtain ⟨x,hx,hs⟩:=List.mem_flatMap.1 hs
  have:=cw5 x s hs
  have:=h.each x hx
  omega
theorem cM0 (a : List (List UInt8)) (i : Nat) (h : i < a.length) : ah8 (a.take (i + 1)) = ah8 (a.take i) ++ cutL a[i]:=by
 unfold ah8
 rw [bK2 a i h,List.flatMap_append]
 simp
theorem cM6 (a : List (List UInt8)) (h : FewL a) (i : Nat) : (ah8 (a.take i)).length ≤ 54 :=
 (ce1 ⟨Nat.le_trans (List.length_take_le' ..) h.len,fun s hs=>h.each s (List.mem_of_mem_take hs)⟩).1
theorem cR7 (f : Option D.ad1) (rg : List (Option D.av4)) (ls : List (List UInt8)) (fl : D.y9) (out : List UInt8) (op : Int) (pat hold : List UInt8) (flag : Bool) (k : Nat) (hk : k < ls.length) (hl : ls.length ≤ 1000000) :
  ab2 (D.l9.mk f rg ls fl out (D.aa0.mk op pat hold flag (k : Int) [] [] false)) = some (D.l9.mk f rg ls fl out (D.aa0.mk 0 ls[k] hold false ((k + 1 : Nat) : Int) [] [] false)):=by
 unfold ab2 ac4 ae0
 simp only [Option.bind_some]
 have e : decide ((k : Int) = (ls.length : Int)) = false:=decide_eq_false (by omega)
 rw [e,if_neg (by decide),G.ay2 (by omega),G.subI_eq (by omega) (by omega),show ((k + 1 : Nat) : Int) - 1 = (k : Int) by omega,G.b96 ls k hk]
 rfl
theorem cW8 (f : Option D.ad1) (rg : List (Option D.av4)) (ls : List (List UInt8)) (fl : D.y9) (out : List UInt8) (op : Int) (pat hold : List UInt8) (flag : Bool) :
  ab2 (D.l9.mk f rg ls fl out (D.aa0.mk op pat hold flag (ls.length : Int) [] [] false)) = some (D.l9.mk f rg ls fl out (D.aa0.mk op pat hold flag (ls.length : Int) [] [] true)):=by
 unfold ab2 ac4 ae0
 simp only [Option.bind_some,decide_true,if_true]
 rfl
inductive bV4 (n : Nat) (ls : List (List UInt8)) : Nat → Nat → D.l9 → Prop
 | go {q r : Nat} {rg : List (Option D.av4)} {fl : D.y9} {hold : List UInt8} {flag : Bool} (hq : q < ls.length) (hr : r ≤ n) : bV4 n ls q r (D.l9.mk (some (ax8 n)) rg ls fl (told (ls.take q)) (D.aa0.mk (r : Int) ls[q] hold flag ((q + 1 : Nat) : Int) [] [] false))
 | done {rg : List (Option D.av4)} {fl : D.y9} {op : Int} {pat hold : List UInt8} {flag : Bool} : bV4 n ls ls.length 0 (D.l9.mk (some (ax8 n)) rg ls fl (told ls) (D.aa0.mk op pat hold flag (ls.length : Int) [] [] true))
theorem b97 (n : Nat) (ls : List (List UInt8)) (rg : List (Option D.av4)) (fl : D.y9) (op : Int) (pat hold : List UInt8) (flag : Bool) (q : Nat) (hq : q ≤ ls.length) (hl : ls.length ≤ 1000000) :
  ∃ m,ab2 (D.l9.mk (some (ax8 n)) rg ls fl (told (ls.take q)) (D.aa0.mk op pat hold flag (q : Int) [] [] false)) = some m ∧ bV4 n ls q 0 m:=by
 by_cases e : q = ls.length
 ·subst e
  refine ⟨_,cW8 ..,?_⟩
  rw [List.take_length]
  exact .done
 ·exact ⟨_,cR7 _ _ _ _ _ _ _ _ _ q (by omega) hl,.go (r:=0) (by omega) (Nat.zero_le _)⟩
theorem cM2 (f : Option D.ad1) (rg : List (Option D.av4)) (ls : List (List UInt8)) (fl : D.y9) (out : List UInt8) (op : Int) (pat hold : List UInt8) (flag : Bool) (k : Int) (d : Bool) :
  ab6 (D.l9.mk f rg ls fl out (D.aa0.mk op pat hold flag k [] [] d)) = some (D.aa0.mk op pat hold flag k [] [] d):=by
 have h1 : ah6 [] = some []:=by decide +kernel
 have h2 : ab9 [] = some []:=by
  unfold ab9 G.clone
  exact G.b21 (by simp)
 unfold ab6
 simp only
 rw [show G.emp ([] : List Int) = some () from rfl]
 simp only [Option.bind_some]
 rw [h1]
 simp only [Option.bind_some]
 rw [h2]
 rfl
theorem b86 {n : Nat} {ls : List (List UInt8)} {q r : Nat} {m : D.l9} (h : bV4 n ls q r m) : ∃ s,ab6 m = some s ∧ s.Done = decide (q = ls.length):=by
 cases h with
 | go hq hr=>exact ⟨_,cM2 ..,(decide_eq_false (by omega)).symm⟩
 | done=>exact ⟨_,cM2 ..,(decide_eq_true rfl).symm⟩
theorem cx4 (n r : Nat) (h : r < n) : G.idx ((List.range n).map lOp) (r : Int) = some (lOp r):=by
 rw [G.cF8,List.getElem?_map,List.getElem?_range h]
 rfl
theorem cU8 {m : D.l9} (h : m.state.Done = true) : ab4 m = some (m,false):=by
 unfold ab4
 rw [if_pos h]
theorem c22 (f : Option D.ad1) (rg : List (Option D.av4)) (ls : List (List UInt8)) (fl : D.y9) (out : List UInt8) (op : Int) (pat hold : List UInt8) (flag : Bool) (k : Int) :
  aa5 (D.l9.mk f rg ls fl out (D.aa0.mk op pat hold flag k [] [] false)) = some (D.l9.mk f rg ls fl out (D.aa0.mk op pat hold flag k [] [] false)):=by
 unfold aa5
 rw [a09 (b:=D.l9.mk f rg ls fl out (D.aa0.mk op pat hold flag k [] [] false)) (by unfold as3; simp)]
 rfl
theorem c61 {n : Nat} {ls : List (List UInt8)} {q r : Nat} {m : D.l9} (h : bV4 n ls q r m) (hq : q < ls.length) (hl : ls.length ≤ 54) (he : ∀ s ∈ ls,s.length ≤ 8) (hn : n < 5) :
  ∃ m',ab4 m = some (m',true) ∧ ((r < n ∧ bV4 n ls q (r + 1) m') ∨ (r = n ∧ bV4 n ls (q + 1) 0 m')):=by
 cases h with
 | done=>omega
 | @go _ _ rg fl hold flag hq hr =>
  unfold ab4
  rw [if_neg (by simp)]
  simp only [Option.bind_some]
  have hops : ((ax8 n).Ops.length : Int) = n:=by simp [ax8]
  by_cases e : r = n
  ·subst e
   rw [if_pos (by rw [hops]; exact Int.le_refl _)]
   have htl : (told (ls.take q)).length ≤ 1000:=by
    have:=cK1 (ls.take q) fun s hs=>he s (List.mem_of_mem_take hs)
    have:=List.length_take_le q ls
    omega
   have h8:=he _ (List.getElem_mem hq)
   have hend : ad3 (D.l9.mk (some (ax8 r)) rg ls fl (told (ls.take q)) (D.aa0.mk (r : Int) ls[q] hold flag ((q + 1 : Nat) : Int) [] [] false)) = some (D.l9.mk (some (ax8 r)) rg ls fl (told (ls.take (q + 1))) (D.aa0.mk (r : Int) ls[q] hold flag ((q + 1 : Nat) : Int) [] [] false)):=by
    unfold ad3 ad5
    simp only [Option.bind_some]
    rw [if_pos (by rfl),G.b21 (by omega)]
    simp only [Option.bind_some]
    unfold G.appB
    rw [if_pos ⟨by decide,by decide,by rw [List.length_append]; omega⟩]
    simp only [Option.bind_some]
    rw [c22,cp9 ls q hq]
    simp only [Option.bind_some]
    rw [List.append_assoc]
    rfl
   rw [hend]
   simp only [Option.bind_some]
   obtain ⟨m',k1,k2⟩:=b97 r ls rg fl (r : Int) ls[q] hold flag (q + 1) hq (by omega)
   rw [k1]
   exact ⟨m',rfl,.inr ⟨by trivial,k2⟩⟩
  ·have hlt : r < n:=by omega
   rw [if_neg (by rw [hops]; show ¬ ((n : Int) ≤ (r : Int)); omega)]
   have hi : G.idx (ax8 n).Ops (r : Int) = some (lOp r):=cx4 n r hlt
   rw [hi]
   simp only [Option.bind_some]
   have ht : ∀ m : D.l9,ac6 m (lOp r) = some (m,true):=fun m=>by
    unfold ac6
    rw [if_neg (by simp [lOp]),if_neg (by simp [lOp])]
    rfl
   have hv : ∀ m : D.l9,ab5 m (lOp r) = some (m,false):=fun m=>by
    unfold ab5
    simp [lOp,ao8]
   have hd : ∀ m : D.l9,ad6 m (lOp r) = some m:=fun m=>by
    unfold ad6
    simp [lOp]
   have hw : ∀ m : D.l9,ad4 m (lOp r) = some m:=fun m=>by
    unfold ad4
    simp [lOp]
   rw [ht]
   simp only [Option.bind_some,Bool.not_true,Bool.false_eq_true,if_false]
   rw [hv]
   simp only [Option.bind_some,Bool.not_false,if_true]
   rw [hd]
   simp only [Option.bind_some]
   rw [hw]
   simp only [Option.bind_some]
   rw [G.ay2 (by omega)]
   exact ⟨_,rfl,.inl ⟨hlt,.go hq (by omega)⟩⟩
open Go.RowKit
theorem cZ3 (fu : Nat) (a0 : List (List UInt8)) (n : Nat) (hn : n < 5) : Loop (am7 fu a0 [] (n : Int) (n : Int)) ([35,32,110,111,116,104,105,110,103,10],0) = some (.brk (ag1 n)):=by
 have hl : ∀ i : Nat,(ag1 i).length = 10 + 3 * i:=by
  intro i
  induction i with
  | zero=>rfl
  | succ i ih=>simp only [ag1,List.length_append,ih,List.length_cons,List.length_nil]; omega
 obtain ⟨o,h1,h2⟩:=aP6 (body:=am7 fu a0 [] (n : Int) (n : Int)) n (fun i x=>x = (ag1 i,((i : Nat) : Int))) (fun o=>o = .brk (ag1 n))
  (by
   rintro i x hi rfl
   refine .inl ⟨_,?_,rfl⟩
   unfold am7
   simp only
   rw [if_pos (by omega),G.ay2 (by omega)]
   have hs : G.subS [97,98,99,100,101] (i : Int) ((i + 1 : Nat) : Int) = some [UInt8.ofNat (97 + i)]:=by
    have : ∀ k : Nat,k < 5 → G.subS [97,98,99,100,101] (k : Int) ((k + 1 : Nat) : Int) = some [UInt8.ofNat (97 + k)]:=by decide +kernel
    exact this i (by omega)
   rw [hs]
   have:=hl i
   simp only [Option.bind_some]
   rw [G.bX9 (by simp)]
   simp only [Option.bind_some]
   rw [G.bX9 (by simp)]
   simp only [Option.bind_some]
   rw [G.bX9 (by simp; omega)]
   rfl)
  (by
   rintro x rfl
   refine .inl ⟨_,?_,rfl⟩
   unfold am7
   simp only
   rw [if_neg (by omega)])
  rfl
 subst h2
 exact h1
theorem c36 : ag2 [] = some (D.y9.mk []):=by
 unfold ag2
 rw [a09 (b:=D.y9.mk []) (by unfold aT6; rfl)]
 rfl
theorem copy_nil : ∃ a,ae3 (D.y9.mk []) = some (a,D.y9.mk []):=⟨_,rfl⟩
theorem sort_nil (fu : Nat) : aa7 (fu + 1) [] = some ():=by
 have h0 : ag7 (IntKind.u64.wrap (([] : List (List UInt8)).length : Int)) = some 0:=by decide +kernel
 unfold aa7
 rw [h0]
 simp only [Option.bind_some]
 have h1 : o9 [] 0 0 = some ():=by
  unfold o9
  rw [a09 (b:=()) (by unfold ah7; rfl)]
  rfl
 have h2 : x8 (fu + 1) [] 0 (([] : List (List UInt8)).length : Int) 0 = some ():=by
  show ag9 fu _ [] 0 0 0 = _
  unfold ag9
  have : Loop (ah9 fu (x8 fu) []) (0,0,0,true,true) = some (.ret ()):=aS3.2 ⟨1,by
   unfold bQ8 ah9
   simp only
   rw [if_pos (by decide),h1]
   rfl⟩
  rw [this]
  rfl
 rw [h2]
 rfl
theorem cT5 (fu n : Nat) (hn : n < 5) : ab3 (fu + 1) (some (ax8 n)) = some []:=by
 unfold ab3
 simp only [Option.bind_some]
 have hops : ((ax8 n).Ops.length : Int) = n:=by simp [ax8]
 obtain ⟨o,h1,h2⟩:=aP6 (body:=al4 (fu + 1) (ax8 n).Ops ((ax8 n).Ops.length : Int)) n (fun i x=>x = ([],((i : Nat) : Int))) (fun o=>o = .brk [])
  (by
   rintro i x hi rfl
   refine .inl ⟨_,?_,rfl⟩
   unfold al4
   simp only
   rw [hops,if_pos (by omega),show (ax8 n).Ops = (List.range n).map lOp from rfl,cx4 n i hi]
   simp only [Option.bind_some]
   rw [if_neg (by simp [lOp]),if_neg (by simp [lOp]),G.ay2 (by omega)])
  (by
   rintro x rfl
   refine .inl ⟨_,?_,rfl⟩
   unfold al4
   simp only
   rw [hops,if_neg (by omega)])
  rfl
 subst h2
 have h1 : Loop (al4 (fu + 1) (ax8 n).Ops ((ax8 n).Ops.length : Int)) ([],0) = _:=h1
 rw [h1]
 simp only [Option.bind_some]
 rw [sort_nil]
 simp only [Option.bind_some]
 unfold x9
 rw [if_pos (by decide)]
 rfl
theorem new_mach (fu n : Nat) (hn : n < 5) (a : List (List UInt8)) (ha : FewL a) : ∃ x m,ac9 (fu + 1) (some (ax8 n)) a (D.y9.mk []) = some (x,m) ∧ bV4 n (ah8 a) 0 0 m:=by
 obtain ⟨x0,hx0⟩:=copy_nil
 have hal:=ce1 ha
 obtain ⟨m,hm1,hm2⟩:=b97 n (ah8 a) [] (D.y9.mk []) 0 [] [] false 0 (Nat.zero_le _) (by omega)
 refine ⟨x0,m,?_,hm2⟩
 unfold ac9
 rw [hx0]
 simp only [Option.bind_some]
 rw [a09 (b:=(D.l9.mk (some (ax8 n)) [] [] (D.y9.mk []) [] (D.aa0.mk 0 [] [] false 0 [] [] false),x0)) (by unfold ba0; rfl)]
 simp only [Option.bind_some]
 obtain ⟨o,h1,h2⟩:=aP6 (body:=aB3 (fu + 1) (some (ax8 n)) a (a.length : Int)) a.length
  (fun i x=>x = (D.l9.mk (some (ax8 n)) [] (ah8 (a.take i)) (D.y9.mk []) [] (D.aa0.mk 0 [] [] false 0 [] [] false),x0,((i : Nat) : Int)))
  (fun o=>o = .brk (D.l9.mk (some (ax8 n)) [] (ah8 a) (D.y9.mk []) [] (D.aa0.mk 0 [] [] false 0 [] [] false),x0))
  (by
   rintro i x hi rfl
   refine .inl ⟨_,?_,rfl⟩
   have h8:=ha.each a[i] (List.getElem_mem hi)
   have h54:=cM6 a ha i
   have hc:=bt1 a[i]
   have hsix:=ha.len
   unfold aB3
   simp only
   rw [if_pos (by omega),G.b96 a i hi]
   simp only [Option.bind_some]
   rw [c67 _ (by omega)]
   simp only [Option.bind_some]
   rw [G.b21 (by omega)]
   simp only [Option.bind_some]
   rw [G.ay2 (by omega),cM0 a i hi])
  (by
   rintro x rfl
   refine .inl ⟨_,?_,rfl⟩
   unfold aB3
   simp only
   rw [if_neg (by omega),List.take_length])
  rfl
 subst h2
 have h1 : Loop (aB3 (fu + 1) (some (ax8 n)) a (a.length : Int)) (D.l9.mk (some (ax8 n)) [] [] (D.y9.mk []) [] (D.aa0.mk 0 [] [] false 0 [] [] false),x0,0) = _:=h1
 rw [h1]
 simp only [Option.bind_some]
 rw [cT5 fu n hn]
 simp only [Option.bind_some]
 rw [a09 (b:=(D.l9.mk (some (ax8 n)) [] (ah8 a) (D.y9.mk []) [] (D.aa0.mk 0 [] [] false 0 [] [] false),x0)) (by unfold aZ0; rfl)]
 simp only [Option.bind_some]
 have hmk : G.make (ax8 n).Ranges (0 : Int) = some []:=rfl
 rw [hmk]
 simp only [Option.bind_some]
 rw [show told (List.take 0 (ah8 a)) = [] from rfl,show ((0 : Nat) : Int) = 0 from rfl] at hm1
 rw [hm1]
 rfl
theorem new_ref (n : Nat) (hn : n < 5) (a : List (List UInt8)) (ha : FewL a) : ∃ m,ad9 (aO8 n) a [] = some m ∧ m.Input = ah8 a:=by
 have hal:=ce1 ha
 unfold ad9
 have h0 : af6 [] = some []:=by
  unfold af6
  rw [a09 (b:=[]) (by unfold aU4; rfl)]
  rfl
 rw [h0]
 simp only [Option.bind_some]
 obtain ⟨o,h1,h2⟩:=aP6 (body:=aw9 a (a.length : Int) (aO8 n) (D.aa9.mk (D.ai2.mk false [] [] [] 0) [] [] [] (D.al8.mk 0 [] [] false 0 [] [] false))) a.length
  (fun i x=>x = (((i : Nat) : Int),D.aa9.mk (aO8 n) (ah8 (a.take i)) [] [] (D.al8.mk 0 [] [] false 0 [] [] false)))
  (fun o=>o = .brk (D.aa9.mk (aO8 n) (ah8 a) [] [] (D.al8.mk 0 [] [] false 0 [] [] false)))
  (by
   rintro i x hi rfl
   refine .inl ⟨_,?_,rfl⟩
   have h8:=ha.each a[i] (List.getElem_mem hi)
   have h54:=cM6 a ha i
   have hc:=bt1 a[i]
   have hsix:=ha.len
   unfold aw9
   simp only
   rw [if_pos (by omega),G.b96 a i hi]
   simp only [Option.bind_some]
   rw [cut_eq _ (by omega)]
   simp only [Option.bind_some]
   rw [G.b21 (by omega)]
   simp only [Option.bind_some]
   rw [G.ay2 (by omega),cM0 a i hi])
  (by
   rintro x rfl
   refine .inl ⟨_,?_,rfl⟩
   unfold aw9
   simp only
   rw [if_neg (by omega),List.take_length])
  rfl
 subst h2
 have h1 : Loop (aw9 a (a.length : Int) (aO8 n) (D.aa9.mk (D.ai2.mk false [] [] [] 0) [] [] [] (D.al8.mk 0 [] [] false 0 [] [] false))) (0,D.aa9.mk (aO8 n) [] [] [] (D.al8.mk 0 [] [] false 0 [] [] false)) = _:=h1
 rw [h1]
 simp only [Option.bind_some]
 have hops : ((aO8 n).Ops.length : Int) = n:=by simp [aO8]
 have hget : ∀ i : Nat,i < n → G.idx (aO8 n).Ops (i : Int) = some (rOp i):=fun i hi=>by
  show G.idx ((List.range n).map rOp) (i : Int) = _
  rw [G.cF8,List.getElem?_map,List.getElem?_range hi]
  rfl
 obtain ⟨o,k1,k2⟩:=aP6 (body:=ax3 ((aO8 n).Ops.length : Int) (aO8 n) (D.aa9.mk (D.ai2.mk false [] [] [] 0) [] [] [] (D.al8.mk 0 [] [] false 0 [] [] false))) n
  (fun i x=>x = (((i : Nat) : Int),D.aa9.mk (aO8 n) (ah8 a) [] [] (D.al8.mk 0 [] [] false 0 [] [] false)))
  (fun o=>o = .brk (D.aa9.mk (aO8 n) (ah8 a) [] [] (D.al8.mk 0 [] [] false 0 [] [] false)))
  (by
   rintro i x hi rfl
   refine .inl ⟨_,?_,rfl⟩
   unfold ax3
   simp only
   rw [hops,if_pos (by omega),hget i hi]
   simp only [Option.bind_some]
   rw [if_neg (by simp [rOp])]
   unfold aT7
   rw [if_neg (by simp [rOp]),G.ay2 (by omega)])
  (by
   rintro x rfl
   refine .inl ⟨_,?_,rfl⟩
   unfold ax3
   simp only
   rw [hops,if_neg (by omega)])
  rfl
 subst k2
 have k1 : Loop (ax3 ((aO8 n).Ops.length : Int) (aO8 n) (D.aa9.mk (D.ai2.mk false [] [] [] 0) [] [] [] (D.al8.mk 0 [] [] false 0 [] [] false))) (0,D.aa9.mk (aO8 n) (ah8 a) [] [] (D.al8.mk 0 [] [] false 0 [] [] false)) = _:=k1
 rw [k1]
 simp only [Option.bind_some]
 rw [a09 (b:=D.aa9.mk (aO8 n) (ah8 a) [] [] (D.al8.mk 0 [] [] false 0 [] [] false)) (by unfold aU5; rfl)]
 simp only [Option.bind_some]
 unfold ak3
 simp only
 by_cases e : (ah8 a).length = 0
 ·rw [if_pos (by rw [e]; rfl)]
  exact ⟨_,rfl,rfl⟩
 ·rw [if_neg (by omega),show (0 : Int) = ((0 : Nat) : Int) from rfl,G.b96 _ 0 (by omega)]
  exact ⟨_,rfl,rfl⟩
theorem c30 (fu : Nat) (k : Int) (ls : List (List UInt8)) (m : D.l9) (hl : ls.length ≤ 54) (he : ∀ s ∈ ls,s.length ≤ 8) : Loop (am5 fu k ls ls (ls.length : Int)) (m,[],0) = some (.brk (m,told ls)):=by
 obtain ⟨o,h1,h2⟩:=aP6 (body:=am5 fu k ls ls (ls.length : Int)) ls.length (fun i x=>x = (m,told (ls.take i),((i : Nat) : Int))) (fun o=>o = .brk (m,told ls))
  (by
   rintro i x hi rfl
   refine .inl ⟨_,?_,rfl⟩
   have htl : (told (ls.take i)).length ≤ 1000:=by
    have:=cK1 (ls.take i) fun s hs=>he s (List.mem_of_mem_take hs)
    have:=List.length_take_le i ls
    omega
   have h8:=he _ (List.getElem_mem hi)
   unfold am5
   simp only
   rw [if_pos (by omega),G.b96 ls i hi]
   simp only [Option.bind_some]
   rw [G.bX9 (by simp only [List.length_cons,List.length_nil]; omega)]
   simp only [Option.bind_some]
   rw [G.bX9 (by simp only [List.length_append,List.length_cons,List.length_nil]; omega)]
   simp only [Option.bind_some]
   rw [G.ay2 (by omega),cp9 ls i hi])
  (by
   rintro x rfl
   refine .inl ⟨_,?_,rfl⟩
   unfold am5
   simp only
   rw [if_neg (by omega),List.take_length])
  rfl
 subst h2
 exact h1
theorem cM7 (fu : Nat) (n : Nat) (hn : n < 5) (ls : List (List UInt8)) (m : D.l9) (w : List UInt8) (hl : ls.length ≤ 54) (he : ∀ s ∈ ls,s.length ≤ 8) (hm : bV4 n ls 0 0 m) :
  ∃ m',Loop (am4 fu w ((ls.length * (n + 1) : Nat) : Int)) (m,0) = some (.brk m') ∧ bV4 n ls ls.length 0 m':=by
 have hb : ls.length * (n + 1) ≤ 54 * 5:=Nat.mul_le_mul hl (by omega)
 obtain ⟨o,h1,m',h2,h3⟩:=aP6 (body:=am4 fu w ((ls.length * (n + 1) : Nat) : Int)) (ls.length * (n + 1))
  (fun i x=>∃ q r m,x = (m,((i : Nat) : Int)) ∧ bV4 n ls q r m ∧ q * (n + 1) + r = i ∧ q ≤ ls.length ∧ r ≤ n)
  (fun o=>∃ m',o = .brk m' ∧ bV4 n ls ls.length 0 m')
  (by
   rintro i x hi ⟨q,r,m,rfl,hm,hqr,hq,hr⟩
   have hq' : q < ls.length:=by
    rcases Nat.lt_or_ge q ls.length with h | h
    ·exact h
    ·have:=Nat.mul_le_mul_right (n + 1) h
     omega
   refine .inl ?_
   obtain ⟨s,hs1,hs2⟩:=b86 hm
   obtain ⟨m',k1,k2⟩:=c61 hm hq' hl he hn
   unfold am4
   simp only
   rw [if_pos (by omega),hs1]
   simp only [Option.bind_some]
   have hsd : s.Done = false:=by rw [hs2]; exact decide_eq_false (by omega)
   rw [hsd,if_neg (by decide),k1]
   simp only [Option.bind_some,Bool.not_true,Bool.or_self,Bool.false_eq_true,if_false]
   rw [G.ay2 (by omega)]
   rcases k2 with ⟨h,k2⟩ | ⟨h,k2⟩
   ·exact ⟨_,rfl,q,r + 1,m',rfl,k2,by omega,hq,h⟩
   ·refine ⟨_,rfl,q + 1,0,m',rfl,k2,?_,hq',Nat.zero_le _⟩
    rw [Nat.add_one_mul]
    omega)
  (by
   rintro x ⟨q,r,m,rfl,hm,hqr,hq,hr⟩
   have hq' : q = ls.length ∧ r = 0:=by
    rcases Nat.lt_or_ge q ls.length with h | h
    ·have:=Nat.mul_le_mul_right (n + 1) (show q + 1 ≤ ls.length from h)
     rw [Nat.add_one_mul] at this
     omega
    ·obtain rfl : q = ls.length:=by omega
     exact ⟨rfl,by omega⟩
   obtain ⟨rfl,rfl⟩:=hq'
   refine .inl ⟨m,?_,m,rfl,hm⟩
   unfold am4
   simp only
   rw [if_neg (by omega)])
  ⟨0,0,m,rfl,hm,by simp,Nat.zero_le _,Nat.zero_le _⟩
 subst h2
 exact ⟨m',h1,h3⟩
theorem cr9 (a : List (List UInt8)) (ha : a.length ≤ 9223372036854775807) (k : Nat) (hk : k < 256) : aa4 1 a (k : Int) = some true:=by
 obtain ⟨b,hb,hf⟩:=few_eq a ha
 unfold aa4
 have hw : aL2 = some true:=rfl
 rw [hw]
 simp only [Option.bind_some,Bool.not_true,Bool.not_false,G.c79,hb,Bool.false_or]
 cases b with
 | false=>rfl
 | true =>
  have hfew:=hf rfl
  have hn : Int.tmod (IntKind.i64.wrap (k : Int)) 5 = ((k % 5 : Nat) : Int):=by
   have : ∀ k : Nat,k < 256 → Int.tmod (IntKind.i64.wrap (k : Int)) 5 = ((k % 5 : Nat) : Int):=by decide +kernel
   exact this k hk
  rw [hn]
  have h5 : k % 5 < 5:=Nat.mod_lt _ (by decide)
  generalize k % 5 = n at h5
  have hal:=ce1 hfew
  simp only [Bool.not_true,Bool.false_eq_true,if_false]
  rw [cZ3 1 a n h5]
  simp only [Option.bind_some]
  unfold ai8
  rw [made_eq n h5]
  simp only [Option.bind_some,Bool.not_true,Bool.false_eq_true,if_false]
  rw [G.b21 (by have:=hfew.len; simp only [List.length_nil]; omega),c36]
  simp only [Option.bind_some,List.nil_append]
  obtain ⟨x,m,hm1,hm2⟩:=new_mach 0 n h5 a hfew
  have hm1 : ac9 1 (some (ax8 n)) a (D.y9.mk []) = some (x,m):=hm1
  rw [hm1]
  simp only [Option.bind_some]
  obtain ⟨rm,hr1,hr2⟩:=new_ref n h5 a hfew
  rw [hr1]
  simp only [Option.bind_some,hr2]
  rw [c30 1 _ _ m hal.1 hal.2]
  simp only [Option.bind_some]
  have hmul : G.mulI ((ah8 a).length : Int) (G.addI (n : Int) 1) = (((ah8 a).length * (n + 1) : Nat) : Int):=by
   rw [G.ay2 (by omega)]
   have hb : (ah8 a).length * (n + 1) ≤ 54 * 5:=Nat.mul_le_mul hal.1 (by omega)
   have e : ((ah8 a).length : Int) * ((n + 1 : Nat) : Int) = (((ah8 a).length * (n + 1) : Nat) : Int):=by simp
   show IntKind.i64.wrap (((ah8 a).length : Int) * ((n + 1 : Nat) : Int)) = _
   rw [e]
   exact wrap_i64 (by omega) (by omega)
  rw [hmul]
  obtain ⟨m',k1,k2⟩:=cM7 1 n h5 (ah8 a) m (told (ah8 a)) hal.1 hal.2 hm2
  rw [k1]
  simp only [Option.bind_some]
  obtain ⟨s,hs1,hs2⟩:=b86 k2
  rw [hs1]
  simp only [Option.bind_some]
  have hsd : s.Done = true:=by rw [hs2]; simp
  have hmd : m'.state.Done = true ∧ m'.out = told (ah8 a):=by
   generalize hq : (ah8 a).length = q at k2
   cases k2 with
   | go h=>omega
   | done=>exact ⟨rfl,rfl⟩
  rw [hsd]
  unfold ae7
  simp only [if_true,Option.bind_some,hmd.2,decide_true,Bool.and_self]
  rw [cU8 hmd.1]
  rfl
open Go.RowKit
theorem bW4 {P : Program} [hc : ae4 P] : S.strings_Split P strings_Split:=hc.ext_strings_Split
open Go.RowKit
def S.ae3 (P : Program) (φ : D.y9 → Option (D.y9 × D.y9)) : Prop:=∀ (a0 : D.y9) (r : (D.y9 × D.y9)),φ a0 = some r → by6 P F.ae3 [.o (.ptr 96 (o7 a0))] false [.o (.ptr 96 (o7 r.1))] [.o (.ptr 96 (o7 r.2))]
theorem bG0 {P : Program} [hc : ae4 P] : S.ae3 P (ae3):=by
 intro a0 r h
 refine ao0 (b:=K.ae3) rfl hc.ae3 rfl rfl rfl ?_
 rintro L S0 _ _ _ ⟨av0,_,F0,_,_,rfl,rfl,rfl,rfl,rfl,rfl⟩
 unfold ae3 at h
 refine (show GC P _ L (⟨F.ae3,(F0 ++ []),S0,true,false⟩ : Fr) (numE 0 [av0]) [.own true [] (.ptr 96 (o7 a0)) av0 F0] (RetO (⟨F.ae3,(F0 ++ []),S0,true,false⟩ : Fr) L false [av0] K.ae3.res [.o (.ptr 96 (o7 r.1))] [.o (.ptr 96 (o7 r.2))]) from ?_)
 generalize ((F0 ++ []) : List Loc) = W
 refine aJ0 (Mv.opn rfl) ?_
 rintro _ ⟨p_1,g_2,_,_,rfl,⟨w_3,_,F_4,_,rfl,rfl,rfl,rfl⟩,rfl⟩
 refine aa1 (aa2 (o6 (s_mv rfl) (aa3 (y7 (aa1 (aa2 (o6 (s_mv rfl) ?_)))))))
 refine o6 (ah5 rfl) (o6 (s_fa (o':=0) rfl rfl) (o6 (au3 (i:=0) rfl rfl rfl) (aq7 (Mv.sub (.cons (i:=1) rfl .rfl (.cons (i:=0) rfl .rfl .nil)) rfl) ?_)))
 rintro _ rfl
 refine aP5 (A1:=[.own true [] (Mp.o Mp.ks (fun v=>.sl 1 (List.map aa6 v)) a0.lines) w_3 F_4]) rfl rfl (show InC [.o (Mp.o Mp.ks (fun v=>.sl 1 (List.map aa6 v)) a0.lines)] _ _ from ⟨rfl,rfl,rfl,rfl⟩) rfl rfl rfl rfl rfl (cF2 rfl Mp.ks (fun v=>.sl 1 (List.map aa6 v)) a0.lines) ?_
 rintro w_5 _ _ J_6 ⟨F_7,_,rfl,rfl⟩ ⟨F_8,rfl⟩
 refine cV2 (i:=1) rfl rfl fun hc_9 ho_10=>?_
 refine o6 (s_bdX (cs:=[w_5]) (.cons rfl ho_10.1 rfl rfl (.nil rfl))) ?_
 refine g_co (i:=1) rfl fun hc_12=>?_
 refine g_bxO rfl rfl ⟨hc_12,trivial⟩ rfl fun g_11=>?_
 refine o6 (s_mv rfl) (aa3 (y7 (ap6 ?_)))
 obtain rfl:=Option.some.inj h
 refine g_mv (Mv.sub (.cons (i:=0) rfl .rfl (.cons (i:=2) rfl .rfl (.cons (i:=1) rfl .rfl (.cons (i:=3) rfl .rfl (.cons (i:=4) rfl .rfl .nil))))) rfl) ?_
 rintro _ rfl
 refine g_mv (Mv.sht (os:=(o7 a0)) (N:=[.own true [] (Mp.o Mp.ks (fun v=>.sl 1 (List.map aa6 v)) a0.lines) w_5 F_8]) rfl ⟨rfl,rfl,rfl,rfl⟩) ?_
 rintro _ ⟨F_13,rfl⟩
 refine g_mv (Mv.sub (.cons (i:=3) rfl .rfl (.cons (i:=1) rfl .rfl (.cons (i:=0) rfl .rfl (.cons (i:=2) rfl .rfl .nil)))) rfl) ?_
 rintro _ rfl
 refine g_mv (Mv.sht (os:=(o7 a0)) (N:=[.own true [] (Mp.o Mp.ks (fun v=>.sl 1 (List.map aa6 v)) a0.lines) w_3 F_7]) rfl ⟨rfl,rfl,rfl,rfl⟩) ?_
 rintro _ ⟨F_14,rfl⟩
 exact am2 (A1:=[.own true [] (.ptr 96 (o7 a0)) (.ptr p_1 g_2 0 0) F_14]) (A2:=[.own true [9] (.ptr 96 (o7 a0)) (.ptr ⟨L + 1,9,0⟩ g_11 0 0) F_13]) (A3:=[.jnk true [] J_6]) rfl ⟨rfl,rfl,rfl,rfl⟩ (.l7 rfl .nil) rfl rfl
def S.an6 (P : Program) (φ : List UInt8 → Option (List (List UInt8))) : Prop:=∀ (a0 : List UInt8) (r : (List (List UInt8))),φ a0 = some r → ∀ (k0 : Nat) (args : List AV),RVN [.str a0] args → aV8 P F.an6 args (ResC [.sl 1 (r.map aa6)])
theorem cs3 {P : Program} [hc : ae4 P] : S.an6 P (an6):=by
 intro a0 r h k0 args ha
 refine al5 (b:=K.an6) rfl hc.an6 (fun _=>rfl) rfl rfl ?_ ha
 rintro L _ ⟨_,_,rfl,rfl,rfl⟩
 unfold an6 at h
 show GC P _ L F.an6 [(0,.lit (.string (bs a0)))] [] (ab1 L K.an6.res [.sl 1 (r.map aa6)])
 refine aa1 (aa2 (o6 (s_mv rfl) (aa3 (y7 (aa1 (aa2 (o6 (s_mv rfl) ?_)))))))
 obtain ⟨x_1,e_2,h⟩:=ac8 h
 refine af5 (s_clB (rs:=[.str a0,.str [10]]) (fun _=>rfl) rfl (RVL.toN (L:=L + 1) ⟨_,_,rfl,rfl,_,_,rfl,rfl,rfl⟩) ((bW4) _ _ _ e_2 (L + 1) _)) ?_
 rintro v_3 r_4
 replace r_4:=ResC.one r_4
 refine o6 (s_mv rfl) (aa3 (y7 (ap6 ?_)))
 obtain rfl:=Option.some.inj h
 exact ba8 (.t rfl r_4.toS .nil)
def S.ag2 (P : Program) (φ : (List D.al7) → Option D.y9) : Prop:=∀ (a0 : (List D.al7)) (r : D.y9),φ a0 = some r → by6 P F.ag2 [.r (.sl 2 (a0.map as4))] false [.x] [.o (.ptr 96 (o7 r))]
def aM3 (L : Nat) (W : List Loc) (S0 : AS) (a0 : (List D.al7)) (av0 : AV) (p11 : (List D.al7)) (p12 : Int) (G_i2 : Nat) (v11 : AV) : (D.y9 × Int) → BT → AS → Prop:=fun (q_i2,p13) T S=>∃ (J_i3 : List Loc) (w_i1 : AV) (F_i1 : List Loc),Ag [(3,.ptr ⟨L + 1,10,0⟩ G_i2 0 0),(11,v11),(12,.lit (.int .i64 p12)),(13,.lit (.int .i64 p13))] T ∧ StA S L (⟨F.ag2,W,S0,true,false⟩ : Fr) [.jnk false [] J_i3,.cel false [10] ⟨L + 1,10,0⟩ G_i2 96 [w_i1],.own false [8] (Mp.o Mp.ks (fun v=>.sl 1 (List.map aa6 v)) q_i2.lines) w_i1 F_i1]
def aW1 (L : Nat) (W : List Loc) (S0 : AS) (a0 : (List D.al7)) (av0 : AV) (p11 : (List D.al7)) (p12 : Int) (G_i2 : Nat) (v11 : AV) : D.y9 → BT → AS → Prop:=fun q_i2 T S=>∃ (J_i3 : List Loc) (w_i1 : AV) (F_i1 : List Loc),Ag [(3,.ptr ⟨L + 1,10,0⟩ G_i2 0 0)] T ∧ StA S L (⟨F.ag2,W,S0,true,false⟩ : Fr) [.jnk false [] J_i3,.cel false [10] ⟨L + 1,10,0⟩ G_i2 96 [w_i1],.own false [8] (Mp.o Mp.ks (fun v=>.sl 1 (List.map aa6 v)) q_i2.lines) w_i1 F_i1]
theorem b04 {P : Program} [hc : ae4 P] {L : Nat} (W : List Loc) (S0 : AS) (a0 : (List D.al7)) (av0 : AV) (p11 : (List D.al7)) (p12 : Int) {G_i2 : Nat} {v11 : AV} (ar0 : RelC (.sl 2 (List.map as4 a0)) av0) (r11 : RelC (.sl 2 (p11.map as4)) v11) : ∀ (s : (D.y9 × Int)) (c : Ctl (D.y9 × Int) D.y9 D.y9),aT6 p11 p12 s = some c → ∀ T S,aM3 L W S0 a0 av0 p11 p12 G_i2 v11 s T S → RunB P K.aZ6 T S (am1 0 (aM3 L W S0 a0 av0 p11 p12 G_i2 v11) (aW1 L W S0 a0 av0 p11 p12 G_i2 v11) (fun r=>RetO (⟨F.ag2,W,S0,true,false⟩ : Fr) L false [av0] K.ag2.res [.x] [.o (.ptr 96 (o7 r))]) c):=by
 rintro ⟨q_i2,p13⟩ c h T S ⟨J_i3,w_i1,F_i1,hT,hS⟩
 unfold aT6 at h
 refine (show GC P K.aZ6 L (⟨F.ag2,W,S0,true,false⟩ : Fr) [(3,.ptr ⟨L + 1,10,0⟩ G_i2 0 0),(11,v11),(12,.lit (.int .i64 p12)),(13,.lit (.int .i64 p13))] [.jnk false [] J_i3,.cel false [10] ⟨L + 1,10,0⟩ G_i2 96 [w_i1],.own false [8] (Mp.o Mp.ks (fun v=>.sl 1 (List.map aa6 v)) q_i2.lines) w_i1 F_i1] (am1 0 (aM3 L W S0 a0 av0 p11 p12 G_i2 v11) (aW1 L W S0 a0 av0 p11 p12 G_i2 v11) (fun r=>RetO (⟨F.ag2,W,S0,true,false⟩ : Fr) L false [av0] K.ag2.res [.x] [.o (.ptr 96 (o7 r))]) c) from ?_) T S hT hS
 refine aa1 (aa2 (o6 (s_ib rfl rfl rfl) (aa3 (y7 (aa1 ?_)))))
 by_cases h_6 : p13 < p12
 ·replace h:=iteT h h_6
  refine g_cT rfl (decide_eq_true h_6) (ah1 (y7 (aa1 (ag3 (aa1 (aa2 ?_))))))
  obtain ⟨x_9,e_10,h⟩:=ac8 h
  refine af5 (s_ia (c:=as4) rfl r11.toS rfl e_10) ?_
  rintro _ ⟨c_7,rfl,r_8⟩
  refine af5 (b90 (N:=as4 x_9) rfl r_8 rfl rfl) ?_
  rintro _ ⟨c_11,rfl,r_12⟩
  refine co1 rfl rfl fun g_13=>?_
  obtain ⟨_,hE_16,_,_,rfl,rfl,v_14,_,rfl,r_15,rfl⟩:=exL' r_12
  refine ci9 (i:=0) (b:=.agg c_11) (cs':=[.lit (.string (bs x_9.Name)),v_14]) rfl rfl rfl (by rw [hE_16]; rfl) (ab7.ones r_12) (fun a ha=>.c (am8 (ab7.closed r_12) a ha)) rfl (by rw [hE_16]; rfl) rfl (aa3 (y7 (aa1 (aa2 (o6 (s_mv rfl) (o6 (s_fa (o':=0) rfl rfl) (o6 (aL5 (i:=0) rfl rfl rfl) ?_)))))))
  cases h
 ·replace h:=iteF h h_6
  refine g_cF rfl (decide_eq_false h_6) (aA5 (aA3 ?_))
  obtain rfl:=Option.some.inj h
  exact fun T S hT hS=>⟨rfl,⟨J_i3,w_i1,F_i1,hT.sub (subE.cons rfl (subE.nil _)),hS.sub (.cons (i:=0) rfl (.jnk rfl rfl) (.cons (i:=1) rfl (.cel rfl rfl) (.cons (i:=2) rfl (.own rfl rfl) .nil))) rfl⟩⟩
theorem cl6 {P : Program} [hc : ae4 P] : S.ag2 P (ag2):=by
 intro a0 r h
 refine ao0 (b:=K.ag2) rfl hc.ag2 rfl rfl rfl ?_
 rintro L S0 _ _ _ ⟨av0,_,rfl,ar0,rfl,rfl,rfl⟩
 unfold ag2 at h
 refine (show GC P _ L (⟨F.ag2,[],S0,true,false⟩ : Fr) (numE 0 [av0]) [] (RetO (⟨F.ag2,[],S0,true,false⟩ : Fr) L false [av0] K.ag2.res [.x] [.o (.ptr 96 (o7 r))]) from ?_)
 generalize ([] : List Loc) = W
 refine aa1 (aa2 (o6 (s_mv rfl) (aa3 (y7 (aa1 (aa2 ?_))))))
 refine g_mkM (κ:=Mp.ks) (χ:=(fun v=>.sl 1 (List.map aa6 v))) rfl fun g_1=>?_
 refine cV2 (i:=0) rfl rfl fun hc_2 ho_3=>?_
 refine o6 (s_bdX (cs:=[(.mref ⟨L + 1,8,0⟩ g_1)]) (.cons rfl ho_3.1 rfl rfl (.nil rfl))) ?_
 refine g_co (i:=0) rfl fun hc_5=>?_
 refine g_bxO rfl rfl ⟨hc_5,trivial⟩ rfl fun g_4=>?_
 refine o6 (s_mv rfl) (aa3 (y7 (aa1 (aa1 (aa2 (o6 (s_mv rfl) (o6 (ba7 (c:=as4) rfl ar0) ?_)))))))
 refine o6 (s_mv rfl) (aa3 (y7 (ag3 (aJ0 Mv.newJ ?_))))
 rintro _ rfl
 obtain ⟨o_17,e_18,h⟩:=ac8 h
 refine aA8 (IN:=aM3 L W S0 a0 av0 a0 (a0.length : Int) g_4 av0) (IB:=aW1 L W S0 a0 av0 a0 (a0.length : Int) g_4 av0) (IR:=fun r=>RetO (⟨F.ag2,W,S0,true,false⟩ : Fr) L false [av0] K.ag2.res [.x] [.o (.ptr 96 (o7 r))]) e_18 (b04 W S0 a0 av0 a0 (a0.length : Int) (G_i2:=g_4) (v11:=av0) ar0 ar0) (fun T S hT hS=>⟨[],(.mref ⟨L + 1,8,0⟩ g_1),[⟨L + 1,8,0⟩],hT.sub (subE.cons rfl (subE.cons rfl (subE.cons rfl (subE.cons rfl (subE.nil _))))),hS.sub (.cons (i:=0) rfl (.jnk rfl rfl) (.cons (i:=1) rfl (.cel rfl rfl) (.cons (i:=2) rfl (.own rfl rfl) .nil))) rfl⟩) ?_
 rintro x T S hO
 cases o_17 with
 | brk q_i2b_19 =>
  obtain ⟨rfl,J_i3b_19,w_i1b_19,F_i1b_19,hT,hS⟩:=hO
  refine (show G (.exit 0) L (⟨F.ag2,W,S0,true,false⟩ : Fr) [(3,.ptr ⟨L + 1,10,0⟩ g_4 0 0)] [.jnk false [] J_i3b_19,.cel false [10] ⟨L + 1,10,0⟩ g_4 96 [w_i1b_19],.own false [8] (Mp.o Mp.ks (fun v=>.sl 1 (List.map aa6 v)) q_i2b_19.lines) w_i1b_19 F_i1b_19] (Blk 0 (Thn P K.bJ6 (RetO (⟨F.ag2,W,S0,true,false⟩ : Fr) L false [av0] K.ag2.res [.x] [.o (.ptr 96 (o7 r))]))) from ?_) T S hT hS
  refine ay3 (y7 (aa1 (aa2 (o6 (s_mv rfl) (o6 (s_mv rfl) (aa3 (y7 ?_)))))))
  refine ap6 ?_
  obtain rfl:=Option.some.inj h
  refine g_mv (Mv.sub (.cons (i:=1) rfl .rfl (.cons (i:=2) rfl .rfl (.cons (i:=0) rfl .rfl .nil))) rfl) ?_
  rintro _ rfl
  refine g_mv (Mv.sht (os:=(o7 q_i2b_19)) (N:=[.own false [8] (Mp.o Mp.ks (fun v=>.sl 1 (List.map aa6 v)) q_i2b_19.lines) w_i1b_19 F_i1b_19]) rfl ⟨rfl,rfl,rfl,rfl⟩) ?_
  rintro _ ⟨F_20,rfl⟩
  exact am2 (A1:=[]) (A2:=[.own false [10,8] (.ptr 96 (o7 q_i2b_19)) (.ptr ⟨L + 1,10,0⟩ g_4 0 0) F_20]) (A3:=[.jnk false [] J_i3b_19]) rfl ⟨rfl,rfl⟩ (.l7 rfl .nil) rfl rfl
 | ret r =>
  obtain rfl:=Option.some.inj h
  obtain ⟨rfl,hO⟩:=hO
  exact hO
open Go.RowKit
theorem cd5 {P : Program} [hc : ae4 P] : S.ai8 P ai8:=hc.ext_law16_Made
open Go.RowKit
def S.ae6 (P : Program) (φ : Int → Option Int) : Prop:=∀ (a0 : Int) (r : Int),φ a0 = some r → ∀ (k0 : Nat) (args : List AV),RVN [.int .u64 a0] args → aV8 P F.ae6 args (ResC [.int .i64 r])
theorem aO6 {P : Program} [hc : ae4 P] {L : Nat} (p0 : Int) (p2 : Int)  : ∀ (r : Int),aw1 p0 p2 = some r → G .normal L F.ae6 [(0,.lit (.int .u64 p0)),(2,.lit (.int .i64 p2))] [] (Thn P K.aU9 (ab1 L K.ae6.res [.int .i64 r])):=by
 intro r h
 unfold aw1 at h
 refine y7 (aa1 (aa1 (aa2 (o6 (s_mv rfl) (o6 (s_ib rfl rfl rfl) (aa3 (y7 ?_)))))))
 by_cases h_7 : p0 ≥ 256
 ·replace h:=iteT h h_7
  refine g_cT rfl (decide_eq_true h_7) (aa1 (aa2 (o6 (s_mv rfl) ?_)))
  obtain ⟨x_8,e_9,h⟩:=ac8 h
  refine o6 (s_ib rfl rfl (cD4 e_9)) (o6 (s_mv rfl) (aa3 (y7 (aa2 (o6 (s_mv rfl) (o6 (s_ib rfl rfl rfl) (o6 (s_mv rfl) ?_)))))))
  refine aa3 (y7 (aa1 (aa2 (o6 (s_mv rfl) (o6 (s_mv rfl) (o6 (cS8 rfl) ?_))))))
  obtain ⟨x_10,e_11,h⟩:=ac8 h
  refine o6 (s_xs rfl rfl e_11) (o6 (cS8 rfl) (o6 (s_ib rfl rfl rfl) (o6 (s_mv rfl) (aa3 (y7 (ap6 ?_))))))
  obtain rfl:=Option.some.inj h
  exact ba8 (.t rfl rfl .nil)
 ·replace h:=iteF h h_7
  refine g_cF rfl (decide_eq_false h_7) (ah1 (y7 (aa1 (aa2 (o6 (s_mv rfl) (o6 (s_mv rfl) (o6 (cS8 rfl) ?_)))))))
  obtain ⟨x_12,e_13,h⟩:=ac8 h
  refine o6 (s_xs rfl rfl e_13) (o6 (cS8 rfl) (o6 (s_ib rfl rfl rfl) (o6 (s_mv rfl) (aa3 (y7 (ap6 ?_))))))
  obtain rfl:=Option.some.inj h
  exact ba8 (.t rfl rfl .nil)
theorem aO1 {P : Program} [hc : ae4 P] {L : Nat} (p0 : Int) (p2 : Int)  : ∀ (r : Int),aw2 p0 p2 = some r → G .normal L F.ae6 [(0,.lit (.int .u64 p0)),(2,.lit (.int .i64 p2))] [] (Thn P K.aT8 (ab1 L K.ae6.res [.int .i64 r])):=by
 intro r h
 unfold aw2 at h
 refine y7 (aa1 (aa1 (aa2 (o6 (s_mv rfl) (o6 (s_ib rfl rfl rfl) (aa3 (y7 ?_)))))))
 by_cases h_4 : p0 ≥ 65536
 ·replace h:=iteT h h_4
  refine g_cT rfl (decide_eq_true h_4) (aa1 (aa2 (o6 (s_mv rfl) ?_)))
  obtain ⟨x_5,e_6,h⟩:=ac8 h
  refine o6 (s_ib rfl rfl (cD4 e_6)) (o6 (s_mv rfl) (aa3 (y7 (aa2 (o6 (s_mv rfl) (o6 (s_ib rfl rfl rfl) (o6 (s_mv rfl) ?_)))))))
  refine aa3 ?_
  exact co6 (subE.cons rfl (subE.cons rfl (subE.nil _))) .nil rfl (aO6 x_5 (G.addI p2 16)   _ h)
 ·replace h:=iteF h h_4
  refine g_cF rfl (decide_eq_false h_4) (ah1 ?_)
  exact co6 (subE.cons rfl (subE.cons rfl (subE.nil _))) .nil rfl (aO6 p0 p2   _ h)
theorem bK4 {P : Program} [hc : ae4 P] : S.ae6 P (ae6):=by
 intro a0 r h k0 args ha
 refine al5 (b:=K.ae6) rfl hc.ae6 (fun _=>rfl) rfl rfl ?_ ha
 rintro L _ ⟨_,_,rfl,rfl,rfl⟩
 unfold ae6 at h
 show GC P _ L F.ae6 [(0,.lit (.int .u64 a0))] [] (ab1 L K.ae6.res [.int .i64 r])
 refine aa1 (aa2 (o6 (s_mv rfl) (aa3 (y7 (aa1 (aa1 (aa2 ?_)))))))
 refine o6 (s_mv rfl) (o6 (s_ib rfl rfl rfl) (aa3 (y7 ?_)))
 by_cases h_1 : a0 ≥ 4294967296
 ·replace h:=iteT h h_1
  refine g_cT rfl (decide_eq_true h_1) (aa1 (aa2 (o6 (s_mv rfl) ?_)))
  obtain ⟨x_2,e_3,h⟩:=ac8 h
  refine o6 (s_ib rfl rfl (cD4 e_3)) (o6 (s_mv rfl) (aa3 (y7 (aa2 (o6 (s_mv rfl) (aa3 ?_))))))
  exact co6 (subE.cons rfl (subE.cons rfl (subE.nil _))) .nil rfl (aO1 x_2 32   _ h)
 ·replace h:=iteF h h_1
  refine g_cF rfl (decide_eq_false h_1) (ah1 ?_)
  exact co6 (subE.cons rfl (subE.cons rfl (subE.nil _))) .nil rfl (aO1 a0 0   _ h)
def S.ag7 (P : Program) (φ : Int → Option Int) : Prop:=∀ (a0 : Int) (r : Int),φ a0 = some r → ∀ (k0 : Nat) (args : List AV),RVN [.int .u64 a0] args → aV8 P F.ag7 args (ResC [.int .i64 r])
theorem bV9 {P : Program} [hc : ae4 P] : S.ag7 P (ag7):=by
 intro a0 r h k0 args ha
 refine al5 (b:=K.ag7) rfl hc.ag7 (fun _=>rfl) rfl rfl ?_ ha
 rintro L _ ⟨_,_,rfl,rfl,rfl⟩
 unfold ag7 at h
 show GC P _ L F.ag7 [(0,.lit (.int .u64 a0))] [] (ab1 L K.ag7.res [.int .i64 r])
 refine aa1 (aa2 (o6 (s_mv rfl) (aa3 (y7 (aa1 (c08 rfl (ah1 ?_)))))))
 refine y7 (aa1 (aa2 (o6 (s_mv rfl) ?_)))
 obtain ⟨x_1,e_2,h⟩:=ac8 h
 refine af5 (bI8 (rs:=[.int .u64 a0]) (fun _=>rfl) rfl (RVL.toN (L:=L + 1) ⟨_,_,rfl,rfl,rfl⟩) ((bK4) _ _ e_2 (L + 1) _)) ?_
 rintro _ rfl
 refine o6 (s_mv rfl) (aa3 (y7 (ap6 ?_)))
 obtain rfl:=Option.some.inj h
 exact ba8 (.t rfl rfl .nil)
open Go.RowKit
def S.o9 (P : Program) (φ : (List (List UInt8)) → Int → Int → Option Unit) : Prop:=∀ (a0 : (List (List UInt8))) (a1 : Int) (a2 : Int) (r : Unit),φ a0 a1 a2 = some r → ∀ (k0 : Nat) (args : List AV),RVN [.sl 1 (a0.map aa6),.int .i64 a1,.int .i64 a2] args → aV8 P F.o9 args (ResC [])
def ab8 (L : Nat) (p0 : (List (List UInt8))) (p1 : Int) (p2 : Int) (v0 : AV)  : Int → BT → AS → Prop:=fun p6 T S=>Ag [(0,v0),(1,.lit (.int .i64 p1)),(2,.lit (.int .i64 p2)),(6,.lit (.int .i64 p6))] T ∧ StA S L F.o9 []
def ad2 (L : Nat) (p0 : (List (List UInt8))) (p1 : Int) (p2 : Int) (v0 : AV)  : Unit → BT → AS → Prop:=fun _ T S=>Ag [] T ∧ StA S L F.o9 []
def ag8 (L : Nat) (p0 : (List (List UInt8))) (p1 : Int) (p2 : Int) (p6 : Int) (v0 : AV)  : Int → BT → AS → Prop:=fun p7 T S=>Ag [(0,v0),(1,.lit (.int .i64 p1)),(2,.lit (.int .i64 p2)),(6,.lit (.int .i64 p6)),(7,.lit (.int .i64 p7))] T ∧ StA S L F.o9 []
def ak0 (L : Nat) (p0 : (List (List UInt8))) (p1 : Int) (p2 : Int) (p6 : Int) (v0 : AV)  : Unit → BT → AS → Prop:=fun _ T S=>Ag [(0,v0),(1,.lit (.int .i64 p1)),(2,.lit (.int .i64 p2)),(6,.lit (.int .i64 p6))] T ∧ StA S L F.o9 []
theorem aw4 {P : Program} [hc : ae4 P] {L : Nat} (p0 : (List (List UInt8))) (p1 : Int) (p2 : Int) (p6 : Int) {v0 : AV} (r0 : RelC (.sl 1 (p0.map aa6)) v0) : ∀ (s : Int) (c : Ctl Int Unit (Ctl Int Unit Unit)),ak9 p0 p1 p2 p6 s = some c → ∀ T S,ag8 L p0 p1 p2 p6 v0 s T S → RunB P K.ak8 T S (am1 2 (ag8 L p0 p1 p2 p6 v0) (ak0 L p0 p1 p2 p6 v0) (fun r=>am1 0 (ab8 L p0 p1 p2 v0) (ad2 L p0 p1 p2 v0) (fun r=>ab1 L K.o9.res []) r) c):=by
 rintro p7 c h T S ⟨hT,hS⟩
 unfold ak9 at h
 refine (show GC P K.ak8 L F.o9 [(0,v0),(1,.lit (.int .i64 p1)),(2,.lit (.int .i64 p2)),(6,.lit (.int .i64 p6)),(7,.lit (.int .i64 p7))] [] (am1 2 (ag8 L p0 p1 p2 p6 v0) (ak0 L p0 p1 p2 p6 v0) (fun r=>am1 0 (ab8 L p0 p1 p2 v0) (ad2 L p0 p1 p2 v0) (fun r=>ab1 L K.o9.res []) r) c) from ?_) T S hT hS
 refine aa1 (aa1 (au7 (o6 (s_mv rfl) (o6 (s_mv rfl) (o6 (s_ib rfl rfl rfl) (o6 (s_mv rfl) ?_))))))
 refine aN5 (gb:=(decide (p7 > p1))) (af:=af0) (Q:=fun u=>u = v0) rfl (af7 _) (fun hg=>?_) ?_
 ·exact s_mv rfl
 intro v_4 hv_2 hu_3
 refine aN5 (gb:=(decide (p7 > p1))) (af:=af0) (Q:=fun u=>u = .lit (.int .i64 p7)) rfl (af7 _) (fun hg=>?_) ?_
 ·exact s_mv rfl
 intro v_7 hv_5 hu_6
 obtain ⟨x_10,e_11,h⟩:=ac8 h
 refine aN5 (gb:=(decide (p7 > p1))) (af:=af0) (Q:=fun u=>∃ zs,u = .cref zs ∧ RelP (aa6 x_10) zs) rfl (af7 _) (fun hg=>?_) ?_
 ·obtain rfl:=(hv_2 hg).symm; obtain rfl:=(hv_5 hg).symm; exact s_ia (c:=aa6) rfl r0.toS rfl (whenT e_11 hg)
 intro v_14 hv_12 hu_13
 refine aN5 (gb:=(decide (p7 > p1))) (af:=af0) (Q:=fun u=>u = .lit (.string (bs x_10))) rfl (af7 _) (fun hg=>?_) ?_
 ·obtain ⟨c_8,rfl,r_9⟩:=hv_12 hg; exact aC3 (v:=.str x_10) (a:=.lit (.string (bs x_10))) rfl r_9 rfl (fun _=>aq8)
 intro v_17 hv_15 hu_16
 refine aN5 (gb:=(decide (p7 > p1))) (af:=af0) (Q:=fun u=>u = v0) rfl (af7 _) (fun hg=>?_) ?_
 ·exact s_mv rfl
 intro v_20 hv_18 hu_19
 refine aN5 (gb:=(decide (p7 > p1))) (af:=af0) (Q:=fun u=>u = .lit (.int .i64 p7)) rfl (af7 _) (fun hg=>?_) ?_
 ·exact s_mv rfl
 intro v_23 hv_21 hu_22
 refine aN5 (gb:=(decide (p7 > p1))) (af:=af0) (Q:=fun u=>u = .lit (.int .i64 (G.subI p7 1))) rfl (af7 _) (fun hg=>?_) ?_
 ·obtain rfl:=(hv_21 hg).symm; exact s_ib rfl rfl rfl
 intro v_26 hv_24 hu_25
 obtain ⟨x_29,e_30,h⟩:=ac8 h
 refine aN5 (gb:=(decide (p7 > p1))) (af:=af0) (Q:=fun u=>∃ zs,u = .cref zs ∧ RelP (aa6 x_29) zs) rfl (af7 _) (fun hg=>?_) ?_
 ·obtain rfl:=(hv_18 hg).symm; obtain rfl:=(hv_24 hg).symm; exact s_ia (c:=aa6) rfl r0.toS rfl (whenT e_30 hg)
 intro v_33 hv_31 hu_32
 refine aN5 (gb:=(decide (p7 > p1))) (af:=af0) (Q:=fun u=>u = .lit (.string (bs x_29))) rfl (af7 _) (fun hg=>?_) ?_
 ·obtain ⟨c_27,rfl,r_28⟩:=hv_31 hg; exact aC3 (v:=.str x_29) (a:=.lit (.string (bs x_29))) rfl r_28 rfl (fun _=>aq8)
 intro v_36 hv_34 hu_35
 by_cases h_37 : decide (p7 > p1) = true
 ·replace h:=iteT h h_37
  refine aX1 rfl ((af7 _).trans h_37) ?_
  cases h
 ·replace h:=iteF h h_37
  replace h_37:=Bool.eq_false_iff.2 h_37
  refine aX3 rfl ((af7 _).trans h_37) (o6 (cG1 (b:=false) rfl rfl (fun hq=>by have hz:=hq; first | (rw [h_37] at hz; cases hz) | simp [h_37] at hz <;> rfl)) (aC8 rfl (y7 ?_)))
  by_cases h_38 : ((decide (p7 > p1)) && false) = true
  ·replace h:=iteT h h_38
   refine g_cT rfl h_38 (ah1 (y7 (aa1 (ag3 (au7 (o6 (s_mv rfl) (o6 (s_mv rfl) ?_)))))))
   refine o6 (s_mv rfl) (o6 (s_mv rfl) (o6 (s_ib rfl rfl rfl) (o6 (s_mv rfl) (o6 (s_mv rfl) (o6 (s_ib rfl rfl rfl) ?_)))))
   obtain ⟨x_41,e_42,h⟩:=ac8 h
   refine af5 (s_ia (c:=aa6) rfl r0.toS rfl e_42) ?_
   rintro _ ⟨c_39,rfl,r_40⟩
   refine o6 (aC3 (v:=.str x_41) (a:=.lit (.string (bs x_41))) rfl r_40 rfl (fun _=>aq8)) (o6 (s_mv rfl) (o6 (s_mv rfl) ?_))
   obtain ⟨x_45,e_46,h⟩:=ac8 h
   refine af5 (s_ia (c:=aa6) rfl r0.toS rfl e_46) ?_
   rintro _ ⟨c_43,rfl,r_44⟩
   refine o6 (aC3 (v:=.str x_45) (a:=.lit (.string (bs x_45))) rfl r_44 rfl (fun _=>aq8)) ?_
   obtain ⟨x_49,e_50,h⟩:=ac8 h
   refine af5 (s_ia (c:=aa6) rfl r0.toS rfl e_50) ?_
   rintro _ ⟨c_47,rfl,r_48⟩
   cases h
  ·replace h:=iteF h h_38
   refine g_cF rfl (Bool.eq_false_iff.2 h_38) (aA5 (aA3 ?_))
   obtain rfl:=Option.some.inj h
   exact fun T S hT hS=>⟨rfl,⟨hT.sub (subE.cons rfl (subE.cons rfl (subE.cons rfl (subE.cons rfl (subE.nil _))))),hS.sub .nil rfl⟩⟩
theorem aw3 {P : Program} [hc : ae4 P] {L : Nat} (p0 : (List (List UInt8))) (p1 : Int) (p2 : Int) {v0 : AV} (r0 : RelC (.sl 1 (p0.map aa6)) v0) : ∀ (s : Int) (c : Ctl Int Unit Unit),ah7 p0 p1 p2 s = some c → ∀ T S,ab8 L p0 p1 p2 v0 s T S → RunB P K.al0 T S (am1 0 (ab8 L p0 p1 p2 v0) (ad2 L p0 p1 p2 v0) (fun r=>ab1 L K.o9.res []) c):=by
 rintro p6 c h T S ⟨hT,hS⟩
 unfold ah7 at h
 refine (show GC P K.al0 L F.o9 [(0,v0),(1,.lit (.int .i64 p1)),(2,.lit (.int .i64 p2)),(6,.lit (.int .i64 p6))] [] (am1 0 (ab8 L p0 p1 p2 v0) (ad2 L p0 p1 p2 v0) (fun r=>ab1 L K.o9.res []) c) from ?_) T S hT hS
 refine aa1 (aa1 (aa2 (o6 (s_mv rfl) (o6 (s_mv rfl) (o6 (s_ib rfl rfl rfl) (aa3 (y7 ?_)))))))
 by_cases h_1 : p6 < p2
 ·replace h:=iteT h h_1
  refine g_cT rfl (decide_eq_true h_1) (ah1 (y7 (aa1 (ag3 (aa1 (aa2 (o6 (s_mv rfl) ?_)))))))
  refine o6 (s_mv rfl) (aa3 (y7 (ag3 ?_)))
  obtain ⟨o_51,e_52,h⟩:=ac8 h
  refine aA8 (IN:=ag8 L p0 p1 p2 p6 v0) (IB:=ak0 L p0 p1 p2 p6 v0) (IR:=fun r=>am1 0 (ab8 L p0 p1 p2 v0) (ad2 L p0 p1 p2 v0) (fun r=>ab1 L K.o9.res []) r) e_52 (aw4 p0 p1 p2 p6 (v0:=v0) r0) (fun T S hT hS=>⟨hT.sub (subE.cons rfl (subE.cons rfl (subE.cons rfl (subE.cons rfl (subE.cons rfl (subE.nil _)))))),hS.sub .nil rfl⟩) ?_
  rintro x T S hO
  cases o_51 with
  | brk s =>
   obtain ⟨rfl,hT,hS⟩:=hO
   refine (show G (.exit 2) L F.o9 [(0,v0),(1,.lit (.int .i64 p1)),(2,.lit (.int .i64 p2)),(6,.lit (.int .i64 p6))] [] (Blk 2 (Blk 1 (Thn P K.ap7 (am1 0 (ab8 L p0 p1 p2 v0) (ad2 L p0 p1 p2 v0) (fun r=>ab1 L K.o9.res []) c)))) from ?_) T S hT hS
   refine ay3 (ak4 (y7 (aa2 (o6 (s_mv rfl) (o6 (s_ib rfl rfl rfl) (o6 (s_mv rfl) (aa3 ?_)))))))
   obtain rfl:=Option.some.inj h
   exact fun T S hT hS=>⟨rfl,⟨hT.sub (subE.cons rfl (subE.cons rfl (subE.cons rfl (subE.cons rfl (subE.nil _))))),hS.sub .nil rfl⟩⟩
  | ret r =>
   obtain rfl:=Option.some.inj h
   obtain ⟨rfl,hO⟩:=hO
   exact hO
 ·replace h:=iteF h h_1
  refine g_cF rfl (decide_eq_false h_1) (aA5 (aA3 ?_))
  obtain rfl:=Option.some.inj h
  exact fun T S hT hS=>⟨rfl,⟨hT.sub (subE.nil _),hS.sub .nil rfl⟩⟩
theorem az0 {P : Program} [hc : ae4 P] : S.o9 P (o9):=by
 intro a0 a1 a2 r h k0 args ha
 refine al5 (b:=K.o9) rfl hc.o9 (fun _=>rfl) rfl rfl ?_ ha
 rintro L _ ⟨av0,_,rfl,ar0,_,_,rfl,rfl,_,_,rfl,rfl,rfl⟩
 unfold o9 at h
 show GC P _ L F.o9 [(0,av0),(1,.lit (.int .i64 a1)),(2,.lit (.int .i64 a2))] [] (ab1 L K.o9.res [])
 refine aa1 (aa2 (o6 (s_mv rfl) (o6 (s_ib rfl rfl rfl) (o6 (s_mv rfl) (aa3 (y7 (ag3 ?_)))))))
 obtain ⟨o_54,e_55,h⟩:=ac8 h
 refine aA8 (IN:=ab8 L a0 a1 a2 av0) (IB:=ad2 L a0 a1 a2 av0) (IR:=fun r=>ab1 L K.o9.res []) e_55 (aw3 a0 a1 a2 (v0:=av0) ar0) (fun T S hT hS=>⟨hT.sub (subE.cons rfl (subE.cons rfl (subE.cons rfl (subE.cons rfl (subE.nil _))))),hS.sub .nil rfl⟩) ?_
 rintro x T S hO
 cases o_54 with
 | brk s =>
  obtain ⟨rfl,hT,hS⟩:=hO
  refine (show G (.exit 0) L F.o9 [] [] (Blk 0 (ab1 L K.o9.res [])) from ?_) T S hT hS
  refine ay3 ?_
  obtain rfl:=Option.some.inj h
  exact ba8 .nil
 | ret r =>
  obtain rfl:=Option.some.inj h
  obtain ⟨rfl,hO⟩:=hO
  exact hO
def S.x8 (P : Program) (φ : (List (List UInt8)) → Int → Int → Int → Option Unit) : Prop:=∀ (a0 : (List (List UInt8))) (a1 : Int) (a2 : Int) (a3 : Int) (r : Unit),φ a0 a1 a2 a3 = some r → ∀ (k0 : Nat) (args : List AV),RVN [.sl 1 (a0.map aa6),.int .i64 a1,.int .i64 a2,.int .i64 a3] args → aV8 P F.x8 args (ResC [])
def ah0 (L : Nat) (p0 : (List (List UInt8))) (v0 : AV)  : (Int × Int × Int × Bool × Bool) → BT → AS → Prop:=fun (p1,p2,p3,p8,p9) T S=>Ag [(0,v0),(1,.lit (.int .i64 p1)),(2,.lit (.int .i64 p2)),(3,.lit (.int .i64 p3)),(8,.lit (.bool p8)),(9,.lit (.bool p9))] T ∧ StA S L F.x8 []
def aj9 (L : Nat) (p0 : (List (List UInt8))) (v0 : AV)  : Unit → BT → AS → Prop:=fun _ T S=>Ag [] T ∧ StA S L F.x8 []
theorem aD1 {P : Program} [hc : ae4 P] (fu : Nat) (rec_slices_pdqsortOrdered_string : (List (List UInt8)) → Int → Int → Int → Option Unit) (hr_slices_pdqsortOrdered_string : S.x8 P rec_slices_pdqsortOrdered_string) {L : Nat} (p0 : (List (List UInt8))) (p1 : Int) (p2 : Int) (p3 : Int) (p8 : Bool) (p9 : Bool) (p10 : Int) {v0 : AV} (r0 : RelC (.sl 1 (p0.map aa6)) v0) : ∀ (c : Ctl (Int × Int × Int × Bool × Bool) Unit Unit),an8 fu rec_slices_pdqsortOrdered_string p0 p1 p2 p3 p8 p9 p10 = some c → G .normal L F.x8 [(0,v0),(1,.lit (.int .i64 p1)),(2,.lit (.int .i64 p2)),(3,.lit (.int .i64 p3)),(8,.lit (.bool p8)),(9,.lit (.bool p9)),(10,.lit (.int .i64 p10))] [] (Thn P K.as8 (Blk 1 (am1 0 (ah0 L p0 v0) (aj9 L p0 v0) (fun r=>ab1 L K.x8.res []) c))):=by
 intro c h
 unfold an8 at h
 refine y7 (aa1 (aa2 (o6 (s_mv rfl) (o6 (s_mv rfl) (o6 (s_mv rfl) ?_)))))
 cases h
theorem aD4 {P : Program} [hc : ae4 P] (fu : Nat) (rec_slices_pdqsortOrdered_string : (List (List UInt8)) → Int → Int → Int → Option Unit) (hr_slices_pdqsortOrdered_string : S.x8 P rec_slices_pdqsortOrdered_string) {L : Nat} (p0 : (List (List UInt8))) {v0 : AV} (r0 : RelC (.sl 1 (p0.map aa6)) v0) : ∀ (s : (Int × Int × Int × Bool × Bool)) (c : Ctl (Int × Int × Int × Bool × Bool) Unit Unit),ah9 fu rec_slices_pdqsortOrdered_string p0 s = some c → ∀ T S,ah0 L p0 v0 s T S → RunB P K.an1 T S (am1 0 (ah0 L p0 v0) (aj9 L p0 v0) (fun r=>ab1 L K.x8.res []) c):=by
 rintro ⟨p1,p2,p3,p8,p9⟩ c h T S ⟨hT,hS⟩
 unfold ah9 at h
 refine (show GC P K.an1 L F.x8 [(0,v0),(1,.lit (.int .i64 p1)),(2,.lit (.int .i64 p2)),(3,.lit (.int .i64 p3)),(8,.lit (.bool p8)),(9,.lit (.bool p9))] [] (am1 0 (ah0 L p0 v0) (aj9 L p0 v0) (fun r=>ab1 L K.x8.res []) c) from ?_) T S hT hS
 refine ag3 (aa1 (aa2 (o6 (s_mv rfl) (o6 (s_mv rfl) (o6 (s_ib rfl rfl rfl) (o6 (s_mv rfl) (aa3 ?_)))))))
 refine y7 (aa1 (aa1 (aa2 (o6 (s_mv rfl) (o6 (s_ib rfl rfl rfl) (aa3 (y7 ?_)))))))
 by_cases h_1 : (G.subI p2 p1) ≤ 12
 ·replace h:=iteT h h_1
  refine g_cT rfl (decide_eq_true h_1) (aa1 (aa2 (o6 (s_mv rfl) (o6 (s_mv rfl) (o6 (s_mv rfl) ?_)))))
  obtain ⟨x_2,e_3,h⟩:=ac8 h
  refine af5 (bI8 (rs:=[.sl 1 (p0.map aa6),.int .i64 p1,.int .i64 p2]) (fun _=>rfl) rfl (RVL.toN (L:=L + 1) ⟨_,_,rfl,r0.toS,_,_,rfl,rfl,_,_,rfl,rfl,rfl⟩) ((az0) _ _ _ _ e_3 (L + 1) _)) ?_
  rintro _ ⟨_,rfl,rfl⟩
  refine aa3 (y7 (ap6 (aU1 (cw1 ?_))))
  obtain rfl:=Option.some.inj h
  exact fun T S hT hS=>⟨rfl,(ba8 (x:=.ret) (rs:=[]) .nil) T S hT hS⟩
 ·replace h:=iteF h h_1
  refine g_cF rfl (decide_eq_false h_1) (ah1 (y7 (aa1 (aa1 (aa2 (o6 (s_mv rfl) (o6 (s_ib rfl rfl rfl) ?_)))))))
  refine aa3 (y7 ?_)
  by_cases h_4 : p3 = 0
  ·replace h:=iteT h h_4
   refine g_cT rfl (decide_eq_true h_4) (aa1 (aa2 (o6 (s_mv rfl) (o6 (s_mv rfl) (o6 (s_mv rfl) ?_)))))
   cases h
  ·replace h:=iteF h h_4
   refine g_cF rfl (decide_eq_false h_4) (ah1 (y7 (aa1 (aa1 (aa2 (o6 (s_mv rfl) (o6 (s_nt rfl) ?_)))))))
   refine aa3 (y7 ?_)
   by_cases h_5 : (!p8) = true
   ·replace h:=iteT h h_5
    refine g_cT rfl h_5 (aa1 (aa2 (o6 (s_mv rfl) (o6 (s_mv rfl) (o6 (s_mv rfl) ?_)))))
    cases h
   ·replace h:=iteF h h_5
    refine g_cF rfl (Bool.eq_false_iff.2 h_5) (ah1 ?_)
    exact co6 (subE.cons rfl (subE.cons rfl (subE.cons rfl (subE.cons rfl (subE.cons rfl (subE.cons rfl (subE.cons rfl (subE.nil _)))))))) .nil rfl (aD1 fu rec_slices_pdqsortOrdered_string hr_slices_pdqsortOrdered_string p0 p1 p2 p3 p8 p9 (G.subI p2 p1) (v0:=v0) r0 _ h)
theorem aA6 {P : Program} [hc : ae4 P] (fu : Nat) (rec_slices_pdqsortOrdered_string : (List (List UInt8)) → Int → Int → Int → Option Unit) (hr_slices_pdqsortOrdered_string : S.x8 P rec_slices_pdqsortOrdered_string) : S.x8 P (ag9 fu rec_slices_pdqsortOrdered_string):=by
 intro a0 a1 a2 a3 r h k0 args ha
 refine al5 (b:=K.x8) rfl hc.x8 (fun _=>rfl) rfl rfl ?_ ha
 rintro L _ ⟨av0,_,rfl,ar0,_,_,rfl,rfl,_,_,rfl,rfl,_,_,rfl,rfl,rfl⟩
 unfold ag9 at h
 show GC P _ L F.x8 [(0,av0),(1,.lit (.int .i64 a1)),(2,.lit (.int .i64 a2)),(3,.lit (.int .i64 a3))] [] (ab1 L K.x8.res [])
 refine aa1 (aa2 (o6 (s_mv rfl) (aa3 (y7 (aa1 (aa2 (o6 (s_mv rfl) ?_)))))))
 refine aa3 (y7 (ag3 ?_))
 obtain ⟨o_6,e_7,h⟩:=ac8 h
 refine aA8 (IN:=ah0 L a0 av0) (IB:=aj9 L a0 av0) (IR:=fun r=>ab1 L K.x8.res []) e_7 (aD4 fu rec_slices_pdqsortOrdered_string hr_slices_pdqsortOrdered_string a0 (v0:=av0) ar0) (fun T S hT hS=>⟨hT.sub (subE.cons rfl (subE.cons rfl (subE.cons rfl (subE.cons rfl (subE.cons rfl (subE.cons rfl (subE.nil _))))))),hS.sub .nil rfl⟩) ?_
 rintro x T S hO
 cases o_6 with
 | brk s =>
  obtain ⟨rfl,hT,hS⟩:=hO
  refine (show G (.exit 0) L F.x8 [] [] (Blk 0 (ab1 L K.x8.res [])) from ?_) T S hT hS
  refine ay3 ?_
  obtain rfl:=Option.some.inj h
  exact ba8 .nil
 | ret r =>
  obtain rfl:=Option.some.inj h
  obtain ⟨rfl,hO⟩:=hO
  exact hO
theorem aB0 {P : Program} [hc : ae4 P] : ∀ fu : Nat,S.x8 P (x8 fu):=by
 intro fu
 induction fu with
 | zero =>
  refine ?_
  ·intro a0 a1 a2 a3 r h
   simp [x8] at h
 | succ fu ih =>
  have i0:=ih
  refine ?_
  ·intro a0 a1 a2 a3 r h
   rw [x8] at h
   exact aA6 fu (x8 fu) i0 a0 a1 a2 a3 r h
theorem aJ6 {P : Program} [hc : ae4 P] (fu : Nat) : S.x8 P (x8 fu):=(aB0 fu)
def S.aa7 (P : Program) (φ : (List (List UInt8)) → Option Unit) : Prop:=∀ (a0 : (List (List UInt8))) (r : Unit),φ a0 = some r → ∀ (k0 : Nat) (args : List AV),RVN [.sl 1 (a0.map aa6)] args → aV8 P F.aa7 args (ResC [])
theorem aP3 {P : Program} [hc : ae4 P] (fu : Nat) : S.aa7 P (aa7 fu):=by
 intro a0 r h k0 args ha
 refine al5 (b:=K.aa7) rfl hc.aa7 (fun _=>rfl) rfl rfl ?_ ha
 rintro L _ ⟨av0,_,rfl,ar0,rfl⟩
 unfold aa7 at h
 show GC P _ L F.aa7 [(0,av0)] [] (ab1 L K.aa7.res [])
 refine aa1 (aa2 (o6 (s_mv rfl) (o6 (ba7 (c:=aa6) rfl ar0) (o6 (s_mv rfl) (aa3 (y7 (aa2 ?_)))))))
 refine o6 (s_mv rfl) (o6 (s_mv rfl) (o6 (s_mv rfl) (o6 (cS8 rfl) ?_)))
 obtain ⟨x_1,e_2,h⟩:=ac8 h
 refine af5 (bI8 (rs:=[.int .u64 (IntKind.u64.wrap (a0.length : Int))]) (fun _=>rfl) rfl (RVL.toN (L:=L + 1) ⟨_,_,rfl,rfl,rfl⟩) ((bV9) _ _ e_2 (L + 1) _)) ?_
 rintro _ rfl
 obtain ⟨x_3,e_4,h⟩:=ac8 h
 refine af5 (bI8 (rs:=[.sl 1 (a0.map aa6),.int .i64 0,.int .i64 (a0.length : Int),.int .i64 x_1]) (fun _=>rfl) rfl (RVL.toN (L:=L + 1) ⟨_,_,rfl,ar0.toS,_,_,rfl,rfl,_,_,rfl,rfl,_,_,rfl,rfl,rfl⟩) ((aJ6 fu) _ _ _ _ _ e_4 (L + 1) _)) ?_
 rintro _ ⟨_,rfl,rfl⟩
 refine aa3 ?_
 obtain rfl:=Option.some.inj h
 exact ba8 .nil
def S.x9 (P : Program) (φ : (List (List UInt8)) → Option (List (List UInt8))) : Prop:=∀ (a0 : (List (List UInt8))) (r : (List (List UInt8))),φ a0 = some r → ∀ (k0 : Nat) (args : List AV),RVN [.sl 1 (a0.map aa6)] args → aV8 P F.x9 args (ResC [.sl 1 (r.map aa6)])
def ad8 (L : Nat) (p0 : (List (List UInt8))) (v0 : AV)  : Int → BT → AS → Prop:=fun p3 T S=>Ag [(0,v0),(3,.lit (.int .i64 p3))] T ∧ StA S L F.x9 []
def ae8 (L : Nat) (p0 : (List (List UInt8))) (v0 : AV)  : Unit → BT → AS → Prop:=fun _ T S=>Ag [(0,v0)] T ∧ StA S L F.x9 []
def aj6 (L : Nat) (p0 : (List (List UInt8))) (p4 : (List (List UInt8))) (v0 : AV) (v4 : AV)  : (Int × Int) → BT → AS → Prop:=fun (p3,p5) T S=>Ag [(0,v0),(3,.lit (.int .i64 p3)),(4,v4),(5,.lit (.int .i64 p5))] T ∧ StA S L F.x9 []
def am0 (L : Nat) (p0 : (List (List UInt8))) (p4 : (List (List UInt8))) (v0 : AV) (v4 : AV)  : Int → BT → AS → Prop:=fun p3 T S=>Ag [(0,v0),(3,.lit (.int .i64 p3))] T ∧ StA S L F.x9 []
theorem aD3 {P : Program} [hc : ae4 P] {L : Nat} (p0 : (List (List UInt8))) (p4 : (List (List UInt8))) {v0 : AV} {v4 : AV} (r0 : RelC (.sl 1 (p0.map aa6)) v0) (r4 : RelS (L + 1) (.sl 1 (p4.map aa6)) v4) : ∀ (s : (Int × Int)) (c : Ctl (Int × Int) Int (Ctl Int Unit (List (List UInt8)))),ao1 p0 p4 s = some c → ∀ T S,aj6 L p0 p4 v0 v4 s T S → RunB P K.an7 T S (am1 2 (aj6 L p0 p4 v0 v4) (am0 L p0 p4 v0 v4) (fun r=>am1 0 (ad8 L p0 v0) (ae8 L p0 v0) (fun r=>ab1 L K.x9.res [.sl 1 (r.map aa6)]) r) c):=by
 rintro ⟨p3,p5⟩ c h T S ⟨hT,hS⟩
 unfold ao1 at h
 refine (show GC P K.an7 L F.x9 [(0,v0),(3,.lit (.int .i64 p3)),(4,v4),(5,.lit (.int .i64 p5))] [] (am1 2 (aj6 L p0 p4 v0 v4) (am0 L p0 p4 v0 v4) (fun r=>am1 0 (ad8 L p0 v0) (ae8 L p0 v0) (fun r=>ab1 L K.x9.res [.sl 1 (r.map aa6)]) r) c) from ?_) T S hT hS
 refine aa1 (aa1 (aa2 (o6 (s_mv rfl) (o6 (s_mv rfl) (o6 (s_ll (c:=aa6) rfl r4) (o6 (s_ib rfl rfl rfl) (aa3 ?_)))))))
 refine y7 ?_
 by_cases h_16 : p5 < (p4.length : Int)
 ·replace h:=iteT h h_16
  refine g_cT rfl (decide_eq_true h_16) (ah1 (y7 (aa1 (ag3 (aa1 (au7 (o6 (s_mv rfl) ?_)))))))
  refine o6 (s_mv rfl) ?_
  obtain ⟨x_19,e_20,h⟩:=ac8 h
  refine af5 (s_ia (c:=aa6) rfl r4 rfl e_20) ?_
  rintro _ ⟨c_17,rfl,r_18⟩
  refine o6 (aC3 (v:=.str x_19) (a:=.lit (.string (bs x_19))) rfl r_18 rfl (fun _=>aq8)) (o6 (s_mv rfl) (o6 (s_mv rfl) (o6 (s_ib rfl rfl rfl) ?_)))
  obtain ⟨x_23,e_24,h⟩:=ac8 h
  refine af5 (s_ia (c:=aa6) rfl r4 rfl e_24) ?_
  rintro _ ⟨c_21,rfl,r_22⟩
  refine o6 (aC3 (v:=.str x_23) (a:=.lit (.string (bs x_23))) rfl r_22 rfl (fun _=>aq8)) (o6 (s_sne rfl rfl) (aC8 rfl (y7 ?_)))
  by_cases h_25 : x_19 ≠ x_23
  ·replace h:=iteT h h_25
   refine g_cT rfl (decide_eq_true h_25) (aa1 (aa2 (o6 (s_mv rfl) (o6 (s_mv rfl) (o6 (s_mv rfl) (o6 (s_mv rfl) ?_))))))
   obtain ⟨x_28,e_29,h⟩:=ac8 h
   refine af5 (s_ia (c:=aa6) rfl r4 rfl e_29) ?_
   rintro _ ⟨c_26,rfl,r_27⟩
   refine o6 (aC3 (v:=.str x_28) (a:=.lit (.string (bs x_28))) rfl r_27 rfl (fun _=>aq8)) ?_
   obtain ⟨x_32,e_33,h⟩:=ac8 h
   refine af5 (s_ia (c:=aa6) rfl r0.toS rfl e_33) ?_
   rintro _ ⟨c_30,rfl,r_31⟩
   cases h
  ·replace h:=iteF h h_25
   refine g_cF rfl (decide_eq_false h_25) (ah1 (ak4 (y7 (aa2 (o6 (s_mv rfl) (o6 (s_ib rfl rfl rfl) (o6 (s_mv rfl) ?_)))))))
   refine aa3 ?_
   obtain rfl:=Option.some.inj h
   exact fun T S hT hS=>⟨rfl,⟨hT.sub (subE.cons rfl (subE.cons rfl (subE.cons rfl (subE.cons rfl (subE.nil _))))),hS.sub .nil rfl⟩⟩
 ·replace h:=iteF h h_16
  refine g_cF rfl (decide_eq_false h_16) (aA5 (aA3 ?_))
  obtain rfl:=Option.some.inj h
  exact fun T S hT hS=>⟨rfl,⟨hT.sub (subE.cons rfl (subE.cons rfl (subE.nil _))),hS.sub .nil rfl⟩⟩
theorem aD2 {P : Program} [hc : ae4 P] {L : Nat} (p0 : (List (List UInt8))) {v0 : AV} (r0 : RelC (.sl 1 (p0.map aa6)) v0) : ∀ (s : Int) (c : Ctl Int Unit (List (List UInt8))),an9 p0 s = some c → ∀ T S,ad8 L p0 v0 s T S → RunB P K.an4 T S (am1 0 (ad8 L p0 v0) (ae8 L p0 v0) (fun r=>ab1 L K.x9.res [.sl 1 (r.map aa6)]) c):=by
 rintro p3 c h T S ⟨hT,hS⟩
 unfold an9 at h
 refine (show GC P K.an4 L F.x9 [(0,v0),(3,.lit (.int .i64 p3))] [] (am1 0 (ad8 L p0 v0) (ae8 L p0 v0) (fun r=>ab1 L K.x9.res [.sl 1 (r.map aa6)]) c) from ?_) T S hT hS
 refine aa1 (aa1 (aa2 (o6 (s_mv rfl) (o6 (s_mv rfl) (o6 (ba7 (c:=aa6) rfl r0) (o6 (s_ib rfl rfl rfl) (aa3 ?_)))))))
 refine y7 ?_
 by_cases h_2 : p3 < (p0.length : Int)
 ·replace h:=iteT h h_2
  refine g_cT rfl (decide_eq_true h_2) (ah1 (y7 (aa1 (ag3 (aa1 (au7 (o6 (s_mv rfl) ?_)))))))
  refine o6 (s_mv rfl) ?_
  obtain ⟨x_5,e_6,h⟩:=ac8 h
  refine af5 (s_ia (c:=aa6) rfl r0.toS rfl e_6) ?_
  rintro _ ⟨c_3,rfl,r_4⟩
  refine o6 (aC3 (v:=.str x_5) (a:=.lit (.string (bs x_5))) rfl r_4 rfl (fun _=>aq8)) (o6 (s_mv rfl) (o6 (s_mv rfl) (o6 (s_ib rfl rfl rfl) ?_)))
  obtain ⟨x_9,e_10,h⟩:=ac8 h
  refine af5 (s_ia (c:=aa6) rfl r0.toS rfl e_10) ?_
  rintro _ ⟨c_7,rfl,r_8⟩
  refine o6 (aC3 (v:=.str x_9) (a:=.lit (.string (bs x_9))) rfl r_8 rfl (fun _=>aq8)) (o6 (s_seq1 rfl rfl) (aC8 rfl (y7 ?_)))
  by_cases h_11 : x_5 = x_9
  ·replace h:=iteT h h_11
   refine g_cT rfl (decide_eq_true h_11) (aa1 (aa2 (o6 (s_mv rfl) (o6 (s_mv rfl) ?_))))
   obtain ⟨x_12,e_13,h⟩:=ac8 h
   refine af5 (s_slL (c:=aa6) rfl r0.toS rfl e_13) ?_
   rintro v_14 r_15
   refine o6 (s_mv rfl) (aa3 (y7 (aa1 (aa1 (aa2 (o6 (s_mv rfl) (aa3 ?_)))))))
   refine y7 (ag3 ?_)
   obtain ⟨o_34,e_35,h⟩:=ac8 h
   refine aA8 (IN:=aj6 L p0 x_12 v0 v_14) (IB:=am0 L p0 x_12 v0 v_14) (IR:=fun r=>am1 0 (ad8 L p0 v0) (ae8 L p0 v0) (fun r=>ab1 L K.x9.res [.sl 1 (r.map aa6)]) r) e_35 (aD3 p0 x_12 (v0:=v0) (v4:=v_14) r0 r_15) (fun T S hT hS=>⟨hT.sub (subE.cons rfl (subE.cons rfl (subE.cons rfl (subE.cons rfl (subE.nil _))))),hS.sub .nil rfl⟩) ?_
   rintro x T S hO
   cases o_34 with
   | brk p3b_36 =>
    obtain ⟨rfl,hT,hS⟩:=hO
    refine (show G (.exit 2) L F.x9 [(0,v0),(3,.lit (.int .i64 p3b_36))] [] (Blk 2 (Thn P K.au1 (Blk 1 (Thn P K.au2 (am1 0 (ad8 L p0 v0) (ae8 L p0 v0) (fun r=>ab1 L K.x9.res [.sl 1 (r.map aa6)]) c))))) from ?_) T S hT hS
    refine ay3 (y7 (aa1 (aa2 (o6 (s_mv rfl) (o6 (s_mv rfl) ?_)))))
    obtain ⟨x_37,e_38,h⟩:=ac8 h
    refine af5 (s_slL (c:=aa6) rfl r0.toS rfl e_38) ?_
    rintro v_39 r_40
    cases h
   | ret r =>
    obtain rfl:=Option.some.inj h
    obtain ⟨rfl,hO⟩:=hO
    exact hO
  ·replace h:=iteF h h_11
   refine g_cF rfl (decide_eq_false h_11) (ah1 (ak4 (y7 (aa2 (o6 (s_mv rfl) (o6 (s_ib rfl rfl rfl) (o6 (s_mv rfl) ?_)))))))
   refine aa3 ?_
   obtain rfl:=Option.some.inj h
   exact fun T S hT hS=>⟨rfl,⟨hT.sub (subE.cons rfl (subE.cons rfl (subE.nil _))),hS.sub .nil rfl⟩⟩
 ·replace h:=iteF h h_2
  refine g_cF rfl (decide_eq_false h_2) (aA5 (aA3 ?_))
  obtain rfl:=Option.some.inj h
  exact fun T S hT hS=>⟨rfl,⟨hT.sub (subE.cons rfl (subE.nil _)),hS.sub .nil rfl⟩⟩
theorem aJ5 {P : Program} [hc : ae4 P] : S.x9 P (x9):=by
 intro a0 r h k0 args ha
 refine al5 (b:=K.x9) rfl hc.x9 (fun _=>rfl) rfl rfl ?_ ha
 rintro L _ ⟨av0,_,rfl,ar0,rfl⟩
 unfold x9 at h
 show GC P _ L F.x9 [(0,av0)] [] (ab1 L K.x9.res [.sl 1 (r.map aa6)])
 refine aa1 (aa2 (o6 (s_mv rfl) (aa3 (y7 (aa1 (aa1 (aa2 ?_)))))))
 refine o6 (s_mv rfl) (o6 (ba7 (c:=aa6) rfl ar0) (o6 (s_ib rfl rfl rfl) (aa3 (y7 ?_))))
 by_cases h_1 : (a0.length : Int) < 2
 ·replace h:=iteT h h_1
  refine g_cT rfl (decide_eq_true h_1) (aa1 (aa2 (o6 (s_mv rfl) (o6 (s_mv rfl) (aa3 (y7 (ap6 ?_)))))))
  refine aU1 ?_
  obtain rfl:=Option.some.inj h
  exact ba8 (.t rfl ar0.toS .nil)
 ·replace h:=iteF h h_1
  refine g_cF rfl (decide_eq_false h_1) (ah1 (y7 (aa1 (aa1 (aa2 (o6 (s_mv rfl) (aa3 ?_)))))))
  refine y7 (ag3 ?_)
  obtain ⟨o_41,e_42,h⟩:=ac8 h
  refine aA8 (IN:=ad8 L a0 av0) (IB:=ae8 L a0 av0) (IR:=fun r=>ab1 L K.x9.res [.sl 1 (r.map aa6)]) e_42 (aD2 a0 (v0:=av0) ar0) (fun T S hT hS=>⟨hT.sub (subE.cons rfl (subE.cons rfl (subE.nil _))),hS.sub .nil rfl⟩) ?_
  rintro x T S hO
  cases o_41 with
  | brk s =>
   obtain ⟨rfl,hT,hS⟩:=hO
   refine (show G (.exit 0) L F.x9 [(0,av0)] [] (Blk 0 (Thn P K.as7 (ab1 L K.x9.res [.sl 1 (r.map aa6)]))) from ?_) T S hT hS
   refine ay3 (y7 (aa1 (aa2 (o6 (s_mv rfl) (o6 (s_mv rfl) (aa3 (y7 ?_)))))))
   refine ap6 ?_
   obtain rfl:=Option.some.inj h
   exact ba8 (.t rfl ar0.toS .nil)
  | ret r =>
   obtain rfl:=Option.some.inj h
   obtain ⟨rfl,hO⟩:=hO
   exact hO
theorem a06 {P : Program} [hc : ae4 P] : S.ah6 P ah6:=hc.ext_slices_Clone_int_int
theorem aB6 {P : Program} [hc : ae4 P] : S.ab9 P ab9:=hc.ext_slices_Clone_mach_Item_mach_Item
open Go.RowKit
def S.ab3 (P : Program) (φ : (Option D.ad1) → Option (List (List UInt8))) : Prop:=∀ (a0 : (Option D.ad1)) (r : (List (List UInt8))),φ a0 = some r → ∀ (k0 : Nat) (args : List AV),RVN [.v (vref ac5 a0)] args → aV8 P F.ab3 args (ResC [.sl 1 (r.map aa6)])
def ar9 (L : Nat) (p10 : (List D.ap5)) (p11 : Int) (v10 : AV)  : ((List (List UInt8)) × Int) → BT → AS → Prop:=fun (p3,p12) T S=>∃ (v3 : AV),RelS (L + 1) (.sl 1 (p3.map aa6)) v3 ∧ Ag [(3,v3),(10,v10),(11,.lit (.int .i64 p11)),(12,.lit (.int .i64 p12))] T ∧ StA S L F.ab3 [.tok [26,37] 1 9 v3]
def aw5 (L : Nat) (p10 : (List D.ap5)) (p11 : Int) (v10 : AV)  : (List (List UInt8)) → BT → AS → Prop:=fun p3 T S=>∃ (v3 : AV),RelS (L + 1) (.sl 1 (p3.map aa6)) v3 ∧ Ag [(3,v3)] T ∧ StA S L F.ab3 [.tok [26,37] 1 9 v3]
theorem bg5 {P : Program} [hc : ae4 P] (fu : Nat) {L : Nat} (p10 : (List D.ap5)) (p11 : Int) {v10 : AV} (r10 : RelC (.sl 26 (p10.map af4)) v10) : ∀ (s : ((List (List UInt8)) × Int)) (c : Ctl ((List (List UInt8)) × Int) (List (List UInt8)) (List (List UInt8))),al4 fu p10 p11 s = some c → ∀ T S,ar9 L p10 p11 v10 s T S → RunB P K.az7 T S (am1 0 (ar9 L p10 p11 v10) (aw5 L p10 p11 v10) (fun r=>ab1 L K.ab3.res [.sl 1 (r.map aa6)]) c):=by
 rintro ⟨p3,p12⟩ c h T S ⟨v3,r3,hT,hS⟩
 unfold al4 at h
 refine (show GC P K.az7 L F.ab3 [(3,v3),(10,v10),(11,.lit (.int .i64 p11)),(12,.lit (.int .i64 p12))] [.tok [26,37] 1 9 v3] (am1 0 (ar9 L p10 p11 v10) (aw5 L p10 p11 v10) (fun r=>ab1 L K.ab3.res [.sl 1 (r.map aa6)]) c) from ?_) T S hT hS
 refine aa1 (aa2 (o6 (s_ib rfl rfl rfl) (aa3 (y7 (aa1 ?_)))))
 by_cases h_9 : p12 < p11
 ·replace h:=iteT h h_9
  refine g_cT rfl (decide_eq_true h_9) (ah1 (y7 (aa1 (ag3 (aa1 (aa2 ?_))))))
  obtain ⟨x_12,e_13,h⟩:=ac8 h
  refine af5 (s_ia (c:=af4) rfl r10.toS rfl e_13) ?_
  rintro _ ⟨c_10,rfl,r_11⟩
  refine af5 (b90 (N:=af4 x_12) rfl r_11 rfl rfl) ?_
  rintro _ ⟨c_14,rfl,r_15⟩
  refine g_al rfl fun g_16=>?_
  refine bV8 (Xs:=af4 x_12) (M':=af4 x_12) rfl rfl rfl rfl cT9 r_15 rfl rfl rfl fun d_17 s_18 q_19=>?_
  refine aa3 (y7 (aa1 (aa2 (o6 (s_fa rfl rfl) (af5 (ci5 (off:=0) (N:=aP8 x_12.Command) rfl rfl s_18 rfl rfl) ?_)))))
  rintro _ ⟨c_20,rfl,r_21⟩
  refine g_al rfl fun g_22=>?_
  refine bV8 (Xs:=aP8 x_12.Command) (M':=aP8 x_12.Command) rfl rfl rfl rfl cj6 r_21 rfl rfl rfl fun d_23 s_24 q_25=>?_
  refine aa3 (y7 (ag3 (aa1 (aa2 (o6 (s_fa rfl rfl) (o6 (ba2 (off:=10) (v:=.int .u8 x_12.Command.Name) (a:=.lit (.int .u8 x_12.Command.Name)) rfl rfl (s_24).toS rfl (fun _=>bt8)) (o6 (s_ib rfl rfl rfl) ?_)))))))
  refine o6 (s_mv rfl) (aa3 (y7 ?_))
  by_cases h_26 : x_12.Command.Name = 119
  ·replace h:=iteT h h_26
   refine g_cT rfl (decide_eq_true h_26) (aa2 (o6 (s_mv rfl) (o6 (s_fa rfl rfl) (o6 (ba2 (off:=11) (v:=.str x_12.Command.Arg) (a:=.lit (.string (bs x_12.Command.Arg))) rfl rfl (s_24).toS rfl (fun _=>bt9)) (af5 (cl0 (es':=List.map aa6 [x_12.Command.Arg]) rfl (.cons (Xs:=[.str x_12.Command.Arg]) rfl (aS5 _) rfl .nil) rfl) ?_)))))
   rintro v_27 ⟨r_28,k_29⟩
   obtain ⟨x_30,e_31,h⟩:=ac8 h
   refine cI3 (i:=0) (c:=aa6) rfl rfl rfl rfl r3 r_28 rfl rfl e_31 fun v_32 r_33=>?_
   refine o6 (s_mv rfl) (aa3 (ak4 (ak4 (y7 (aa2 (o6 (s_ib rfl rfl rfl) (o6 (s_mv rfl) ?_)))))))
   refine aa3 ?_
   obtain rfl:=Option.some.inj h
   exact fun T S hT hS=>⟨rfl,⟨v_32,r_33,hT.sub (subE.cons rfl (subE.cons rfl (subE.cons rfl (subE.cons rfl (subE.nil _))))),hS.sub (.cons (i:=0) rfl .rfl .nil) rfl⟩⟩
  ·replace h:=iteF h h_26
   refine g_cF rfl (decide_eq_false h_26) (aa1 (aa2 (o6 (s_fa rfl rfl) (o6 (s_fa rfl rfl) (o6 (ba2 (off:=18) (v:=.str x_12.Command.Sub.File) (a:=.lit (.string (bs x_12.Command.Sub.File))) rfl rfl (s_24).toS rfl (fun _=>bt9)) (o6 (s_sne rfl rfl) (o6 (s_mv rfl) ?_)))))))
   refine aa3 (y7 ?_)
   by_cases h_34 : x_12.Command.Sub.File ≠ []
   ·replace h:=iteT h h_34
    refine g_cT rfl (decide_eq_true h_34) (aa2 (o6 (s_mv rfl) (o6 (s_fa rfl rfl) (o6 (s_fa rfl rfl) (o6 (ba2 (off:=18) (v:=.str x_12.Command.Sub.File) (a:=.lit (.string (bs x_12.Command.Sub.File))) rfl rfl (s_24).toS rfl (fun _=>bt9)) (af5 (cl0 (es':=List.map aa6 [x_12.Command.Sub.File]) rfl (.cons (Xs:=[.str x_12.Command.Sub.File]) rfl (aS5 _) rfl .nil) rfl) ?_))))))
    rintro v_35 ⟨r_36,k_37⟩
    obtain ⟨x_38,e_39,h⟩:=ac8 h
    refine cI3 (i:=0) (c:=aa6) rfl rfl rfl rfl r3 r_36 rfl rfl e_39 fun v_40 r_41=>?_
    refine o6 (s_mv rfl) (aa3 (ak4 (ak4 (y7 (aa2 (o6 (s_ib rfl rfl rfl) (o6 (s_mv rfl) ?_)))))))
    refine aa3 ?_
    obtain rfl:=Option.some.inj h
    exact fun T S hT hS=>⟨rfl,⟨v_40,r_41,hT.sub (subE.cons rfl (subE.cons rfl (subE.cons rfl (subE.cons rfl (subE.nil _))))),hS.sub (.cons (i:=0) rfl .rfl .nil) rfl⟩⟩
   ·replace h:=iteF h h_34
    refine g_cF rfl (decide_eq_false h_34) (ah1 (ak4 (ak4 (y7 (aa2 (o6 (s_ib rfl rfl rfl) (o6 (s_mv rfl) ?_)))))))
    refine aa3 ?_
    obtain rfl:=Option.some.inj h
    exact fun T S hT hS=>⟨rfl,⟨v3,r3,hT.sub (subE.cons rfl (subE.cons rfl (subE.cons rfl (subE.cons rfl (subE.nil _))))),hS.sub (.cons (i:=0) rfl .rfl .nil) rfl⟩⟩
 ·replace h:=iteF h h_9
  refine g_cF rfl (decide_eq_false h_9) (aA5 (aA3 ?_))
  obtain rfl:=Option.some.inj h
  exact fun T S hT hS=>⟨rfl,⟨v3,r3,hT.sub (subE.cons rfl (subE.nil _)),hS.sub (.cons (i:=0) rfl .rfl .nil) rfl⟩⟩
theorem bE5 {P : Program} [hc : ae4 P] (fu : Nat) : S.ab3 P (ab3 fu):=by
 intro a0 r h k0 args ha
 refine al5 (b:=K.ab3) rfl hc.ab3 (fun _=>rfl) rfl rfl ?_ ha
 rintro L _ ⟨av0,_,rfl,ar0,rfl⟩
 unfold ab3 at h
 show GC P _ L F.ab3 [(0,av0)] [] (ab1 L K.ab3.res [.sl 1 (r.map aa6)])
 refine aa1 (aa2 (o6 (s_mv rfl) (aa3 (y7 (aa1 (aa2 (o6 (s_mv rfl) ?_)))))))
 refine aa3 (y7 (aa1 (aa1 (aa2 (o6 (s_mv rfl) ?_)))))
 obtain ⟨x_3,e_4,h⟩:=ac8 h
 refine af5 (cR8 (c:=ac5) rfl ar0 e_4) ?_
 rintro _ ⟨c_1,rfl,r_2⟩
 refine af5 (b66 rfl r_2) ?_
 rintro _ ⟨c_5,rfl,r_6⟩
 refine af5 (cI7 (v:=.sl 26 (x_3.Ops.map af4)) rfl r_6 rfl) ?_
 rintro v_7 r_8
 refine o6 (ba7 (c:=af4) rfl r_8) (o6 (s_mv rfl) (aa3 (y7 (ag3 (da8 (ks:=[26,37]) (n:=1) (e:=9) (x:=(.lit (.slice none 0 0))) (.inl ⟨_,rfl⟩) ?_)))))
 obtain ⟨o_42,e_43,h⟩:=ac8 h
 refine aA8 (IN:=ar9 L x_3.Ops (x_3.Ops.length : Int) v_7) (IB:=aw5 L x_3.Ops (x_3.Ops.length : Int) v_7) (IR:=fun r=>ab1 L K.ab3.res [.sl 1 (r.map aa6)]) e_43 (bg5 fu x_3.Ops (x_3.Ops.length : Int) (v10:=v_7) r_8) (fun T S hT hS=>⟨(.lit (.slice none 0 0)),(RelC.nil 1 _).toS,hT.sub (subE.cons rfl (subE.cons rfl (subE.cons rfl (subE.cons rfl (subE.nil _))))),hS.sub (.cons (i:=0) rfl .rfl .nil) rfl⟩) ?_
 rintro x T S hO
 cases o_42 with
 | brk p3b_44 =>
  obtain ⟨rfl,v3b_44,r3b_44,hT,hS⟩:=hO
  refine (show G (.exit 0) L F.ab3 [(3,v3b_44)] [.tok [26,37] 1 9 v3b_44] (Blk 0 (Thn P K.aP1 (ab1 L K.ab3.res [.sl 1 (r.map aa6)]))) from ?_) T S hT hS
  refine ay3 (y7 (aa1 (aa2 (o6 (s_mv rfl) ?_))))
  obtain ⟨x_45,e_46,h⟩:=ac8 h
  refine af5 (bI8 (rs:=[.sl 1 (p3b_44.map aa6)]) (fun _=>rfl) rfl (RVL.toN (L:=L + 1) ⟨_,_,rfl,r3b_44,rfl⟩) ((aP3 fu) _ _ e_46 (L + 1) _)) ?_
  rintro _ ⟨_,rfl,rfl⟩
  refine aa3 (y7 (aa1 (aa2 (o6 (s_mv rfl) ?_))))
  obtain ⟨x_47,e_48,h⟩:=ac8 h
  refine af5 (bI8 (rs:=[.sl 1 (p3b_44.map aa6)]) (fun _=>rfl) rfl (RVL.toN (L:=L + 1) ⟨_,_,rfl,r3b_44,rfl⟩) ((aJ5) _ _ e_48 (L + 1) _)) ?_
  rintro v_49 r_50
  replace r_50:=ResC.one r_50
  refine o6 (s_mv rfl) (aa3 (y7 (ap6 ?_)))
  obtain rfl:=Option.some.inj h
  exact ba8 (.t rfl r_50.toS .nil)
 | ret r =>
  obtain rfl:=Option.some.inj h
  obtain ⟨rfl,hO⟩:=hO
  exact hO
open Go.RowKit
def S.ae0 (P : Program) (φ : D.l9 → Option Bool) : Prop:=∀ (a0 : D.l9) (r : Bool),φ a0 = some r → cQ9 P F.ae0 [.o (.ptr 80 (o5 a0))] [.bool r]
theorem bv9 {P : Program} [hc : ae4 P] : S.ae0 P (ae0):=by
 intro a0 r h
 refine bC0 (b:=K.ae0) rfl hc.ae0 (fun _=>rfl) rfl rfl rfl ?_
 rintro L S0 _ _ _ ⟨av0,_,F0,_,_,rfl,rfl,rfl,rfl,rfl,rfl⟩
 unfold ae0 at h
 refine (show GC P _ L (⟨F.ae0,(F0 ++ []),S0,false,true⟩ : Fr) (numE 0 [av0]) [.own true [] (.ptr 80 (o5 a0)) av0 F0] (ab1 L K.ae0.res [.bool r]) from ?_)
 generalize ((F0 ++ []) : List Loc) = W
 refine aJ0 (Mv.opn rfl) ?_
 rintro _ ⟨p_1,g_2,_,_,rfl,hO_19,rfl⟩
 obtain ⟨v_3,w_5,F_6,w_7,F_8,w_9,F_10,b_11,w_13,F_14,w_15,F_16,w_17,F_18,rfl,rfl,r_4,h_12⟩:=ac7 hO_19
 refine aa1 (aa2 (o6 (s_mv rfl) (aa3 (y7 (aa1 (au7 (o6 (s_mv rfl) ?_)))))))
 refine o6 (ah5 rfl) (o6 (s_fa (o':=6) rfl rfl) (o6 (s_fa (o':=10) rfl rfl) (o6 (au3 (i:=0) rfl rfl rfl) (o6 (s_mv rfl) (o6 (ah5 rfl) (o6 (s_fa (o':=2) rfl rfl) (o6 (au3 (i:=0) rfl rfl rfl) ?_)))))))
 refine bH9 (i:=2) (es:=List.map aa6 a0.input) rfl fun ra_20=>?_
 refine o6 (s_llA (c:=aa6) rfl ra_20) (o6 (s_ib rfl rfl rfl) (o6 (s_mv rfl) (aC8 rfl (y7 (ap6 ?_)))))
 obtain rfl:=Option.some.inj h
 exact aX0 (.tr rfl rfl .nil)
def S.ac4 (P : Program) (φ : D.l9 → Option (D.l9 × List UInt8 × Bool)) : Prop:=∀ (a0 : D.l9) (r : (D.l9 × List UInt8 × Bool)),φ a0 = some r → by6 P F.ac4 [.o (.ptr 80 (o5 a0))] false [.o (.ptr 80 (o5 r.1))] [.r (.str r.2.1),.r (.bool r.2.2)]
theorem ay8 {P : Program} [hc : ae4 P] : S.ac4 P (ac4):=by
 intro a0 r h
 refine ao0 (b:=K.ac4) rfl hc.ac4 rfl rfl rfl ?_
 rintro L S0 _ _ _ ⟨av0,_,F0,_,_,rfl,rfl,rfl,rfl,rfl,rfl⟩
 unfold ac4 at h
 refine (show GC P _ L (⟨F.ac4,(F0 ++ []),S0,true,false⟩ : Fr) (numE 0 [av0]) [.own true [] (.ptr 80 (o5 a0)) av0 F0] (RetO (⟨F.ac4,(F0 ++ []),S0,true,false⟩ : Fr) L false [av0] K.ac4.res [.o (.ptr 80 (o5 r.1))] [.r (.str r.2.1),.r (.bool r.2.2)]) from ?_)
 generalize ((F0 ++ []) : List Loc) = W
 refine aJ0 (Mv.opn rfl) ?_
 rintro _ ⟨p_1,g_2,_,_,rfl,hO_19,rfl⟩
 obtain ⟨v_3,w_5,F_6,w_7,F_8,w_9,F_10,b_11,w_13,F_14,w_15,F_16,w_17,F_18,rfl,rfl,r_4,h_12⟩:=ac7 hO_19
 refine aa1 (aa2 (o6 (s_mv rfl) (o6 (s_mv rfl) (aa3 (y7 (aa1 (aa1 ?_)))))))
 refine aa2 (o6 (s_mv rfl) (aq7 (Mv.sht (os:=(o5 a0)) (N:=[.own true [] (.gs 1 88 (List.map (ak6 y8) a0.regexes)) w_5 F_6,.own true [] (.gs 1 9 (List.map aa6 a0.input)) w_7 F_8,.own true [] (.ptr 96 (o7 a0.files)) w_9 F_10,.own true [] (.bb 5 a0.out) w_13 F_14,.own true [] (.rw true 1 3 (List.map (ah4 .i64) a0.state.Ranges)) w_15 F_16,.own true [] (.gs 2 122 (List.map y5 a0.state.Queue)) w_17 F_18]) rfl ⟨(CV.rel.2 (CV.rel.1 r_4)),rfl,rfl,rfl,rfl,rfl,rfl,h_12,rfl,rfl,rfl,rfl,rfl,rfl,rfl,rfl,rfl,rfl,rfl,rfl,rfl,rfl⟩) ?_))
 rintro _ ⟨F_20,rfl⟩
 obtain ⟨x_21,e_22,h⟩:=ac8 h
 refine af5 (s_clQ (A1:=[.own true [] (.ptr 80 (o5 a0)) (.ptr p_1 g_2 0 0) F_20]) (fun _=>rfl) rfl rfl rfl (show InC [.o (.ptr 80 (o5 a0))] _ _ from ⟨rfl,rfl,rfl,rfl⟩) rfl ((bv9) _ _ e_22)) ?_
 rintro _ rfl
 refine aa3 (y7 ?_)
 by_cases h_23 : x_21 = true
 ·replace h:=iteT h h_23
  refine g_cT rfl h_23 (aa1 (aa2 (o6 (s_mv rfl) (o6 (ah5 rfl) (aq7 (Mv.opn2 rfl) ?_)))))
  rintro _ ⟨_,_,hO_40,rfl⟩
  obtain ⟨v_24,w_26,F_27,w_28,F_29,w_30,F_31,b_32,w_34,F_35,w_36,F_37,w_38,F_39,rfl,rfl,r_25,h_33⟩:=ac7 hO_40
  refine o6 (s_fa (o':=6) rfl rfl) (o6 (s_fa (o':=13) rfl rfl) (as9 (i:=0) rfl rfl rfl ⟨rfl,rfl⟩ (.c rfl) rfl rfl rfl (aa3 (y7 (aa1 (aa2 (o6 (s_mv rfl) ?_)))))))
  refine o6 (s_mv rfl) (aa3 (y7 (ap6 (aU1 ?_))))
  obtain rfl:=Option.some.inj h
  refine g_mv (Mv.sht (os:=(o5 (D.l9.mk a0.f a0.regexes a0.input a0.files a0.out (D.aa0.mk a0.state.Op a0.state.Pattern a0.state.Hold a0.state.Flag a0.state.Line a0.state.Ranges a0.state.Queue true)))) (N:=[.own true [] (.gs 1 88 (List.map (ak6 y8) a0.regexes)) w_26 F_27,.own true [] (.gs 1 9 (List.map aa6 a0.input)) w_28 F_29,.own true [] (.ptr 96 (o7 a0.files)) w_30 F_31,.own true [] (.bb 5 a0.out) w_34 F_35,.own true [] (.rw true 1 3 (List.map (ah4 .i64) a0.state.Ranges)) w_36 F_37,.own true [] (.gs 2 122 (List.map y5 a0.state.Queue)) w_38 F_39]) rfl ⟨(CV.rel.2 (CV.rel.1 r_25)),rfl,rfl,rfl,rfl,rfl,rfl,h_33,rfl,rfl,rfl,rfl,rfl,rfl,rfl,rfl,rfl,rfl,rfl,rfl,rfl,rfl⟩) ?_
  rintro _ ⟨F_41,rfl⟩
  exact am2 (A1:=[.own true [] (.ptr 80 (o5 (D.l9.mk a0.f a0.regexes a0.input a0.files a0.out (D.aa0.mk a0.state.Op a0.state.Pattern a0.state.Hold a0.state.Flag a0.state.Line a0.state.Ranges a0.state.Queue true)))) (.ptr p_1 g_2 0 0) F_41]) (A2:=[]) (A3:=[]) rfl ⟨rfl,rfl,rfl,rfl⟩ (.tr rfl rfl (.tr rfl rfl .nil)) rfl rfl
 ·replace h:=iteF h h_23
  refine g_cF rfl (Bool.eq_false_iff.2 h_23) (ah1 (y7 (aa1 (aa2 (o6 (s_mv rfl) (o6 (ah5 rfl) (aq7 (Mv.opn2 rfl) ?_)))))))
  rintro _ ⟨_,_,hO_58,rfl⟩
  obtain ⟨v_42,w_44,F_45,w_46,F_47,w_48,F_49,b_50,w_52,F_53,w_54,F_55,w_56,F_57,rfl,rfl,r_43,h_51⟩:=ac7 hO_58
  refine o6 (s_fa (o':=6) rfl rfl) (o6 (s_fa (o':=10) rfl rfl) (o6 (au3 (i:=0) rfl rfl rfl) (o6 (s_ib rfl rfl rfl) (o6 (ah5 rfl) (o6 (s_fa (o':=6) rfl rfl) (o6 (s_fa (o':=10) rfl rfl) (as9 (i:=0) rfl rfl rfl ⟨rfl,rfl⟩ (.c rfl) rfl rfl rfl ?_)))))))
  refine aa3 (y7 (aa1 (au7 (o6 (s_mv rfl) (o6 (ah5 rfl) (o6 (s_fa (o':=2) rfl rfl) (o6 (au3 (i:=0) rfl rfl rfl) ?_)))))))
  refine o6 (s_mv rfl) (o6 (ah5 rfl) (o6 (s_fa (o':=6) rfl rfl) (o6 (s_fa (o':=10) rfl rfl) (o6 (au3 (i:=0) rfl rfl rfl) (o6 (s_ib rfl rfl rfl) ?_)))))
  refine bH9 (i:=2) (es:=List.map aa6 a0.input) rfl fun ra_59=>?_
  obtain ⟨x_62,e_63,h⟩:=ac8 h
  refine af5 (s_iaA (c:=aa6) rfl ra_59 rfl e_63) ?_
  rintro _ ⟨c_60,rfl,r_61⟩
  refine o6 (aC3 (v:=.str x_62) (a:=.lit (.string (bs x_62))) rfl r_61 rfl (fun _=>aq8)) (o6 (s_mv rfl) (o6 (s_mv rfl) (aC8 rfl (y7 (ap6 ?_)))))
  obtain rfl:=Option.some.inj h
  refine g_mv (Mv.sht (os:=(o5 (D.l9.mk a0.f a0.regexes a0.input a0.files a0.out (D.aa0.mk a0.state.Op a0.state.Pattern a0.state.Hold a0.state.Flag (G.addI a0.state.Line 1) a0.state.Ranges a0.state.Queue a0.state.Done)))) (N:=[.own true [] (.gs 1 88 (List.map (ak6 y8) a0.regexes)) w_44 F_45,.own true [] (.gs 1 9 (List.map aa6 a0.input)) w_46 F_47,.own true [] (.ptr 96 (o7 a0.files)) w_48 F_49,.own true [] (.bb 5 a0.out) w_52 F_53,.own true [] (.rw true 1 3 (List.map (ah4 .i64) a0.state.Ranges)) w_54 F_55,.own true [] (.gs 2 122 (List.map y5 a0.state.Queue)) w_56 F_57]) rfl ⟨(CV.rel.2 (CV.rel.1 r_43)),rfl,rfl,rfl,rfl,rfl,rfl,h_51,rfl,rfl,rfl,rfl,rfl,rfl,rfl,rfl,rfl,rfl,rfl,rfl,rfl,rfl⟩) ?_
  rintro _ ⟨F_64,rfl⟩
  exact am2 (A1:=[.own true [] (.ptr 80 (o5 (D.l9.mk a0.f a0.regexes a0.input a0.files a0.out (D.aa0.mk a0.state.Op a0.state.Pattern a0.state.Hold a0.state.Flag (G.addI a0.state.Line 1) a0.state.Ranges a0.state.Queue a0.state.Done)))) (.ptr p_1 g_2 0 0) F_64]) (A2:=[]) (A3:=[]) rfl ⟨rfl,rfl,rfl,rfl⟩ (.tr rfl rfl (.tr rfl rfl .nil)) rfl rfl
def S.ab2 (P : Program) (φ : D.l9 → Option D.l9) : Prop:=∀ (a0 : D.l9) (r : D.l9),φ a0 = some r → by6 P F.ab2 [.o (.ptr 80 (o5 a0))] false [.o (.ptr 80 (o5 r))] []
theorem aO4 {P : Program} [hc : ae4 P] : S.ab2 P (ab2):=by
 intro a0 r h
 refine ao0 (b:=K.ab2) rfl hc.ab2 rfl rfl rfl ?_
 rintro L S0 _ _ _ ⟨av0,_,F0,_,_,rfl,rfl,rfl,rfl,rfl,rfl⟩
 unfold ab2 at h
 refine (show GC P _ L (⟨F.ab2,(F0 ++ []),S0,true,false⟩ : Fr) (numE 0 [av0]) [.own true [] (.ptr 80 (o5 a0)) av0 F0] (RetO (⟨F.ab2,(F0 ++ []),S0,true,false⟩ : Fr) L false [av0] K.ab2.res [.o (.ptr 80 (o5 r))] []) from ?_)
 generalize ((F0 ++ []) : List Loc) = W
 refine aJ0 (Mv.opn rfl) ?_
 rintro _ ⟨p_1,g_2,_,_,rfl,hO_19,rfl⟩
 obtain ⟨v_3,w_5,F_6,w_7,F_8,w_9,F_10,b_11,w_13,F_14,w_15,F_16,w_17,F_18,rfl,rfl,r_4,h_12⟩:=ac7 hO_19
 refine aa1 (aa2 (o6 (s_mv rfl) (aq7 (Mv.sht (os:=(o5 a0)) (N:=[.own true [] (.gs 1 88 (List.map (ak6 y8) a0.regexes)) w_5 F_6,.own true [] (.gs 1 9 (List.map aa6 a0.input)) w_7 F_8,.own true [] (.ptr 96 (o7 a0.files)) w_9 F_10,.own true [] (.bb 5 a0.out) w_13 F_14,.own true [] (.rw true 1 3 (List.map (ah4 .i64) a0.state.Ranges)) w_15 F_16,.own true [] (.gs 2 122 (List.map y5 a0.state.Queue)) w_17 F_18]) rfl ⟨(CV.rel.2 (CV.rel.1 r_4)),rfl,rfl,rfl,rfl,rfl,rfl,h_12,rfl,rfl,rfl,rfl,rfl,rfl,rfl,rfl,rfl,rfl,rfl,rfl,rfl,rfl⟩) ?_)))
 rintro _ ⟨F_20,rfl⟩
 obtain ⟨x_21,e_22,h⟩:=ac8 h
 refine aP5 (A1:=[.own true [] (.ptr 80 (o5 a0)) (.ptr p_1 g_2 0 0) F_20]) rfl rfl (show InC [.o (.ptr 80 (o5 a0))] _ _ from ⟨rfl,rfl,rfl,rfl⟩) rfl rfl rfl rfl rfl ((ay8) _ _ e_22) ?_
 rintro _ _ _ J_24 ⟨F_25,_,rfl,rfl⟩ ⟨_,rfl,_,_,rfl,rfl,_,_,rfl,rfl,rfl,rfl⟩
 refine o6 (s_mv rfl) (o6 (s_ex rfl rfl) (o6 (s_ex rfl rfl) (o6 (s_mv rfl) (o6 (s_mv rfl) (aa3 (y7 (aa1 ?_)))))))
 refine aa2 (o6 (s_mv rfl) (aa3 (y7 ?_)))
 by_cases h_26 : x_21.2.2 = true
 ·replace h:=iteT h h_26
  refine g_cT rfl h_26 (aa2 (o6 (s_mv rfl) (o6 (s_mv rfl) (o6 (s_mv rfl) (o6 (s_mv rfl) (o6 (ah5 rfl) (aq7 (Mv.opn2 rfl) ?_)))))))
  rintro _ ⟨_,_,hO_43,rfl⟩
  obtain ⟨v_27,w_29,F_30,w_31,F_32,w_33,F_34,b_35,w_37,F_38,w_39,F_40,w_41,F_42,rfl,rfl,r_28,h_36⟩:=ac7 hO_43
  refine o6 (s_fa (o':=6) rfl rfl) (o6 (s_fa (o':=7) rfl rfl) (as9 (i:=0) rfl rfl rfl ⟨rfl,rfl⟩ (.c rfl) rfl rfl rfl (o6 (ah5 rfl) (o6 (s_fa (o':=6) rfl rfl) (o6 (s_fa (o':=9) rfl rfl) (as9 (i:=0) rfl rfl rfl ⟨rfl,rfl⟩ (.c rfl) rfl rfl rfl (o6 (ah5 rfl) ?_)))))))
  refine o6 (s_fa (o':=6) rfl rfl) (o6 (s_fa (o':=6) rfl rfl) (as9 (i:=0) rfl rfl rfl ⟨rfl,rfl⟩ (.c rfl) rfl rfl rfl (aa3 ?_)))
  obtain rfl:=Option.some.inj h
  refine g_mv (Mv.sht (os:=(o5 (D.l9.mk x_21.1.f x_21.1.regexes x_21.1.input x_21.1.files x_21.1.out (D.aa0.mk 0 x_21.2.1 x_21.1.state.Hold false x_21.1.state.Line x_21.1.state.Ranges x_21.1.state.Queue x_21.1.state.Done)))) (N:=[.own true [] (.gs 1 88 (List.map (ak6 y8) x_21.1.regexes)) w_29 F_30,.own true [] (.gs 1 9 (List.map aa6 x_21.1.input)) w_31 F_32,.own true [] (.ptr 96 (o7 x_21.1.files)) w_33 F_34,.own true [] (.bb 5 x_21.1.out) w_37 F_38,.own true [] (.rw true 1 3 (List.map (ah4 .i64) x_21.1.state.Ranges)) w_39 F_40,.own true [] (.gs 2 122 (List.map y5 x_21.1.state.Queue)) w_41 F_42]) rfl ⟨(CV.rel.2 (CV.rel.1 r_28)),rfl,rfl,rfl,rfl,rfl,rfl,h_36,rfl,rfl,rfl,rfl,rfl,rfl,rfl,rfl,rfl,rfl,rfl,rfl,rfl,rfl⟩) ?_
  rintro _ ⟨F_44,rfl⟩
  exact am2 (A1:=[.own true [] (.ptr 80 (o5 (D.l9.mk x_21.1.f x_21.1.regexes x_21.1.input x_21.1.files x_21.1.out (D.aa0.mk 0 x_21.2.1 x_21.1.state.Hold false x_21.1.state.Line x_21.1.state.Ranges x_21.1.state.Queue x_21.1.state.Done)))) (.ptr p_1 g_2 0 0) F_44]) (A2:=[]) (A3:=[.jnk true [] J_24]) rfl ⟨rfl,rfl,rfl,rfl⟩ .nil rfl rfl
 ·replace h:=iteF h h_26
  refine g_cF rfl (Bool.eq_false_iff.2 h_26) (ah1 ?_)
  obtain rfl:=Option.some.inj h
  exact am2 (A1:=[.own true [] (.ptr 80 (o5 x_21.1)) (.ptr p_1 g_2 0 0) F_25]) (A2:=[]) (A3:=[.jnk true [] J_24]) rfl ⟨rfl,rfl,rfl,rfl⟩ .nil rfl rfl
def S.ac9 (P : Program) (φ : (Option D.ad1) → (List (List UInt8)) → D.y9 → Option (D.y9 × D.l9)) : Prop:=∀ (a0 : (Option D.ad1)) (a1 : (List (List UInt8))) (a2 : D.y9) (r : (D.y9 × D.l9)),φ a0 a1 a2 = some r → by6 P F.ac9 [.r (.v (vref ac5 a0)),.r (.sl 1 (a1.map aa6)),.o (.ptr 96 (o7 a2))] false [.x,.x,.o (.ptr 96 (o7 r.1))] [.o (.ptr 80 (o5 r.2))]
def aQ5 (L : Nat) (W : List Loc) (S0 : AS) (a0 : (Option D.ad1)) (av0 : AV) (a1 : (List (List UInt8))) (av1 : AV) (p_1 : Loc) (g_2 : Nat) (p0 : (Option D.ad1)) (p1 : (List (List UInt8))) (p22 : (List D.ax1)) (p23 : Int) (G_i6 : Nat) (v0 : AV) (v1 : AV) (v22 : AV) : (D.l9 × D.y9 × Int) → BT → AS → Prop:=fun (q_i6,q_i0,p24) T S=>∃ (w_i11 : AV) (F_i11 : List Loc) (w_i10 : AV) (F_i10 : List Loc) (w_i9 : AV) (F_i9 : List Loc) (w_i8 : AV) (F_i8 : List Loc) (w_i7 : AV) (F_i7 : List Loc) (z_i6_0 : AV) (b_i6_4 : AV) (w_i3 : AV) (F_i3 : List Loc) (F_i0 : List Loc) (J_i4 : List Loc),RelC (vref ac5 q_i6.f) z_i6_0 ∧ (b_i6_4 = .lit (.pointer none) ∨ b_i6_4 = .ptr ⟨L + 1,18,0⟩ G_i6 0 4) ∧ Ag [(0,v0),(1,v1),(7,.ptr ⟨L + 1,18,0⟩ G_i6 0 0),(22,v22),(23,.lit (.int .i64 p23)),(24,.lit (.int .i64 p24))] T ∧ StA S L (⟨F.ac9,W,S0,true,false⟩ : Fr) [.own false [] (.gs 2 122 (List.map y5 q_i6.state.Queue)) w_i11 F_i11,.own false [] (.rw true 1 3 (List.map (ah4 .i64) q_i6.state.Ranges)) w_i10 F_i10,.own false [] (.bb 5 q_i6.out) w_i9 F_i9,.own false [] (.gs 1 9 (List.map aa6 q_i6.input)) w_i8 F_i8,.own false [] (.gs 1 88 (List.map (ak6 y8) q_i6.regexes)) w_i7 F_i7,.cel false [18] ⟨L + 1,18,0⟩ G_i6 80 [z_i6_0,w_i7,w_i8,w_i3,b_i6_4,w_i9,.lit (.int .i64 q_i6.state.Op),.lit (.string (bs q_i6.state.Pattern)),.lit (.string (bs q_i6.state.Hold)),.lit (.bool q_i6.state.Flag),.lit (.int .i64 q_i6.state.Line),w_i10,w_i11,.lit (.bool q_i6.state.Done)],.own true [] (.ptr 96 (o7 q_i6.files)) w_i3 F_i3,.own true [] (.ptr 96 (o7 q_i0)) (.ptr p_1 g_2 0 0) F_i0,.jnk true [] J_i4]
def aZ2 (L : Nat) (W : List Loc) (S0 : AS) (a0 : (Option D.ad1)) (av0 : AV) (a1 : (List (List UInt8))) (av1 : AV) (p_1 : Loc) (g_2 : Nat) (p0 : (Option D.ad1)) (p1 : (List (List UInt8))) (p22 : (List D.ax1)) (p23 : Int) (G_i6 : Nat) (v0 : AV) (v1 : AV) (v22 : AV) : (D.l9 × D.y9) → BT → AS → Prop:=fun (q_i6,q_i0) T S=>∃ (w_i11 : AV) (F_i11 : List Loc) (w_i10 : AV) (F_i10 : List Loc) (w_i9 : AV) (F_i9 : List Loc) (w_i8 : AV) (F_i8 : List Loc) (w_i7 : AV) (F_i7 : List Loc) (z_i6_0 : AV) (b_i6_4 : AV) (w_i3 : AV) (F_i3 : List Loc) (F_i0 : List Loc) (J_i4 : List Loc),RelC (vref ac5 q_i6.f) z_i6_0 ∧ (b_i6_4 = .lit (.pointer none) ∨ b_i6_4 = .ptr ⟨L + 1,18,0⟩ G_i6 0 4) ∧ Ag [(0,v0),(1,v1),(7,.ptr ⟨L + 1,18,0⟩ G_i6 0 0)] T ∧ StA S L (⟨F.ac9,W,S0,true,false⟩ : Fr) [.own false [] (.gs 2 122 (List.map y5 q_i6.state.Queue)) w_i11 F_i11,.own false [] (.rw true 1 3 (List.map (ah4 .i64) q_i6.state.Ranges)) w_i10 F_i10,.own false [] (.bb 5 q_i6.out) w_i9 F_i9,.own false [] (.gs 1 9 (List.map aa6 q_i6.input)) w_i8 F_i8,.own false [] (.gs 1 88 (List.map (ak6 y8) q_i6.regexes)) w_i7 F_i7,.cel false [18] ⟨L + 1,18,0⟩ G_i6 80 [z_i6_0,w_i7,w_i8,w_i3,b_i6_4,w_i9,.lit (.int .i64 q_i6.state.Op),.lit (.string (bs q_i6.state.Pattern)),.lit (.string (bs q_i6.state.Hold)),.lit (.bool q_i6.state.Flag),.lit (.int .i64 q_i6.state.Line),w_i10,w_i11,.lit (.bool q_i6.state.Done)],.own true [] (.ptr 96 (o7 q_i6.files)) w_i3 F_i3,.own true [] (.ptr 96 (o7 q_i0)) (.ptr p_1 g_2 0 0) F_i0,.jnk true [] J_i4]
theorem b74 {P : Program} [hc : ae4 P] (fu : Nat) {L : Nat} (W : List Loc) (S0 : AS) (a0 : (Option D.ad1)) (av0 : AV) (a1 : (List (List UInt8))) (av1 : AV) (p_1 : Loc) (g_2 : Nat) (p0 : (Option D.ad1)) (p1 : (List (List UInt8))) (p22 : (List D.ax1)) (p23 : Int) {G_i6 : Nat} {v0 : AV} {v1 : AV} {v22 : AV} (ar0 : RelC (vref ac5 a0) av0) (ar1 : RelC (.sl 1 (List.map aa6 a1)) av1) (r0 : RelC (vref ac5 p0) v0) (r1 : RelC (.sl 1 (p1.map aa6)) v1) (r22 : RelC (.sl 4 (p22.map av8)) v22) : ∀ (s : (D.l9 × D.y9 × Int)) (c : Ctl (D.l9 × D.y9 × Int) (D.l9 × D.y9) (D.y9 × D.l9)),ba0 fu p0 p1 p22 p23 s = some c → ∀ T S,aQ5 L W S0 a0 av0 a1 av1 p_1 g_2 p0 p1 p22 p23 G_i6 v0 v1 v22 s T S → RunB P K.bG3 T S (am1 0 (aQ5 L W S0 a0 av0 a1 av1 p_1 g_2 p0 p1 p22 p23 G_i6 v0 v1 v22) (aZ2 L W S0 a0 av0 a1 av1 p_1 g_2 p0 p1 p22 p23 G_i6 v0 v1 v22) (fun r=>RetO (⟨F.ac9,W,S0,true,false⟩ : Fr) L false [av0,av1,.ptr p_1 g_2 0 0] K.ac9.res [.x,.x,.o (.ptr 96 (o7 r.1))] [.o (.ptr 80 (o5 r.2))]) c):=by
 rintro ⟨q_i6,q_i0,p24⟩ c h T S ⟨w_i11,F_i11,w_i10,F_i10,w_i9,F_i9,w_i8,F_i8,w_i7,F_i7,z_i6_0,b_i6_4,w_i3,F_i3,F_i0,J_i4,y_i6_0,h_i6_4,hT,hS⟩
 unfold ba0 at h
 refine (show GC P K.bG3 L (⟨F.ac9,W,S0,true,false⟩ : Fr) [(0,v0),(1,v1),(7,.ptr ⟨L + 1,18,0⟩ G_i6 0 0),(22,v22),(23,.lit (.int .i64 p23)),(24,.lit (.int .i64 p24))] [.own false [] (.gs 2 122 (List.map y5 q_i6.state.Queue)) w_i11 F_i11,.own false [] (.rw true 1 3 (List.map (ah4 .i64) q_i6.state.Ranges)) w_i10 F_i10,.own false [] (.bb 5 q_i6.out) w_i9 F_i9,.own false [] (.gs 1 9 (List.map aa6 q_i6.input)) w_i8 F_i8,.own false [] (.gs 1 88 (List.map (ak6 y8) q_i6.regexes)) w_i7 F_i7,.cel false [18] ⟨L + 1,18,0⟩ G_i6 80 [z_i6_0,w_i7,w_i8,w_i3,b_i6_4,w_i9,.lit (.int .i64 q_i6.state.Op),.lit (.string (bs q_i6.state.Pattern)),.lit (.string (bs q_i6.state.Hold)),.lit (.bool q_i6.state.Flag),.lit (.int .i64 q_i6.state.Line),w_i10,w_i11,.lit (.bool q_i6.state.Done)],.own true [] (.ptr 96 (o7 q_i6.files)) w_i3 F_i3,.own true [] (.ptr 96 (o7 q_i0)) (.ptr p_1 g_2 0 0) F_i0,.jnk true [] J_i4] (am1 0 (aQ5 L W S0 a0 av0 a1 av1 p_1 g_2 p0 p1 p22 p23 G_i6 v0 v1 v22) (aZ2 L W S0 a0 av0 a1 av1 p_1 g_2 p0 p1 p22 p23 G_i6 v0 v1 v22) (fun r=>RetO (⟨F.ac9,W,S0,true,false⟩ : Fr) L false [av0,av1,.ptr p_1 g_2 0 0] K.ac9.res [.x,.x,.o (.ptr 96 (o7 r.1))] [.o (.ptr 80 (o5 r.2))]) c) from ?_) T S hT hS
 refine aa1 (aa2 (o6 (s_ib rfl rfl rfl) (aa3 (y7 (aa1 ?_)))))
 by_cases h_28 : p24 < p23
 ·replace h:=iteT h h_28
  refine g_cT rfl (decide_eq_true h_28) (ah1 (y7 (aa1 (ag3 (aa1 (aa2 ?_))))))
  obtain ⟨x_31,e_32,h⟩:=ac8 h
  refine af5 (s_ia (c:=av8) rfl r22.toS rfl e_32) ?_
  rintro _ ⟨c_29,rfl,r_30⟩
  refine af5 (b90 (N:=av8 x_31) rfl r_30 rfl rfl) ?_
  rintro _ ⟨c_33,rfl,r_34⟩
  refine co1 rfl rfl fun g_35=>?_
  obtain ⟨_,hE_38,v_36,_,rfl,r_37,_,_,rfl,rfl,_,_,rfl,rfl,_,_,rfl,rfl,rfl⟩:=exL' r_34
  refine ci9 (i:=0) (b:=.agg c_33) (cs':=[v_36,.lit (.int .i64 x_31.Groups),.lit (.int .i64 x_31.Loops),.lit (.bool x_31.Backs)]) rfl rfl rfl (by rw [hE_38]; rfl) (ab7.ones r_34) (fun a ha=>.c (am8 (ab7.closed r_34) a ha)) rfl (by rw [hE_38]; rfl) rfl (aa3 (y7 (au7 (o6 (s_mv rfl) (o6 (s_mv rfl) (o6 (ah5 rfl) (o6 (s_fa (o':=1) rfl rfl) ?_)))))))
  refine o6 (aL5 (i:=6) rfl rfl rfl) (o6 (bh0 (i:=0) rfl rfl rfl rfl) ?_)
  cases h
 ·replace h:=iteF h h_28
  refine g_cF rfl (decide_eq_false h_28) (aA5 (aA3 ?_))
  obtain rfl:=Option.some.inj h
  exact fun T S hT hS=>⟨rfl,⟨w_i11,F_i11,w_i10,F_i10,w_i9,F_i9,w_i8,F_i8,w_i7,F_i7,z_i6_0,b_i6_4,w_i3,F_i3,F_i0,J_i4,y_i6_0,h_i6_4,hT.sub (subE.cons rfl (subE.cons rfl (subE.cons rfl (subE.nil _)))),hS.sub (.cons (i:=0) rfl (.own rfl rfl) (.cons (i:=1) rfl (.own rfl rfl) (.cons (i:=2) rfl (.own rfl rfl) (.cons (i:=3) rfl (.own rfl rfl) (.cons (i:=4) rfl (.own rfl rfl) (.cons (i:=5) rfl (.cel rfl rfl) (.cons (i:=6) rfl (.own rfl rfl) (.cons (i:=7) rfl (.own rfl rfl) (.cons (i:=8) rfl (.jnk rfl rfl) .nil))))))))) rfl⟩⟩
def aP9 (L : Nat) (W : List Loc) (S0 : AS) (a0 : (Option D.ad1)) (av0 : AV) (a1 : (List (List UInt8))) (av1 : AV) (p_1 : Loc) (g_2 : Nat) (p0 : (Option D.ad1)) (p40 : (List (List UInt8))) (p41 : Int) (G_i6 : Nat) (v0 : AV) (v40 : AV) : (D.l9 × D.y9 × Int) → BT → AS → Prop:=fun (q_i6,q_i0,p42) T S=>∃ (w_i11 : AV) (F_i11 : List Loc) (w_i10 : AV) (F_i10 : List Loc) (w_i9 : AV) (F_i9 : List Loc) (w_i8 : AV) (F_i8 : List Loc) (w_i7 : AV) (F_i7 : List Loc) (z_i6_0 : AV) (b_i6_4 : AV) (w_i3 : AV) (F_i3 : List Loc) (F_i0 : List Loc) (J_i4 : List Loc),RelC (vref ac5 q_i6.f) z_i6_0 ∧ (b_i6_4 = .lit (.pointer none) ∨ b_i6_4 = .ptr ⟨L + 1,18,0⟩ G_i6 0 4) ∧ Ag [(0,v0),(7,.ptr ⟨L + 1,18,0⟩ G_i6 0 0),(40,v40),(41,.lit (.int .i64 p41)),(42,.lit (.int .i64 p42))] T ∧ StA S L (⟨F.ac9,W,S0,true,false⟩ : Fr) [.own false [] (.gs 2 122 (List.map y5 q_i6.state.Queue)) w_i11 F_i11,.own false [] (.rw true 1 3 (List.map (ah4 .i64) q_i6.state.Ranges)) w_i10 F_i10,.own false [] (.bb 5 q_i6.out) w_i9 F_i9,.own false [53] (.gs 1 9 (List.map aa6 q_i6.input)) w_i8 F_i8,.own false [] (.gs 1 88 (List.map (ak6 y8) q_i6.regexes)) w_i7 F_i7,.cel false [18] ⟨L + 1,18,0⟩ G_i6 80 [z_i6_0,w_i7,w_i8,w_i3,b_i6_4,w_i9,.lit (.int .i64 q_i6.state.Op),.lit (.string (bs q_i6.state.Pattern)),.lit (.string (bs q_i6.state.Hold)),.lit (.bool q_i6.state.Flag),.lit (.int .i64 q_i6.state.Line),w_i10,w_i11,.lit (.bool q_i6.state.Done)],.own true [] (.ptr 96 (o7 q_i6.files)) w_i3 F_i3,.own true [] (.ptr 96 (o7 q_i0)) (.ptr p_1 g_2 0 0) F_i0,.jnk true [] J_i4]
def a95 (L : Nat) (W : List Loc) (S0 : AS) (a0 : (Option D.ad1)) (av0 : AV) (a1 : (List (List UInt8))) (av1 : AV) (p_1 : Loc) (g_2 : Nat) (p0 : (Option D.ad1)) (p40 : (List (List UInt8))) (p41 : Int) (G_i6 : Nat) (v0 : AV) (v40 : AV) : (D.l9 × D.y9) → BT → AS → Prop:=fun (q_i6,q_i0) T S=>∃ (w_i11 : AV) (F_i11 : List Loc) (w_i10 : AV) (F_i10 : List Loc) (w_i9 : AV) (F_i9 : List Loc) (w_i8 : AV) (F_i8 : List Loc) (w_i7 : AV) (F_i7 : List Loc) (z_i6_0 : AV) (b_i6_4 : AV) (w_i3 : AV) (F_i3 : List Loc) (F_i0 : List Loc) (J_i4 : List Loc),RelC (vref ac5 q_i6.f) z_i6_0 ∧ (b_i6_4 = .lit (.pointer none) ∨ b_i6_4 = .ptr ⟨L + 1,18,0⟩ G_i6 0 4) ∧ Ag [(0,v0),(7,.ptr ⟨L + 1,18,0⟩ G_i6 0 0)] T ∧ StA S L (⟨F.ac9,W,S0,true,false⟩ : Fr) [.own false [] (.gs 2 122 (List.map y5 q_i6.state.Queue)) w_i11 F_i11,.own false [] (.rw true 1 3 (List.map (ah4 .i64) q_i6.state.Ranges)) w_i10 F_i10,.own false [] (.bb 5 q_i6.out) w_i9 F_i9,.own false [53] (.gs 1 9 (List.map aa6 q_i6.input)) w_i8 F_i8,.own false [] (.gs 1 88 (List.map (ak6 y8) q_i6.regexes)) w_i7 F_i7,.cel false [18] ⟨L + 1,18,0⟩ G_i6 80 [z_i6_0,w_i7,w_i8,w_i3,b_i6_4,w_i9,.lit (.int .i64 q_i6.state.Op),.lit (.string (bs q_i6.state.Pattern)),.lit (.string (bs q_i6.state.Hold)),.lit (.bool q_i6.state.Flag),.lit (.int .i64 q_i6.state.Line),w_i10,w_i11,.lit (.bool q_i6.state.Done)],.own true [] (.ptr 96 (o7 q_i6.files)) w_i3 F_i3,.own true [] (.ptr 96 (o7 q_i0)) (.ptr p_1 g_2 0 0) F_i0,.jnk true [] J_i4]
theorem b61 {P : Program} [hc : ae4 P] (fu : Nat) {L : Nat} (W : List Loc) (S0 : AS) (a0 : (Option D.ad1)) (av0 : AV) (a1 : (List (List UInt8))) (av1 : AV) (p_1 : Loc) (g_2 : Nat) (p0 : (Option D.ad1)) (p40 : (List (List UInt8))) (p41 : Int) {G_i6 : Nat} {v0 : AV} {v40 : AV} (ar0 : RelC (vref ac5 a0) av0) (ar1 : RelC (.sl 1 (List.map aa6 a1)) av1) (r0 : RelC (vref ac5 p0) v0) (r40 : RelC (.sl 1 (p40.map aa6)) v40) : ∀ (s : (D.l9 × D.y9 × Int)) (c : Ctl (D.l9 × D.y9 × Int) (D.l9 × D.y9) (D.y9 × D.l9)),aB3 fu p0 p40 p41 s = some c → ∀ T S,aP9 L W S0 a0 av0 a1 av1 p_1 g_2 p0 p40 p41 G_i6 v0 v40 s T S → RunB P K.bC9 T S (am1 2 (aP9 L W S0 a0 av0 a1 av1 p_1 g_2 p0 p40 p41 G_i6 v0 v40) (a95 L W S0 a0 av0 a1 av1 p_1 g_2 p0 p40 p41 G_i6 v0 v40) (fun r=>RetO (⟨F.ac9,W,S0,true,false⟩ : Fr) L false [av0,av1,.ptr p_1 g_2 0 0] K.ac9.res [.x,.x,.o (.ptr 96 (o7 r.1))] [.o (.ptr 80 (o5 r.2))]) c):=by
 rintro ⟨q_i6,q_i0,p42⟩ c h T S ⟨w_i11,F_i11,w_i10,F_i10,w_i9,F_i9,w_i8,F_i8,w_i7,F_i7,z_i6_0,b_i6_4,w_i3,F_i3,F_i0,J_i4,y_i6_0,h_i6_4,hT,hS⟩
 unfold aB3 at h
 refine (show GC P K.bC9 L (⟨F.ac9,W,S0,true,false⟩ : Fr) [(0,v0),(7,.ptr ⟨L + 1,18,0⟩ G_i6 0 0),(40,v40),(41,.lit (.int .i64 p41)),(42,.lit (.int .i64 p42))] [.own false [] (.gs 2 122 (List.map y5 q_i6.state.Queue)) w_i11 F_i11,.own false [] (.rw true 1 3 (List.map (ah4 .i64) q_i6.state.Ranges)) w_i10 F_i10,.own false [] (.bb 5 q_i6.out) w_i9 F_i9,.own false [53] (.gs 1 9 (List.map aa6 q_i6.input)) w_i8 F_i8,.own false [] (.gs 1 88 (List.map (ak6 y8) q_i6.regexes)) w_i7 F_i7,.cel false [18] ⟨L + 1,18,0⟩ G_i6 80 [z_i6_0,w_i7,w_i8,w_i3,b_i6_4,w_i9,.lit (.int .i64 q_i6.state.Op),.lit (.string (bs q_i6.state.Pattern)),.lit (.string (bs q_i6.state.Hold)),.lit (.bool q_i6.state.Flag),.lit (.int .i64 q_i6.state.Line),w_i10,w_i11,.lit (.bool q_i6.state.Done)],.own true [] (.ptr 96 (o7 q_i6.files)) w_i3 F_i3,.own true [] (.ptr 96 (o7 q_i0)) (.ptr p_1 g_2 0 0) F_i0,.jnk true [] J_i4] (am1 2 (aP9 L W S0 a0 av0 a1 av1 p_1 g_2 p0 p40 p41 G_i6 v0 v40) (a95 L W S0 a0 av0 a1 av1 p_1 g_2 p0 p40 p41 G_i6 v0 v40) (fun r=>RetO (⟨F.ac9,W,S0,true,false⟩ : Fr) L false [av0,av1,.ptr p_1 g_2 0 0] K.ac9.res [.x,.x,.o (.ptr 96 (o7 r.1))] [.o (.ptr 80 (o5 r.2))]) c) from ?_) T S hT hS
 refine aa1 (aa2 (o6 (s_ib rfl rfl rfl) (aa3 (y7 (aa1 ?_)))))
 by_cases h_42 : p42 < p41
 ·replace h:=iteT h h_42
  refine g_cT rfl (decide_eq_true h_42) (ah1 (y7 (aa1 (ag3 (aa1 (aa2 ?_))))))
  obtain ⟨x_45,e_46,h⟩:=ac8 h
  refine af5 (s_ia (c:=aa6) rfl r40.toS rfl e_46) ?_
  rintro _ ⟨c_43,rfl,r_44⟩
  refine o6 (aC3 (v:=.str x_45) (a:=.lit (.string (bs x_45))) rfl r_44 rfl (fun _=>aq8)) (o6 (s_mv rfl) (aa3 (y7 (au7 (o6 (s_mv rfl) (o6 (s_mv rfl) (o6 (ah5 rfl) ?_)))))))
  refine o6 (s_fa (o':=2) rfl rfl) (o6 (aL5 (i:=5) rfl rfl rfl) (o6 (s_mv rfl) ?_))
  obtain ⟨x_47,e_48,h⟩:=ac8 h
  refine af5 (bI8 (rs:=[.str x_45]) (fun _=>rfl) rfl (RVL.toN (L:=L + 1) ⟨_,_,rfl,rfl,rfl⟩) ((cs3) _ _ e_48 (L + 1) _)) ?_
  rintro v_49 r_50
  replace r_50:=ResC.one r_50
  obtain ⟨x_51,e_52,h⟩:=ac8 h
  refine c44 (i:=3) (c:=aa6) rfl rfl rfl rfl (RelC.toA r_50) rfl rfl rfl e_52 fun w_53 F_54=>?_
  refine o6 (ah5 rfl) (o6 (s_fa (o':=2) rfl rfl) ?_)
  refine bH9 (i:=3) (es:=List.map aa6 x_51) rfl fun ra_55=>?_
  refine g_co (i:=3) rfl fun hc_56=>?_
  refine cJ0 (i:=5) rfl rfl rfl (ra_55.cells) hc_56 rfl rfl rfl (aC8 rfl (ak4 (y7 (aa2 (o6 (s_ib rfl rfl rfl) (o6 (s_mv rfl) (aa3 ?_)))))))
  obtain rfl:=Option.some.inj h
  exact fun T S hT hS=>⟨rfl,⟨w_i11,F_i11,w_i10,F_i10,w_i9,F_i9,w_53,F_54,w_i7,F_i7,z_i6_0,b_i6_4,w_i3,F_i3,F_i0,J_i4,y_i6_0,h_i6_4,hT.sub (subE.cons rfl (subE.cons rfl (subE.cons rfl (subE.cons rfl (subE.cons rfl (subE.nil _)))))),hS.sub (.cons (i:=0) rfl (.own rfl rfl) (.cons (i:=1) rfl (.own rfl rfl) (.cons (i:=2) rfl (.own rfl rfl) (.cons (i:=3) rfl (.own rfl rfl) (.cons (i:=4) rfl (.own rfl rfl) (.cons (i:=5) rfl (.cel rfl rfl) (.cons (i:=6) rfl (.own rfl rfl) (.cons (i:=7) rfl (.own rfl rfl) (.cons (i:=8) rfl (.jnk rfl rfl) .nil))))))))) rfl⟩⟩
 ·replace h:=iteF h h_42
  refine g_cF rfl (decide_eq_false h_42) (aA5 (aA3 ?_))
  obtain rfl:=Option.some.inj h
  exact fun T S hT hS=>⟨rfl,⟨w_i11,F_i11,w_i10,F_i10,w_i9,F_i9,w_i8,F_i8,w_i7,F_i7,z_i6_0,b_i6_4,w_i3,F_i3,F_i0,J_i4,y_i6_0,h_i6_4,hT.sub (subE.cons rfl (subE.cons rfl (subE.nil _))),hS.sub (.cons (i:=0) rfl (.own rfl rfl) (.cons (i:=1) rfl (.own rfl rfl) (.cons (i:=2) rfl (.own rfl rfl) (.cons (i:=3) rfl (.own rfl rfl) (.cons (i:=4) rfl (.own rfl rfl) (.cons (i:=5) rfl (.cel rfl rfl) (.cons (i:=6) rfl (.own rfl rfl) (.cons (i:=7) rfl (.own rfl rfl) (.cons (i:=8) rfl (.jnk rfl rfl) .nil))))))))) rfl⟩⟩
def aP7 (L : Nat) (W : List Loc) (S0 : AS) (a0 : (Option D.ad1)) (av0 : AV) (a1 : (List (List UInt8))) (av1 : AV) (p_1 : Loc) (g_2 : Nat) (p0 : (Option D.ad1)) (p58 : (List (List UInt8))) (p59 : Int) (G_i6 : Nat) (v0 : AV) (v58 : AV) : (D.l9 × D.y9 × Int) → BT → AS → Prop:=fun (q_i6,q_i0,p60) T S=>∃ (w_i11 : AV) (F_i11 : List Loc) (w_i10 : AV) (F_i10 : List Loc) (w_i9 : AV) (F_i9 : List Loc) (w_i8 : AV) (F_i8 : List Loc) (w_i7 : AV) (F_i7 : List Loc) (z_i6_0 : AV) (b_i6_4 : AV) (w_i3 : AV) (F_i3 : List Loc) (F_i0 : List Loc) (J_i4 : List Loc),RelC (vref ac5 q_i6.f) z_i6_0 ∧ (b_i6_4 = .lit (.pointer none) ∨ b_i6_4 = .ptr ⟨L + 1,18,0⟩ G_i6 0 4) ∧ Ag [(0,v0),(7,.ptr ⟨L + 1,18,0⟩ G_i6 0 0),(58,v58),(59,.lit (.int .i64 p59)),(60,.lit (.int .i64 p60))] T ∧ StA S L (⟨F.ac9,W,S0,true,false⟩ : Fr) [.own false [] (.gs 2 122 (List.map y5 q_i6.state.Queue)) w_i11 F_i11,.own false [] (.rw true 1 3 (List.map (ah4 .i64) q_i6.state.Ranges)) w_i10 F_i10,.own false [] (.bb 5 q_i6.out) w_i9 F_i9,.own false [53] (.gs 1 9 (List.map aa6 q_i6.input)) w_i8 F_i8,.own false [] (.gs 1 88 (List.map (ak6 y8) q_i6.regexes)) w_i7 F_i7,.cel false [18] ⟨L + 1,18,0⟩ G_i6 80 [z_i6_0,w_i7,w_i8,w_i3,b_i6_4,w_i9,.lit (.int .i64 q_i6.state.Op),.lit (.string (bs q_i6.state.Pattern)),.lit (.string (bs q_i6.state.Hold)),.lit (.bool q_i6.state.Flag),.lit (.int .i64 q_i6.state.Line),w_i10,w_i11,.lit (.bool q_i6.state.Done)],.own true [] (.ptr 96 (o7 q_i6.files)) w_i3 F_i3,.own true [] (.ptr 96 (o7 q_i0)) (.ptr p_1 g_2 0 0) F_i0,.jnk true [] J_i4]
def aY8 (L : Nat) (W : List Loc) (S0 : AS) (a0 : (Option D.ad1)) (av0 : AV) (a1 : (List (List UInt8))) (av1 : AV) (p_1 : Loc) (g_2 : Nat) (p0 : (Option D.ad1)) (p58 : (List (List UInt8))) (p59 : Int) (G_i6 : Nat) (v0 : AV) (v58 : AV) : (D.l9 × D.y9) → BT → AS → Prop:=fun (q_i6,q_i0) T S=>∃ (w_i11 : AV) (F_i11 : List Loc) (w_i10 : AV) (F_i10 : List Loc) (w_i9 : AV) (F_i9 : List Loc) (w_i8 : AV) (F_i8 : List Loc) (w_i7 : AV) (F_i7 : List Loc) (z_i6_0 : AV) (b_i6_4 : AV) (w_i3 : AV) (F_i3 : List Loc) (F_i0 : List Loc) (J_i4 : List Loc),RelC (vref ac5 q_i6.f) z_i6_0 ∧ (b_i6_4 = .lit (.pointer none) ∨ b_i6_4 = .ptr ⟨L + 1,18,0⟩ G_i6 0 4) ∧ Ag [(0,v0),(7,.ptr ⟨L + 1,18,0⟩ G_i6 0 0)] T ∧ StA S L (⟨F.ac9,W,S0,true,false⟩ : Fr) [.own false [] (.gs 2 122 (List.map y5 q_i6.state.Queue)) w_i11 F_i11,.own false [] (.rw true 1 3 (List.map (ah4 .i64) q_i6.state.Ranges)) w_i10 F_i10,.own false [] (.bb 5 q_i6.out) w_i9 F_i9,.own false [53] (.gs 1 9 (List.map aa6 q_i6.input)) w_i8 F_i8,.own false [] (.gs 1 88 (List.map (ak6 y8) q_i6.regexes)) w_i7 F_i7,.cel false [18] ⟨L + 1,18,0⟩ G_i6 80 [z_i6_0,w_i7,w_i8,w_i3,b_i6_4,w_i9,.lit (.int .i64 q_i6.state.Op),.lit (.string (bs q_i6.state.Pattern)),.lit (.string (bs q_i6.state.Hold)),.lit (.bool q_i6.state.Flag),.lit (.int .i64 q_i6.state.Line),w_i10,w_i11,.lit (.bool q_i6.state.Done)],.own true [] (.ptr 96 (o7 q_i6.files)) w_i3 F_i3,.own true [] (.ptr 96 (o7 q_i0)) (.ptr p_1 g_2 0 0) F_i0,.jnk true [] J_i4]
theorem b63 {P : Program} [hc : ae4 P] (fu : Nat) {L : Nat} (W : List Loc) (S0 : AS) (a0 : (Option D.ad1)) (av0 : AV) (a1 : (List (List UInt8))) (av1 : AV) (p_1 : Loc) (g_2 : Nat) (p0 : (Option D.ad1)) (p58 : (List (List UInt8))) (p59 : Int) {G_i6 : Nat} {v0 : AV} {v58 : AV} (ar0 : RelC (vref ac5 a0) av0) (ar1 : RelC (.sl 1 (List.map aa6 a1)) av1) (r0 : RelC (vref ac5 p0) v0) (r58 : RelC (.sl 1 (p58.map aa6)) v58) : ∀ (s : (D.l9 × D.y9 × Int)) (c : Ctl (D.l9 × D.y9 × Int) (D.l9 × D.y9) (D.y9 × D.l9)),aZ0 fu p0 p58 p59 s = some c → ∀ T S,aP7 L W S0 a0 av0 a1 av1 p_1 g_2 p0 p58 p59 G_i6 v0 v58 s T S → RunB P K.bq8 T S (am1 4 (aP7 L W S0 a0 av0 a1 av1 p_1 g_2 p0 p58 p59 G_i6 v0 v58) (aY8 L W S0 a0 av0 a1 av1 p_1 g_2 p0 p58 p59 G_i6 v0 v58) (fun r=>RetO (⟨F.ac9,W,S0,true,false⟩ : Fr) L false [av0,av1,.ptr p_1 g_2 0 0] K.ac9.res [.x,.x,.o (.ptr 96 (o7 r.1))] [.o (.ptr 80 (o5 r.2))]) c):=by
 rintro ⟨q_i6,q_i0,p60⟩ c h T S ⟨w_i11,F_i11,w_i10,F_i10,w_i9,F_i9,w_i8,F_i8,w_i7,F_i7,z_i6_0,b_i6_4,w_i3,F_i3,F_i0,J_i4,y_i6_0,h_i6_4,hT,hS⟩
 unfold aZ0 at h
 refine (show GC P K.bq8 L (⟨F.ac9,W,S0,true,false⟩ : Fr) [(0,v0),(7,.ptr ⟨L + 1,18,0⟩ G_i6 0 0),(58,v58),(59,.lit (.int .i64 p59)),(60,.lit (.int .i64 p60))] [.own false [] (.gs 2 122 (List.map y5 q_i6.state.Queue)) w_i11 F_i11,.own false [] (.rw true 1 3 (List.map (ah4 .i64) q_i6.state.Ranges)) w_i10 F_i10,.own false [] (.bb 5 q_i6.out) w_i9 F_i9,.own false [53] (.gs 1 9 (List.map aa6 q_i6.input)) w_i8 F_i8,.own false [] (.gs 1 88 (List.map (ak6 y8) q_i6.regexes)) w_i7 F_i7,.cel false [18] ⟨L + 1,18,0⟩ G_i6 80 [z_i6_0,w_i7,w_i8,w_i3,b_i6_4,w_i9,.lit (.int .i64 q_i6.state.Op),.lit (.string (bs q_i6.state.Pattern)),.lit (.string (bs q_i6.state.Hold)),.lit (.bool q_i6.state.Flag),.lit (.int .i64 q_i6.state.Line),w_i10,w_i11,.lit (.bool q_i6.state.Done)],.own true [] (.ptr 96 (o7 q_i6.files)) w_i3 F_i3,.own true [] (.ptr 96 (o7 q_i0)) (.ptr p_1 g_2 0 0) F_i0,.jnk true [] J_i4] (am1 4 (aP7 L W S0 a0 av0 a1 av1 p_1 g_2 p0 p58 p59 G_i6 v0 v58) (aY8 L W S0 a0 av0 a1 av1 p_1 g_2 p0 p58 p59 G_i6 v0 v58) (fun r=>RetO (⟨F.ac9,W,S0,true,false⟩ : Fr) L false [av0,av1,.ptr p_1 g_2 0 0] K.ac9.res [.x,.x,.o (.ptr 96 (o7 r.1))] [.o (.ptr 80 (o5 r.2))]) c) from ?_) T S hT hS
 refine aa1 (aa2 (o6 (s_ib rfl rfl rfl) (aa3 (y7 (aa1 ?_)))))
 by_cases h_64 : p60 < p59
 ·replace h:=iteT h h_64
  refine g_cT rfl (decide_eq_true h_64) (ah1 (y7 (aa1 (ag3 (aa1 (aa2 ?_))))))
  obtain ⟨x_67,e_68,h⟩:=ac8 h
  refine af5 (s_ia (c:=aa6) rfl r58.toS rfl e_68) ?_
  rintro _ ⟨c_65,rfl,r_66⟩
  refine o6 (aC3 (v:=.str x_67) (a:=.lit (.string (bs x_67))) rfl r_66 rfl (fun _=>aq8)) (o6 (s_mv rfl) (aa3 (y7 (aa2 (o6 (s_mv rfl) (o6 (ah5 rfl) (o6 (s_fa (o':=3) rfl rfl) ?_)))))))
  refine o6 (aL5 (i:=5) rfl rfl rfl) (o6 (s_mv rfl) ?_)
  cases h
 ·replace h:=iteF h h_64
  refine g_cF rfl (decide_eq_false h_64) (aA5 (aA3 ?_))
  obtain rfl:=Option.some.inj h
  exact fun T S hT hS=>⟨rfl,⟨w_i11,F_i11,w_i10,F_i10,w_i9,F_i9,w_i8,F_i8,w_i7,F_i7,z_i6_0,b_i6_4,w_i3,F_i3,F_i0,J_i4,y_i6_0,h_i6_4,hT.sub (subE.cons rfl (subE.cons rfl (subE.nil _))),hS.sub (.cons (i:=0) rfl (.own rfl rfl) (.cons (i:=1) rfl (.own rfl rfl) (.cons (i:=2) rfl (.own rfl rfl) (.cons (i:=3) rfl (.own rfl rfl) (.cons (i:=4) rfl (.own rfl rfl) (.cons (i:=5) rfl (.cel rfl rfl) (.cons (i:=6) rfl (.own rfl rfl) (.cons (i:=7) rfl (.own rfl rfl) (.cons (i:=8) rfl (.jnk rfl rfl) .nil))))))))) rfl⟩⟩
theorem cH1 {P : Program} [hc : ae4 P] (fu : Nat) : S.ac9 P (ac9 fu):=by
 intro a0 a1 a2 r h
 refine ao0 (b:=K.ac9) rfl hc.ac9 rfl rfl rfl ?_
 rintro L S0 _ _ _ ⟨av0,_,rfl,ar0,av1,_,rfl,ar1,av2,_,F2,_,_,rfl,rfl,rfl,rfl,rfl,rfl⟩
 unfold ac9 at h
 refine (show GC P _ L (⟨F.ac9,(F2 ++ []),S0,true,false⟩ : Fr) (numE 0 [av0,av1,av2]) [.own true [] (.ptr 96 (o7 a2)) av2 F2] (RetO (⟨F.ac9,(F2 ++ []),S0,true,false⟩ : Fr) L false [av0,av1,av2] K.ac9.res [.x,.x,.o (.ptr 96 (o7 r.1))] [.o (.ptr 80 (o5 r.2))]) from ?_)
 generalize ((F2 ++ []) : List Loc) = W
 refine aJ0 (Mv.opn rfl) ?_
 rintro _ ⟨p_1,g_2,_,_,rfl,⟨w_3,_,F_4,_,rfl,rfl,rfl,rfl⟩,rfl⟩
 refine aa1 (aa2 (o6 (s_mv rfl) (aa3 (y7 (aa1 (aa2 (o6 (s_mv rfl) ?_)))))))
 refine o6 (s_mv rfl) (aq7 (Mv.sht (os:=(o7 a2)) (N:=[.own true [] (Mp.o Mp.ks (fun v=>.sl 1 (List.map aa6 v)) a2.lines) w_3 F_4]) rfl ⟨rfl,rfl,rfl,rfl⟩) ?_)
 rintro _ ⟨F_5,rfl⟩
 obtain ⟨x_6,e_7,h⟩:=ac8 h
 refine aP5 (A1:=[.own true [] (.ptr 96 (o7 a2)) (.ptr p_1 g_2 0 0) F_5]) rfl rfl (show InC [.o (.ptr 96 (o7 a2))] _ _ from ⟨rfl,rfl,rfl,rfl⟩) rfl rfl rfl rfl rfl ((bG0) _ _ e_7) ?_
 rintro w_11 _ _ J_9 ⟨F_10,_,rfl,rfl⟩ ⟨F_12,rfl⟩
 refine aq7 (Mv.sub (.cons (i:=1) rfl .rfl (.cons (i:=0) rfl .rfl (.cons (i:=2) rfl .rfl .nil))) rfl) ?_
 rintro _ rfl
 refine aq7 (Mv.opn rfl) ?_
 rintro _ ⟨p_13,g_14,_,_,rfl,⟨w_15,_,F_16,_,rfl,rfl,rfl,rfl⟩,rfl⟩
 refine o6 (s_bdX (cs:=[av0,.lit (.slice none 0 0),.lit (.slice none 0 0),.ptr p_13 g_14 0 0,.lit (.pointer none),.lit (.slice none 0 0),.lit (.int .i64 0),.lit (.string (bs [])),.lit (.string (bs [])),.lit (.bool false),.lit (.int .i64 0),.lit (.slice none 0 0),.lit (.slice none 0 0),.lit (.bool false)]) (.cons rfl (rc1 ar0).1 rfl rfl (.cons rfl rfl rfl rfl (.nil rfl)))) (aq7 (Mv.sht (os:=(o7 x_6.2)) (N:=[.own true [] (Mp.o Mp.ks (fun v=>.sl 1 (List.map aa6 v)) x_6.2.lines) w_15 F_16]) rfl ⟨rfl,rfl,rfl,rfl⟩) ?_)
 rintro _ ⟨F_18,rfl⟩
 refine g_co (i:=0) rfl fun hc_19=>?_
 refine g_bxO rfl rfl ⟨.c ar0.closed,.c rfl,.c rfl,hc_19,.c rfl,.c rfl,.c rfl,.c rfl,.c rfl,.c rfl,.c rfl,.c rfl,.c rfl,.c rfl,trivial⟩ rfl fun g_17=>?_
 refine o6 (s_mv rfl) (aa3 (y7 (aa1 (aa1 (aa2 (o6 (s_mv rfl) ?_))))))
 obtain ⟨x_22,e_23,h⟩:=ac8 h
 refine af5 (cR8 (c:=ac5) rfl ar0 e_23) ?_
 rintro _ ⟨c_20,rfl,r_21⟩
 refine af5 (b66 rfl r_21) ?_
 rintro _ ⟨c_24,rfl,r_25⟩
 refine af5 (cI7 (v:=.sl 4 (x_22.Programs.map av8)) rfl r_25 rfl) ?_
 rintro v_26 r_27
 refine o6 (ba7 (c:=av8) rfl r_27) (o6 (s_mv rfl) (aa3 (y7 (ag3 (aJ0 (Mv.addN (ks:=[]) (n:=1) (e:=88) (a:=.lit (.slice none 0 0)) ⟨_,rfl⟩) ?_)))))
 rintro _ rfl
 refine aJ0 (Mv.addN (ks:=[]) (n:=1) (e:=9) (a:=.lit (.slice none 0 0)) ⟨_,rfl⟩) ?_
 rintro _ rfl
 refine aJ0 (Mv.addB (ks:=[]) (te:=5)) ?_
 rintro _ rfl
 refine aJ0 (Mv.addRN (xr:=true) (ks:=[]) (n:=1) (e:=3) (a:=.lit (.slice none 0 0)) ⟨_,rfl⟩) ?_
 rintro _ rfl
 refine aJ0 (Mv.addN (ks:=[]) (n:=2) (e:=122) (a:=.lit (.slice none 0 0)) ⟨_,rfl⟩) ?_
 rintro _ rfl
 obtain ⟨o_39,e_40,h⟩:=ac8 h
 refine aA8 (IN:=aQ5 L W S0 a0 av0 a1 av1 p_1 g_2 a0 a1 x_22.Programs (x_22.Programs.length : Int) g_17 av0 av1 v_26) (IB:=aZ2 L W S0 a0 av0 a1 av1 p_1 g_2 a0 a1 x_22.Programs (x_22.Programs.length : Int) g_17 av0 av1 v_26) (IR:=fun r=>RetO (⟨F.ac9,W,S0,true,false⟩ : Fr) L false [av0,av1,.ptr p_1 g_2 0 0] K.ac9.res [.x,.x,.o (.ptr 96 (o7 r.1))] [.o (.ptr 80 (o5 r.2))]) e_40 (b74 fu W S0 a0 av0 a1 av1 p_1 g_2 a0 a1 x_22.Programs (x_22.Programs.length : Int) (G_i6:=g_17) (v0:=av0) (v1:=av1) (v22:=v_26) ar0 ar1 ar0 ar1 r_27) (fun T S hT hS=>⟨(.lit (.slice none 0 0)),[],(.lit (.slice none 0 0)),[],(.lit (.slice none 0 0)),[],(.lit (.slice none 0 0)),[],(.lit (.slice none 0 0)),[],av0,(.lit (.pointer none)),(.ptr p_13 g_14 0 0),F_18,F_10,J_9,ar0,(.inl rfl),hT.sub (subE.cons rfl (subE.cons rfl (subE.cons rfl (subE.cons rfl (subE.cons rfl (subE.cons rfl (subE.nil _))))))),hS.sub (.cons (i:=0) rfl (.own rfl rfl) (.cons (i:=1) rfl (.own rfl rfl) (.cons (i:=2) rfl (.own rfl rfl) (.cons (i:=3) rfl (.own rfl rfl) (.cons (i:=4) rfl (.own rfl rfl) (.cons (i:=5) rfl (.cel rfl rfl) (.cons (i:=6) rfl (.own rfl rfl) (.cons (i:=7) rfl (.own rfl rfl) (.cons (i:=8) rfl (.jnk rfl rfl) .nil))))))))) rfl⟩) ?_
 rintro x T S hO
 cases o_39 with
 | brk s =>
  obtain ⟨q_i6b_41,q_i0b_41⟩:=s
  obtain ⟨rfl,w_i11b_41,F_i11b_41,w_i10b_41,F_i10b_41,w_i9b_41,F_i9b_41,w_i8b_41,F_i8b_41,w_i7b_41,F_i7b_41,z_i6_0b_41,b_i6_4b_41,w_i3b_41,F_i3b_41,F_i0b_41,J_i4b_41,y_i6_0b_41,h_i6_4b_41,hT,hS⟩:=hO
  refine (show G (.exit 0) L (⟨F.ac9,W,S0,true,false⟩ : Fr) [(0,av0),(1,av1),(7,.ptr ⟨L + 1,18,0⟩ g_17 0 0)] [.own false [] (.gs 2 122 (List.map y5 q_i6b_41.state.Queue)) w_i11b_41 F_i11b_41,.own false [] (.rw true 1 3 (List.map (ah4 .i64) q_i6b_41.state.Ranges)) w_i10b_41 F_i10b_41,.own false [] (.bb 5 q_i6b_41.out) w_i9b_41 F_i9b_41,.own false [] (.gs 1 9 (List.map aa6 q_i6b_41.input)) w_i8b_41 F_i8b_41,.own false [] (.gs 1 88 (List.map (ak6 y8) q_i6b_41.regexes)) w_i7b_41 F_i7b_41,.cel false [18] ⟨L + 1,18,0⟩ g_17 80 [z_i6_0b_41,w_i7b_41,w_i8b_41,w_i3b_41,b_i6_4b_41,w_i9b_41,.lit (.int .i64 q_i6b_41.state.Op),.lit (.string (bs q_i6b_41.state.Pattern)),.lit (.string (bs q_i6b_41.state.Hold)),.lit (.bool q_i6b_41.state.Flag),.lit (.int .i64 q_i6b_41.state.Line),w_i10b_41,w_i11b_41,.lit (.bool q_i6b_41.state.Done)],.own true [] (.ptr 96 (o7 q_i6b_41.files)) w_i3b_41 F_i3b_41,.own true [] (.ptr 96 (o7 q_i0b_41)) (.ptr p_1 g_2 0 0) F_i0b_41,.jnk true [] J_i4b_41] (Blk 0 (Thn P K.bU1 (RetO (⟨F.ac9,W,S0,true,false⟩ : Fr) L false [av0,av1,.ptr p_1 g_2 0 0] K.ac9.res [.x,.x,.o (.ptr 96 (o7 r.1))] [.o (.ptr 80 (o5 r.2))]))) from ?_) T S hT hS
  refine ay3 (y7 (aa1 (aa1 (aa2 (o6 (s_mv rfl) (o6 (ba7 (c:=aa6) rfl ar1) (o6 (s_mv rfl) ?_)))))))
  refine aa3 (y7 (ag3 ?_))
  obtain ⟨o_57,e_58,h⟩:=ac8 h
  refine aA8 (IN:=aP9 L W S0 a0 av0 a1 av1 p_1 g_2 a0 a1 (a1.length : Int) g_17 av0 av1) (IB:=a95 L W S0 a0 av0 a1 av1 p_1 g_2 a0 a1 (a1.length : Int) g_17 av0 av1) (IR:=fun r=>RetO (⟨F.ac9,W,S0,true,false⟩ : Fr) L false [av0,av1,.ptr p_1 g_2 0 0] K.ac9.res [.x,.x,.o (.ptr 96 (o7 r.1))] [.o (.ptr 80 (o5 r.2))]) e_58 (b61 fu W S0 a0 av0 a1 av1 p_1 g_2 a0 a1 (a1.length : Int) (G_i6:=g_17) (v0:=av0) (v40:=av1) ar0 ar1 ar0 ar1) (fun T S hT hS=>⟨w_i11b_41,F_i11b_41,w_i10b_41,F_i10b_41,w_i9b_41,F_i9b_41,w_i8b_41,F_i8b_41,w_i7b_41,F_i7b_41,z_i6_0b_41,b_i6_4b_41,w_i3b_41,F_i3b_41,F_i0b_41,J_i4b_41,y_i6_0b_41,h_i6_4b_41,hT.sub (subE.cons rfl (subE.cons rfl (subE.cons rfl (subE.cons rfl (subE.cons rfl (subE.nil _)))))),hS.sub (.cons (i:=0) rfl (.own rfl rfl) (.cons (i:=1) rfl (.own rfl rfl) (.cons (i:=2) rfl (.own rfl rfl) (.cons (i:=3) rfl (.own rfl rfl) (.cons (i:=4) rfl (.own rfl rfl) (.cons (i:=5) rfl (.cel rfl rfl) (.cons (i:=6) rfl (.own rfl rfl) (.cons (i:=7) rfl (.own rfl rfl) (.cons (i:=8) rfl (.jnk rfl rfl) .nil))))))))) rfl⟩) ?_
  rintro x T S hO
  cases o_57 with
  | brk s =>
   obtain ⟨q_i6b_59,q_i0b_59⟩:=s
   obtain ⟨rfl,w_i11b_59,F_i11b_59,w_i10b_59,F_i10b_59,w_i9b_59,F_i9b_59,w_i8b_59,F_i8b_59,w_i7b_59,F_i7b_59,z_i6_0b_59,b_i6_4b_59,w_i3b_59,F_i3b_59,F_i0b_59,J_i4b_59,y_i6_0b_59,h_i6_4b_59,hT,hS⟩:=hO
   refine (show G (.exit 2) L (⟨F.ac9,W,S0,true,false⟩ : Fr) [(0,av0),(7,.ptr ⟨L + 1,18,0⟩ g_17 0 0)] [.own false [] (.gs 2 122 (List.map y5 q_i6b_59.state.Queue)) w_i11b_59 F_i11b_59,.own false [] (.rw true 1 3 (List.map (ah4 .i64) q_i6b_59.state.Ranges)) w_i10b_59 F_i10b_59,.own false [] (.bb 5 q_i6b_59.out) w_i9b_59 F_i9b_59,.own false [53] (.gs 1 9 (List.map aa6 q_i6b_59.input)) w_i8b_59 F_i8b_59,.own false [] (.gs 1 88 (List.map (ak6 y8) q_i6b_59.regexes)) w_i7b_59 F_i7b_59,.cel false [18] ⟨L + 1,18,0⟩ g_17 80 [z_i6_0b_59,w_i7b_59,w_i8b_59,w_i3b_59,b_i6_4b_59,w_i9b_59,.lit (.int .i64 q_i6b_59.state.Op),.lit (.string (bs q_i6b_59.state.Pattern)),.lit (.string (bs q_i6b_59.state.Hold)),.lit (.bool q_i6b_59.state.Flag),.lit (.int .i64 q_i6b_59.state.Line),w_i10b_59,w_i11b_59,.lit (.bool q_i6b_59.state.Done)],.own true [] (.ptr 96 (o7 q_i6b_59.files)) w_i3b_59 F_i3b_59,.own true [] (.ptr 96 (o7 q_i0b_59)) (.ptr p_1 g_2 0 0) F_i0b_59,.jnk true [] J_i4b_59] (Blk 2 (Thn P K.bT9 (RetO (⟨F.ac9,W,S0,true,false⟩ : Fr) L false [av0,av1,.ptr p_1 g_2 0 0] K.ac9.res [.x,.x,.o (.ptr 96 (o7 r.1))] [.o (.ptr 80 (o5 r.2))]))) from ?_) T S hT hS
   refine ay3 (y7 (aa1 (aa1 (aa2 (o6 (s_mv rfl) ?_)))))
   obtain ⟨x_60,e_61,h⟩:=ac8 h
   refine af5 (bI8 (rs:=[.v (vref ac5 a0)]) (fun _=>rfl) rfl (RVL.toN (L:=L + 1) ⟨_,_,rfl,ar0,rfl⟩) ((bE5 fu) _ _ e_61 (L + 1) _)) ?_
   rintro v_62 r_63
   replace r_63:=ResC.one r_63
   refine o6 (ba7 (c:=aa6) rfl r_63) (o6 (s_mv rfl) (aa3 (y7 (ag3 ?_))))
   obtain ⟨o_69,e_70,h⟩:=ac8 h
   refine aA8 (IN:=aP7 L W S0 a0 av0 a1 av1 p_1 g_2 a0 x_60 (x_60.length : Int) g_17 av0 v_62) (IB:=aY8 L W S0 a0 av0 a1 av1 p_1 g_2 a0 x_60 (x_60.length : Int) g_17 av0 v_62) (IR:=fun r=>RetO (⟨F.ac9,W,S0,true,false⟩ : Fr) L false [av0,av1,.ptr p_1 g_2 0 0] K.ac9.res [.x,.x,.o (.ptr 96 (o7 r.1))] [.o (.ptr 80 (o5 r.2))]) e_70 (b63 fu W S0 a0 av0 a1 av1 p_1 g_2 a0 x_60 (x_60.length : Int) (G_i6:=g_17) (v0:=av0) (v58:=v_62) ar0 ar1 ar0 r_63) (fun T S hT hS=>⟨w_i11b_59,F_i11b_59,w_i10b_59,F_i10b_59,w_i9b_59,F_i9b_59,w_i8b_59,F_i8b_59,w_i7b_59,F_i7b_59,z_i6_0b_59,b_i6_4b_59,w_i3b_59,F_i3b_59,F_i0b_59,J_i4b_59,y_i6_0b_59,h_i6_4b_59,hT.sub (subE.cons rfl (subE.cons rfl (subE.cons rfl (subE.cons rfl (subE.cons rfl (subE.nil _)))))),hS.sub (.cons (i:=0) rfl (.own rfl rfl) (.cons (i:=1) rfl (.own rfl rfl) (.cons (i:=2) rfl (.own rfl rfl) (.cons (i:=3) rfl (.own rfl rfl) (.cons (i:=4) rfl (.own rfl rfl) (.cons (i:=5) rfl (.cel rfl rfl) (.cons (i:=6) rfl (.own rfl rfl) (.cons (i:=7) rfl (.own rfl rfl) (.cons (i:=8) rfl (.jnk rfl rfl) .nil))))))))) rfl⟩) ?_
   rintro x T S hO
   cases o_69 with
   | brk s =>
    obtain ⟨q_i6b_71,q_i0b_71⟩:=s
    obtain ⟨rfl,w_i11b_71,F_i11b_71,w_i10b_71,F_i10b_71,w_i9b_71,F_i9b_71,w_i8b_71,F_i8b_71,w_i7b_71,F_i7b_71,z_i6_0b_71,b_i6_4b_71,w_i3b_71,F_i3b_71,F_i0b_71,J_i4b_71,y_i6_0b_71,h_i6_4b_71,hT,hS⟩:=hO
    refine (show G (.exit 4) L (⟨F.ac9,W,S0,true,false⟩ : Fr) [(0,av0),(7,.ptr ⟨L + 1,18,0⟩ g_17 0 0)] [.own false [] (.gs 2 122 (List.map y5 q_i6b_71.state.Queue)) w_i11b_71 F_i11b_71,.own false [] (.rw true 1 3 (List.map (ah4 .i64) q_i6b_71.state.Ranges)) w_i10b_71 F_i10b_71,.own false [] (.bb 5 q_i6b_71.out) w_i9b_71 F_i9b_71,.own false [53] (.gs 1 9 (List.map aa6 q_i6b_71.input)) w_i8b_71 F_i8b_71,.own false [] (.gs 1 88 (List.map (ak6 y8) q_i6b_71.regexes)) w_i7b_71 F_i7b_71,.cel false [18] ⟨L + 1,18,0⟩ g_17 80 [z_i6_0b_71,w_i7b_71,w_i8b_71,w_i3b_71,b_i6_4b_71,w_i9b_71,.lit (.int .i64 q_i6b_71.state.Op),.lit (.string (bs q_i6b_71.state.Pattern)),.lit (.string (bs q_i6b_71.state.Hold)),.lit (.bool q_i6b_71.state.Flag),.lit (.int .i64 q_i6b_71.state.Line),w_i10b_71,w_i11b_71,.lit (.bool q_i6b_71.state.Done)],.own true [] (.ptr 96 (o7 q_i6b_71.files)) w_i3b_71 F_i3b_71,.own true [] (.ptr 96 (o7 q_i0b_71)) (.ptr p_1 g_2 0 0) F_i0b_71,.jnk true [] J_i4b_71] (Blk 4 (Thn P K.bU5 (RetO (⟨F.ac9,W,S0,true,false⟩ : Fr) L false [av0,av1,.ptr p_1 g_2 0 0] K.ac9.res [.x,.x,.o (.ptr 96 (o7 r.1))] [.o (.ptr 80 (o5 r.2))]))) from ?_) T S hT hS
    refine ay3 (y7 (aa1 (aa2 (o6 (s_mv rfl) (o6 (s_mv rfl) ?_)))))
    obtain ⟨x_74,e_75,h⟩:=ac8 h
    refine af5 (cR8 (c:=ac5) rfl ar0 e_75) ?_
    rintro _ ⟨c_72,rfl,r_73⟩
    refine af5 (b66 rfl r_73) ?_
    rintro _ ⟨c_76,rfl,r_77⟩
    refine o6 (aC3 (v:=.int .i64 x_74.Ranges) (a:=.lit (.int .i64 x_74.Ranges)) rfl r_77 rfl (fun _=>relC_int)) ?_
    obtain ⟨x_78,e_79,h⟩:=ac8 h
    refine g_mkS (xr:=true) (c:=(ah4 .i64)) (z:=0) hc.ms_38 rfl rfl (o8 aa8 au9) e_79 rfl ?_
    intro w_80 F_81
    refine o6 (ah5 rfl) (o6 (s_fa (o':=6) rfl rfl) (o6 (s_fa (o':=11) rfl rfl) ?_))
    refine cV2 (i:=0) rfl rfl fun hc_82 ho_83=>?_
    refine cJ0 (i:=6) rfl rfl rfl ho_83 hc_82 rfl rfl rfl (aa3 (y7 (aa1 (aa2 (o6 (s_mv rfl) (aq7 (Mv.sub (.cons (i:=6) rfl .rfl (.cons (i:=5) rfl .rfl (.cons (i:=4) rfl .rfl (.cons (i:=7) rfl .rfl (.cons (i:=3) rfl .rfl (.cons (i:=0) rfl .rfl (.cons (i:=1) rfl .rfl (.cons (i:=2) rfl .rfl (.cons (i:=8) rfl .rfl (.cons (i:=9) rfl .rfl .nil)))))))))) rfl) ?_))))))
    rintro _ rfl
    refine aq7 (Mv.sht (os:=(o5 (D.l9.mk q_i6b_71.f q_i6b_71.regexes q_i6b_71.input q_i6b_71.files q_i6b_71.out (D.aa0.mk q_i6b_71.state.Op q_i6b_71.state.Pattern q_i6b_71.state.Hold q_i6b_71.state.Flag q_i6b_71.state.Line x_78 q_i6b_71.state.Queue q_i6b_71.state.Done)))) (N:=[.own false [] (.gs 1 88 (List.map (ak6 y8) q_i6b_71.regexes)) w_i7b_71 F_i7b_71,.own false [53] (.gs 1 9 (List.map aa6 q_i6b_71.input)) w_i8b_71 F_i8b_71,.own true [] (.ptr 96 (o7 q_i6b_71.files)) w_i3b_71 F_i3b_71,.own false [] (.bb 5 q_i6b_71.out) w_i9b_71 F_i9b_71,.own false [76] (.rw true 1 3 (List.map (ah4 .i64) x_78)) w_80 F_81,.own false [] (.gs 2 122 (List.map y5 q_i6b_71.state.Queue)) w_i11b_71 F_i11b_71]) rfl ⟨(CV.rel.2 y_i6_0b_71),rfl,rfl,rfl,rfl,rfl,rfl,h_i6_4b_71,rfl,rfl,rfl,rfl,rfl,rfl,rfl,rfl,rfl,rfl,rfl,rfl,rfl,rfl⟩) ?_
    rintro _ ⟨F_84,rfl⟩
    obtain ⟨x_85,e_86,h⟩:=ac8 h
    refine aP5 (A1:=[.own true [18,53,76] (.ptr 80 (o5 (D.l9.mk q_i6b_71.f q_i6b_71.regexes q_i6b_71.input q_i6b_71.files q_i6b_71.out (D.aa0.mk q_i6b_71.state.Op q_i6b_71.state.Pattern q_i6b_71.state.Hold q_i6b_71.state.Flag q_i6b_71.state.Line x_78 q_i6b_71.state.Queue q_i6b_71.state.Done)))) (.ptr ⟨L + 1,18,0⟩ g_17 0 0) F_84]) rfl rfl (show InC [.o (.ptr 80 (o5 (D.l9.mk q_i6b_71.f q_i6b_71.regexes q_i6b_71.input q_i6b_71.files q_i6b_71.out (D.aa0.mk q_i6b_71.state.Op q_i6b_71.state.Pattern q_i6b_71.state.Hold q_i6b_71.state.Flag q_i6b_71.state.Line x_78 q_i6b_71.state.Queue q_i6b_71.state.Done))))] _ _ from ⟨rfl,rfl,rfl,rfl⟩) rfl rfl rfl rfl rfl ((aO4) _ _ e_86) ?_
    rintro _ _ _ J_88 ⟨F_89,_,rfl,rfl⟩ ⟨_,rfl,rfl,rfl⟩
    refine aa3 (y7 (aa1 (aa2 (o6 (s_mv rfl) (o6 (s_mv rfl) (aa3 (y7 ?_)))))))
    refine ap6 ?_
    obtain rfl:=Option.some.inj h
    refine g_mv (Mv.sub (.cons (i:=3) rfl .rfl (.cons (i:=0) rfl .rfl (.cons (i:=1) rfl .rfl (.cons (i:=4) rfl .rfl (.cons (i:=2) rfl .rfl .nil))))) rfl) ?_
    rintro _ rfl
    exact am2 (A1:=[.own true [] (.ptr 96 (o7 q_i0b_71)) (.ptr p_1 g_2 0 0) F_i0b_71]) (A2:=[.own true [18,53,76] (.ptr 80 (o5 x_85)) (.ptr ⟨L + 1,18,0⟩ g_17 0 0) F_89]) (A3:=[.jnk true [18,53,76] J_88,.jnk true [] J_i4b_71]) rfl ⟨rfl,rfl,rfl,rfl⟩ (.l7 rfl .nil) rfl rfl
   | ret r =>
    obtain rfl:=Option.some.inj h
    obtain ⟨rfl,hO⟩:=hO
    exact hO
  | ret r =>
   obtain rfl:=Option.some.inj h
   obtain ⟨rfl,hO⟩:=hO
   exact hO
 | ret r =>
  obtain rfl:=Option.some.inj h
  obtain ⟨rfl,hO⟩:=hO
  exact hO
def S.ab6 (P : Program) (φ : D.l9 → Option D.aa0) : Prop:=∀ (a0 : D.l9) (r : D.aa0),φ a0 = some r → cQ9 P F.ab6 [.o (.ptr 80 (o5 a0))] [.agg (aN6 r)]
theorem aN4 {P : Program} [hc : ae4 P] : S.ab6 P (ab6):=by
 intro a0 r h
 refine bC0 (b:=K.ab6) rfl hc.ab6 (fun _=>rfl) rfl rfl rfl ?_
 rintro L S0 _ _ _ ⟨av0,_,F0,_,_,rfl,rfl,rfl,rfl,rfl,rfl⟩
 unfold ab6 at h
 refine (show GC P _ L (⟨F.ab6,(F0 ++ []),S0,false,true⟩ : Fr) (numE 0 [av0]) [.own true [] (.ptr 80 (o5 a0)) av0 F0] (ab1 L K.ab6.res [.agg (aN6 r)]) from ?_)
 generalize ((F0 ++ []) : List Loc) = W
 refine aJ0 (Mv.opn rfl) ?_
 rintro _ ⟨p_1,g_2,_,_,rfl,hO_19,rfl⟩
 obtain ⟨v_3,w_5,F_6,w_7,F_8,w_9,F_10,b_11,w_13,F_14,w_15,F_16,w_17,F_18,rfl,rfl,r_4,h_12⟩:=ac7 hO_19
 refine aa1 (aa2 ?_)
 refine co1 rfl rfl fun g_20=>?_
 refine aa3 (y7 (aa1 (aa2 (o6 (s_mv rfl) (o6 (ah5 rfl) (o6 (s_fa (o':=6) rfl rfl) (o6 (s_ldnP (i:=1) rfl rfl rfl rfl) ?_)))))))
 refine co1 rfl rfl fun g_21=>?_
 refine cV2 (i:=7) rfl rfl fun hc_22 ho_23=>?_
 refine cV2 (i:=8) rfl rfl fun hc_24 ho_25=>?_
 refine ci9 (i:=0) (b:=.agg [.lit (.int .i64 a0.state.Op),.lit (.string (bs a0.state.Pattern)),.lit (.string (bs a0.state.Hold)),.lit (.bool a0.state.Flag),.lit (.int .i64 a0.state.Line),w_15,w_17,.lit (.bool a0.state.Done)]) (cs':=[.lit (.int .i64 a0.state.Op),.lit (.string (bs a0.state.Pattern)),.lit (.string (bs a0.state.Hold)),.lit (.bool a0.state.Flag),.lit (.int .i64 a0.state.Line),w_15,w_17,.lit (.bool a0.state.Done)]) rfl rfl rfl rfl (aU7 rfl (aU7 rfl (aU7 rfl (aU7 rfl (aU7 rfl (aU7 ho_23.2 (aU7 ho_25.2 (aU7 rfl one_nil)))))))) (CoL.mem ⟨.c rfl,.c rfl,.c rfl,.c rfl,.c rfl,hc_22,hc_24,.c rfl,trivial⟩) rfl rfl rfl (aa3 (y7 (aa1 (au7 (o6 (s_fa (o':=5) rfl rfl) (o6 (aL5 (i:=0) rfl rfl rfl) ?_))))))
 obtain ⟨_,e_27,h⟩:=ac8 h
 refine g_contRE (i:=7) (c:=(ah4 .i64)) (xs:=a0.state.Ranges) rfl (G.emp_eq e_27) fun ra_26=>?_
 obtain ⟨x_28,e_29,h⟩:=ac8 h
 refine af5 (s_clB (rs:=[.sl 1 (a0.state.Ranges.map (ah4 .i64))]) (fun _=>rfl) rfl (show RVN [.sl 1 (a0.state.Ranges.map (ah4 .i64))] _ from (show RVLC [.sl 1 (a0.state.Ranges.map (ah4 .i64))] (List.map AV.ag0 _) from ⟨_,_,rfl,(RelA.nrmA ra_26),rfl⟩)) ((a06) _ _ e_29 (L + 1) _)) ?_
 rintro v_30 r_31
 replace r_31:=ResC.one r_31
 refine o6 (s_fa (o':=6) rfl rfl) (o6 (aL5 (i:=0) rfl rfl rfl) ?_)
 refine bH9 (i:=8) (es:=List.map y5 a0.state.Queue) rfl fun ra_32=>?_
 obtain ⟨x_33,e_34,h⟩:=ac8 h
 refine af5 (s_clB (rs:=[.sl 2 (a0.state.Queue.map y5)]) (fun _=>rfl) rfl (show RVN [.sl 2 (a0.state.Queue.map y5)] _ from (show RVLC [.sl 2 (a0.state.Queue.map y5)] (List.map AV.ag0 _) from ⟨_,_,rfl,(RelA.nrmA ra_32),rfl⟩)) ((aB6) _ _ e_34 (L + 1) _)) ?_
 rintro v_35 r_36
 replace r_36:=ResC.one r_36
 refine o6 (s_fa (o':=5) rfl rfl) (cJ0 (i:=0) rfl rfl rfl (rc1 r_31) (.c r_31.closed) rfl rfl rfl (o6 (s_fa (o':=6) rfl rfl) (cJ0 (i:=0) rfl rfl rfl (rc1 r_36) (.c r_36.closed) rfl rfl rfl (aC8 rfl (y7 (aa1 (aa2 ?_)))))))
 refine o6 (bh0 (i:=0) rfl rfl rfl rfl) (ci9 (i:=1) (b:=.agg [.lit (.int .i64 a0.state.Op),.lit (.string (bs a0.state.Pattern)),.lit (.string (bs a0.state.Hold)),.lit (.bool a0.state.Flag),.lit (.int .i64 a0.state.Line),v_30,v_35,.lit (.bool a0.state.Done)]) (cs':=[.lit (.int .i64 a0.state.Op),.lit (.string (bs a0.state.Pattern)),.lit (.string (bs a0.state.Hold)),.lit (.bool a0.state.Flag),.lit (.int .i64 a0.state.Line),v_30,v_35,.lit (.bool a0.state.Done)]) rfl rfl rfl rfl (ab7.ones ((o8 aa8 (o8 ag6 (o8 ag6 (o8 ai3 (o8 aa8 (o8 r_31 (o8 r_36 (o8 ai3 au9)))))))) : ab7 (aN6 (D.aa0.mk a0.state.Op a0.state.Pattern a0.state.Hold a0.state.Flag a0.state.Line x_28 x_33 a0.state.Done)) _)) (fun a ha=>.c (am8 (ab7.closed ((o8 aa8 (o8 ag6 (o8 ag6 (o8 ai3 (o8 aa8 (o8 r_31 (o8 r_36 (o8 ai3 au9)))))))) : ab7 (aN6 (D.aa0.mk a0.state.Op a0.state.Pattern a0.state.Hold a0.state.Flag a0.state.Line x_28 x_33 a0.state.Done)) _)) a ha)) rfl rfl rfl (aa3 (y7 (ap6 ?_))))
 obtain rfl:=Option.some.inj h
 exact aX0 (.cn (i:=1) rfl ⟨_,_,_,rfl⟩ (o8 aa8 (o8 ag6 (o8 ag6 (o8 ai3 (o8 aa8 (o8 r_31 (o8 r_36 (o8 ai3 au9)))))))) rfl .nil)
def S.ad5 (P : Program) (φ : D.l9 → List UInt8 → Option D.l9) : Prop:=∀ (a0 : D.l9) (a1 : List UInt8) (r : D.l9),φ a0 a1 = some r → by6 P F.ad5 [.o (.ptr 80 (o5 a0)),.r (.str a1)] false [.o (.ptr 80 (o5 r)),.x] []
theorem aP0 {P : Program} [hc : ae4 P] : S.ad5 P (ad5):=by
 intro a0 a1 r h
 refine ao0 (b:=K.ad5) rfl hc.ad5 rfl rfl rfl ?_
 rintro L S0 _ _ _ ⟨av0,_,F0,_,_,rfl,rfl,rfl,_,_,rfl,rfl,rfl,rfl,rfl⟩
 unfold ad5 at h
 refine (show GC P _ L (⟨F.ad5,(F0 ++ []),S0,true,false⟩ : Fr) (numE 0 [av0,.lit (.string (bs a1))]) [.own true [] (.ptr 80 (o5 a0)) av0 F0] (RetO (⟨F.ad5,(F0 ++ []),S0,true,false⟩ : Fr) L false [av0,.lit (.string (bs a1))] K.ad5.res [.o (.ptr 80 (o5 r)),.x] []) from ?_)
 generalize ((F0 ++ []) : List Loc) = W
 refine aJ0 (Mv.opn rfl) ?_
 rintro _ ⟨p_1,g_2,_,_,rfl,hO_19,rfl⟩
 obtain ⟨v_3,w_5,F_6,w_7,F_8,w_9,F_10,b_11,w_13,F_14,w_15,F_16,w_17,F_18,rfl,rfl,r_4,h_12⟩:=ac7 hO_19
 refine aa1 (aa2 (o6 (s_mv rfl) (o6 (ah5 rfl) (o6 (s_fa (o':=4) rfl rfl) (o6 (s_mv rfl) (aq7 (Mv.sub (.cons (i:=0) rfl .rfl (.cons (i:=4) rfl .rfl (.cons (i:=1) rfl .rfl (.cons (i:=2) rfl .rfl (.cons (i:=3) rfl .rfl (.cons (i:=5) rfl .rfl (.cons (i:=6) rfl .rfl .nil))))))) rfl) ?_))))))
 rintro _ rfl
 obtain ⟨x_20,e_21,h⟩:=ac8 h
 refine cx7 hc.bld rfl rfl rfl rfl rfl h_12 rfl rfl hc.lies_80_4 rfl e_21 fun v_22 b_23 w_24 F_25 h_26=>?_
 refine aa3 (y7 (aa2 (o6 (s_mv rfl) (o6 (ah5 rfl) (o6 (s_fa (o':=4) rfl rfl) ?_)))))
 obtain ⟨x_27,e_28,h⟩:=ac8 h
 refine g_bwbP hc.bld rfl rfl rfl rfl rfl h_26 rfl rfl hc.lies_80_4 rfl e_28 fun v_29 b_30 w_31 F_32 h_33=>?_
 refine aa3 ?_
 obtain rfl:=Option.some.inj h
 refine g_mv (Mv.sub (.cons (i:=0) rfl .rfl (.cons (i:=2) rfl .rfl (.cons (i:=3) rfl .rfl (.cons (i:=4) rfl .rfl (.cons (i:=1) rfl .rfl (.cons (i:=5) rfl .rfl (.cons (i:=6) rfl .rfl .nil))))))) rfl) ?_
 rintro _ rfl
 refine g_mv (Mv.sht (os:=(o5 (D.l9.mk a0.f a0.regexes a0.input a0.files x_27 a0.state))) (N:=[.own true [] (.gs 1 88 (List.map (ak6 y8) a0.regexes)) w_5 F_6,.own true [] (.gs 1 9 (List.map aa6 a0.input)) w_7 F_8,.own true [] (.ptr 96 (o7 a0.files)) w_9 F_10,.own true [] (.bb 5 x_27) w_31 F_32,.own true [] (.rw true 1 3 (List.map (ah4 .i64) a0.state.Ranges)) w_15 F_16,.own true [] (.gs 2 122 (List.map y5 a0.state.Queue)) w_17 F_18]) rfl ⟨(CV.rel.2 (CV.rel.1 r_4)),rfl,rfl,rfl,rfl,rfl,rfl,h_33,rfl,rfl,rfl,rfl,rfl,rfl,rfl,rfl,rfl,rfl,rfl,rfl,rfl,rfl⟩) ?_
 rintro _ ⟨F_34,rfl⟩
 exact am2 (A1:=[.own true [] (.ptr 80 (o5 (D.l9.mk a0.f a0.regexes a0.input a0.files x_27 a0.state))) (.ptr p_1 g_2 0 0) F_34]) (A2:=[]) (A3:=[]) rfl ⟨rfl,rfl,rfl,rfl⟩ .nil rfl rfl
def S.aa5 (P : Program) (φ : D.l9 → Option D.l9) : Prop:=∀ (a0 : D.l9) (r : D.l9),φ a0 = some r → by6 P F.aa5 [.o (.ptr 80 (o5 a0))] false [.o (.ptr 80 (o5 r))] []
def aq0 (L : Nat) (W : List Loc) (S0 : AS) (p_1 : Loc) (g_2 : Nat) (p11 : Int) : (D.l9 × Int) → BT → AS → Prop:=fun (q_i0,p12) T S=>∃ (J_i8 : List Loc) (z_i0_0 : AV) (b_i0_4 : AV) (w_i2 : AV) (F_i2 : List Loc) (w_i3 : AV) (F_i3 : List Loc) (w_i4 : AV) (F_i4 : List Loc) (w_i5 : AV) (F_i5 : List Loc) (w_i6 : AV) (F_i6 : List Loc) (w_i7 : AV) (F_i7 : List Loc),RelC (vref ac5 q_i0.f) z_i0_0 ∧ (b_i0_4 = .lit (.pointer none) ∨ b_i0_4 = .ptr p_1 g_2 0 4) ∧ Ag [(0,.ptr p_1 g_2 0 0),(10,w_i7),(11,.lit (.int .i64 p11)),(12,.lit (.int .i64 p12))] T ∧ StA S L (⟨F.aa5,W,S0,true,false⟩ : Fr) [.jnk true [] J_i8,.cel true [] p_1 g_2 80 [z_i0_0,w_i2,w_i3,w_i4,b_i0_4,w_i5,.lit (.int .i64 q_i0.state.Op),.lit (.string (bs q_i0.state.Pattern)),.lit (.string (bs q_i0.state.Hold)),.lit (.bool q_i0.state.Flag),.lit (.int .i64 q_i0.state.Line),w_i6,w_i7,.lit (.bool q_i0.state.Done)],.own true [] (.gs 1 88 (List.map (ak6 y8) q_i0.regexes)) w_i2 F_i2,.own true [] (.gs 1 9 (List.map aa6 q_i0.input)) w_i3 F_i3,.own true [] (.ptr 96 (o7 q_i0.files)) w_i4 F_i4,.own true [] (.bb 5 q_i0.out) w_i5 F_i5,.own true [] (.rw true 1 3 (List.map (ah4 .i64) q_i0.state.Ranges)) w_i6 F_i6,.own true [] (.gs 2 122 (List.map y5 q_i0.state.Queue)) w_i7 F_i7]
def av3 (L : Nat) (W : List Loc) (S0 : AS) (p_1 : Loc) (g_2 : Nat) (p11 : Int) : D.l9 → BT → AS → Prop:=fun q_i0 T S=>∃ (J_i8 : List Loc) (z_i0_0 : AV) (b_i0_4 : AV) (w_i2 : AV) (F_i2 : List Loc) (w_i3 : AV) (F_i3 : List Loc) (w_i4 : AV) (F_i4 : List Loc) (w_i5 : AV) (F_i5 : List Loc) (w_i6 : AV) (F_i6 : List Loc) (w_i7 : AV) (F_i7 : List Loc),RelC (vref ac5 q_i0.f) z_i0_0 ∧ (b_i0_4 = .lit (.pointer none) ∨ b_i0_4 = .ptr p_1 g_2 0 4) ∧ Ag [(0,.ptr p_1 g_2 0 0)] T ∧ StA S L (⟨F.aa5,W,S0,true,false⟩ : Fr) [.jnk true [] J_i8,.cel true [] p_1 g_2 80 [z_i0_0,w_i2,w_i3,w_i4,b_i0_4,w_i5,.lit (.int .i64 q_i0.state.Op),.lit (.string (bs q_i0.state.Pattern)),.lit (.string (bs q_i0.state.Hold)),.lit (.bool q_i0.state.Flag),.lit (.int .i64 q_i0.state.Line),w_i6,w_i7,.lit (.bool q_i0.state.Done)],.own true [] (.gs 1 88 (List.map (ak6 y8) q_i0.regexes)) w_i2 F_i2,.own true [] (.gs 1 9 (List.map aa6 q_i0.input)) w_i3 F_i3,.own true [] (.ptr 96 (o7 q_i0.files)) w_i4 F_i4,.own true [] (.bb 5 q_i0.out) w_i5 F_i5,.own true [] (.rw true 1 3 (List.map (ah4 .i64) q_i0.state.Ranges)) w_i6 F_i6,.own true [] (.gs 2 122 (List.map y5 q_i0.state.Queue)) w_i7 F_i7]
theorem aY2 {P : Program} [hc : ae4 P] {L : Nat} (W : List Loc) (S0 : AS) (p_1 : Loc) (g_2 : Nat) (p11 : Int) : ∀ (s : (D.l9 × Int)) (c : Ctl (D.l9 × Int) D.l9 D.l9),as3 p11 s = some c → ∀ T S,aq0 L W S0 p_1 g_2 p11 s T S → RunB P K.aw0 T S (am1 0 (aq0 L W S0 p_1 g_2 p11) (av3 L W S0 p_1 g_2 p11) (fun r=>RetO (⟨F.aa5,W,S0,true,false⟩ : Fr) L false [.ptr p_1 g_2 0 0] K.aa5.res [.o (.ptr 80 (o5 r))] []) c):=by
 rintro ⟨q_i0,p12⟩ c h T S ⟨J_i8,z_i0_0,b_i0_4,w_i2,F_i2,w_i3,F_i3,w_i4,F_i4,w_i5,F_i5,w_i6,F_i6,w_i7,F_i7,y_i0_0,h_i0_4,hT,hS⟩
 unfold as3 at h
 refine (show GC P K.aw0 L (⟨F.aa5,W,S0,true,false⟩ : Fr) [(0,.ptr p_1 g_2 0 0),(10,w_i7),(11,.lit (.int .i64 p11)),(12,.lit (.int .i64 p12))] [.jnk true [] J_i8,.cel true [] p_1 g_2 80 [z_i0_0,w_i2,w_i3,w_i4,b_i0_4,w_i5,.lit (.int .i64 q_i0.state.Op),.lit (.string (bs q_i0.state.Pattern)),.lit (.string (bs q_i0.state.Hold)),.lit (.bool q_i0.state.Flag),.lit (.int .i64 q_i0.state.Line),w_i6,w_i7,.lit (.bool q_i0.state.Done)],.own true [] (.gs 1 88 (List.map (ak6 y8) q_i0.regexes)) w_i2 F_i2,.own true [] (.gs 1 9 (List.map aa6 q_i0.input)) w_i3 F_i3,.own true [] (.ptr 96 (o7 q_i0.files)) w_i4 F_i4,.own true [] (.bb 5 q_i0.out) w_i5 F_i5,.own true [] (.rw true 1 3 (List.map (ah4 .i64) q_i0.state.Ranges)) w_i6 F_i6,.own true [] (.gs 2 122 (List.map y5 q_i0.state.Queue)) w_i7 F_i7] (am1 0 (aq0 L W S0 p_1 g_2 p11) (av3 L W S0 p_1 g_2 p11) (fun r=>RetO (⟨F.aa5,W,S0,true,false⟩ : Fr) L false [.ptr p_1 g_2 0 0] K.aa5.res [.o (.ptr 80 (o5 r))] []) c) from ?_) T S hT hS
 refine aa1 (aa2 (o6 (s_ib rfl rfl rfl) (aa3 (y7 (aa1 ?_)))))
 by_cases h_21 : p12 < p11
 ·replace h:=iteT h h_21
  refine g_cT rfl (decide_eq_true h_21) (ah1 (y7 (aa1 (ag3 (aa1 (aa2 ?_))))))
  refine bH9 (i:=7) (es:=List.map y5 q_i0.state.Queue) rfl fun ra_22=>?_
  obtain ⟨x_25,e_26,h⟩:=ac8 h
  refine af5 (s_iaA (c:=y5) rfl ra_22 rfl e_26) ?_
  rintro _ ⟨c_23,rfl,r_24⟩
  refine af5 (b90 (N:=y5 x_25) rfl r_24 rfl rfl) ?_
  rintro _ ⟨c_27,rfl,r_28⟩
  refine co1 rfl rfl fun g_29=>?_
  obtain ⟨_,hE_30,_,_,rfl,rfl,_,_,rfl,rfl,rfl⟩:=exL' r_28
  refine ci9 (i:=0) (b:=.agg c_27) (cs':=[.lit (.bool x_25.File),.lit (.string (bs x_25.Text))]) rfl rfl rfl (by rw [hE_30]; rfl) (ab7.ones r_28) (fun a ha=>.c (am8 (ab7.closed r_28) a ha)) rfl (by rw [hE_30]; rfl) rfl (aa3 (y7 (aa1 (aa1 (aa2 (o6 (s_fa (o':=0) rfl rfl) (o6 (aL5 (i:=0) rfl rfl rfl) ?_)))))))
  refine o6 (s_nt rfl) (aa3 (y7 ?_))
  by_cases h_31 : (!x_25.File) = true
  ·replace h:=iteT h h_31
   refine g_cT rfl h_31 (aa1 (au7 (o6 (s_mv rfl) (o6 (ah5 rfl) (o6 (s_fa (o':=4) rfl rfl) (o6 (s_fa (o':=1) rfl rfl) (o6 (aL5 (i:=0) rfl rfl rfl) ?_)))))))
   refine aq7 (Mv.sub (.cons (i:=2) rfl .rfl (.cons (i:=6) rfl .rfl (.cons (i:=0) rfl .rfl (.cons (i:=1) rfl .rfl (.cons (i:=3) rfl .rfl (.cons (i:=4) rfl .rfl (.cons (i:=5) rfl .rfl (.cons (i:=7) rfl .rfl (.cons (i:=8) rfl .rfl .nil))))))))) rfl) ?_
   rintro _ rfl
   obtain ⟨x_32,e_33,h⟩:=ac8 h
   refine cx7 hc.bld rfl rfl rfl rfl rfl h_i0_4 rfl rfl hc.lies_80_4 rfl e_33 fun v_34 b_35 w_36 F_37 h_38=>?_
   refine aC8 rfl (y7 (aA5 (aA3 (ay3 (y7 (aa2 (o6 (s_ib rfl rfl rfl) ?_)))))))
   refine o6 (s_mv rfl) (aa3 ?_)
   obtain rfl:=Option.some.inj h
   refine g_mv (Mv.sub (.cons (i:=0) rfl .rfl (.cons (i:=1) rfl .rfl (.cons (i:=3) rfl .rfl (.cons (i:=4) rfl .rfl (.cons (i:=5) rfl .rfl (.cons (i:=6) rfl .rfl (.cons (i:=7) rfl .rfl (.cons (i:=8) rfl .rfl .nil)))))))) rfl) ?_
   rintro _ rfl
   exact fun T S hT hS=>⟨rfl,⟨J_i8,z_i0_0,b_35,w_i2,F_i2,w_i3,F_i3,w_i4,F_i4,w_36,F_37,w_i6,F_i6,w_i7,F_i7,y_i0_0,h_38,hT.sub (subE.cons rfl (subE.cons rfl (subE.cons rfl (subE.cons rfl (subE.nil _))))),hS.sub (.cons (i:=2) rfl (.jnk rfl rfl) (.cons (i:=0) rfl (.cel rfl rfl) (.cons (i:=3) rfl (.own rfl rfl) (.cons (i:=4) rfl (.own rfl rfl) (.cons (i:=5) rfl (.own rfl rfl) (.cons (i:=1) rfl (.own rfl rfl) (.cons (i:=6) rfl (.own rfl rfl) (.cons (i:=7) rfl (.own rfl rfl) .nil)))))))) rfl⟩⟩
  ·replace h:=iteF h h_31
   refine g_cF rfl (Bool.eq_false_iff.2 h_31) (ah1 (y7 (aa1 (au7 (o6 (s_mv rfl) (o6 (ah5 rfl) (o6 (s_fa (o':=3) rfl rfl) ?_)))))))
   refine o6 (au3 (i:=2) rfl rfl rfl) (o6 (s_fa (o':=1) rfl rfl) (o6 (aL5 (i:=0) rfl rfl rfl) ?_))
   cases h
 ·replace h:=iteF h h_21
  refine g_cF rfl (decide_eq_false h_21) (aA5 (aA3 ?_))
  obtain rfl:=Option.some.inj h
  exact fun T S hT hS=>⟨rfl,⟨J_i8,z_i0_0,b_i0_4,w_i2,F_i2,w_i3,F_i3,w_i4,F_i4,w_i5,F_i5,w_i6,F_i6,w_i7,F_i7,y_i0_0,h_i0_4,hT.sub (subE.cons rfl (subE.nil _)),hS.sub (.cons (i:=0) rfl (.jnk rfl rfl) (.cons (i:=1) rfl (.cel rfl rfl) (.cons (i:=2) rfl (.own rfl rfl) (.cons (i:=3) rfl (.own rfl rfl) (.cons (i:=4) rfl (.own rfl rfl) (.cons (i:=5) rfl (.own rfl rfl) (.cons (i:=6) rfl (.own rfl rfl) (.cons (i:=7) rfl (.own rfl rfl) .nil)))))))) rfl⟩⟩
theorem ax4 {P : Program} [hc : ae4 P] : S.aa5 P (aa5):=by
 intro a0 r h
 refine ao0 (b:=K.aa5) rfl hc.aa5 rfl rfl rfl ?_
 rintro L S0 _ _ _ ⟨av0,_,F0,_,_,rfl,rfl,rfl,rfl,rfl,rfl⟩
 unfold aa5 at h
 refine (show GC P _ L (⟨F.aa5,(F0 ++ []),S0,true,false⟩ : Fr) (numE 0 [av0]) [.own true [] (.ptr 80 (o5 a0)) av0 F0] (RetO (⟨F.aa5,(F0 ++ []),S0,true,false⟩ : Fr) L false [av0] K.aa5.res [.o (.ptr 80 (o5 r))] []) from ?_)
 generalize ((F0 ++ []) : List Loc) = W
 refine aJ0 (Mv.opn rfl) ?_
 rintro _ ⟨p_1,g_2,_,_,rfl,hO_19,rfl⟩
 obtain ⟨v_3,w_5,F_6,w_7,F_8,w_9,F_10,b_11,w_13,F_14,w_15,F_16,w_17,F_18,rfl,rfl,r_4,h_12⟩:=ac7 hO_19
 refine aa1 (aa1 (aa2 (o6 (s_mv rfl) (o6 (ah5 rfl) (o6 (s_fa (o':=6) rfl rfl) (o6 (s_fa (o':=12) rfl rfl) (o6 (au3 (i:=0) rfl rfl rfl) ?_)))))))
 refine bH9 (i:=6) (es:=List.map y5 a0.state.Queue) rfl fun ra_20=>?_
 refine o6 (s_llA (c:=y5) rfl ra_20) (o6 (s_mv rfl) (aa3 (y7 (ag3 (aJ0 Mv.newJ ?_)))))
 rintro _ rfl
 obtain ⟨o_39,e_40,h⟩:=ac8 h
 refine aA8 (IN:=aq0 L W S0 p_1 g_2 (a0.state.Queue.length : Int)) (IB:=av3 L W S0 p_1 g_2 (a0.state.Queue.length : Int)) (IR:=fun r=>RetO (⟨F.aa5,W,S0,true,false⟩ : Fr) L false [.ptr p_1 g_2 0 0] K.aa5.res [.o (.ptr 80 (o5 r))] []) e_40 (aY2 W S0 p_1 g_2 (a0.state.Queue.length : Int) ) (fun T S hT hS=>⟨[],v_3,b_11,w_5,F_6,w_7,F_8,w_9,F_10,w_13,F_14,w_15,F_16,w_17,F_18,(CV.rel.1 r_4),h_12,hT.sub (subE.cons rfl (subE.cons rfl (subE.cons rfl (subE.cons rfl (subE.nil _))))),hS.sub (.cons (i:=0) rfl (.jnk rfl rfl) (.cons (i:=1) rfl (.cel rfl rfl) (.cons (i:=2) rfl (.own rfl rfl) (.cons (i:=3) rfl (.own rfl rfl) (.cons (i:=4) rfl (.own rfl rfl) (.cons (i:=5) rfl (.own rfl rfl) (.cons (i:=6) rfl (.own rfl rfl) (.cons (i:=7) rfl (.own rfl rfl) .nil)))))))) rfl⟩) ?_
 rintro x T S hO
 cases o_39 with
 | brk q_i0b_41 =>
  obtain ⟨rfl,J_i8b_41,z_i0_0b_41,b_i0_4b_41,w_i2b_41,F_i2b_41,w_i3b_41,F_i3b_41,w_i4b_41,F_i4b_41,w_i5b_41,F_i5b_41,w_i6b_41,F_i6b_41,w_i7b_41,F_i7b_41,y_i0_0b_41,h_i0_4b_41,hT,hS⟩:=hO
  refine (show G (.exit 0) L (⟨F.aa5,W,S0,true,false⟩ : Fr) [(0,.ptr p_1 g_2 0 0)] [.jnk true [] J_i8b_41,.cel true [] p_1 g_2 80 [z_i0_0b_41,w_i2b_41,w_i3b_41,w_i4b_41,b_i0_4b_41,w_i5b_41,.lit (.int .i64 q_i0b_41.state.Op),.lit (.string (bs q_i0b_41.state.Pattern)),.lit (.string (bs q_i0b_41.state.Hold)),.lit (.bool q_i0b_41.state.Flag),.lit (.int .i64 q_i0b_41.state.Line),w_i6b_41,w_i7b_41,.lit (.bool q_i0b_41.state.Done)],.own true [] (.gs 1 88 (List.map (ak6 y8) q_i0b_41.regexes)) w_i2b_41 F_i2b_41,.own true [] (.gs 1 9 (List.map aa6 q_i0b_41.input)) w_i3b_41 F_i3b_41,.own true [] (.ptr 96 (o7 q_i0b_41.files)) w_i4b_41 F_i4b_41,.own true [] (.bb 5 q_i0b_41.out) w_i5b_41 F_i5b_41,.own true [] (.rw true 1 3 (List.map (ah4 .i64) q_i0b_41.state.Ranges)) w_i6b_41 F_i6b_41,.own true [] (.gs 2 122 (List.map y5 q_i0b_41.state.Queue)) w_i7b_41 F_i7b_41] (Blk 0 (Thn P K.aI7 (RetO (⟨F.aa5,W,S0,true,false⟩ : Fr) L false [.ptr p_1 g_2 0 0] K.aa5.res [.o (.ptr 80 (o5 r))] []))) from ?_) T S hT hS
  refine ay3 (y7 (aa2 (o6 (s_mv rfl) (o6 (ah5 rfl) (o6 (s_fa (o':=6) rfl rfl) (o6 (s_fa (o':=12) rfl rfl) (as9 (i:=1) rfl rfl rfl ⟨rfl,rfl⟩ (.c rfl) rfl rfl rfl ?_)))))))
  refine aq7 (Mv.sub (.cons (i:=7) rfl .rfl (.cons (i:=0) rfl .rfl (.cons (i:=1) rfl .rfl (.cons (i:=2) rfl .rfl (.cons (i:=3) rfl .rfl (.cons (i:=4) rfl .rfl (.cons (i:=5) rfl .rfl (.cons (i:=6) rfl .rfl .nil)))))))) rfl) ?_
  rintro _ rfl
  refine aq7 (Mv.toJ rfl rfl) ?_
  rintro _ ⟨J_42,rfl⟩
  refine aa3 ?_
  obtain rfl:=Option.some.inj h
  refine g_mv (Mv.addN (ks:=[]) (n:=2) (e:=122) (a:=.lit (.slice none 0 0)) ⟨_,rfl⟩) ?_
  rintro _ rfl
  refine g_mv (Mv.sub (.cons (i:=2) rfl .rfl (.cons (i:=3) rfl .rfl (.cons (i:=4) rfl .rfl (.cons (i:=5) rfl .rfl (.cons (i:=6) rfl .rfl (.cons (i:=7) rfl .rfl (.cons (i:=0) rfl .rfl (.cons (i:=1) rfl .rfl .nil)))))))) rfl) ?_
  rintro _ rfl
  refine g_mv (Mv.sht (os:=(o5 (D.l9.mk q_i0b_41.f q_i0b_41.regexes q_i0b_41.input q_i0b_41.files q_i0b_41.out (D.aa0.mk q_i0b_41.state.Op q_i0b_41.state.Pattern q_i0b_41.state.Hold q_i0b_41.state.Flag q_i0b_41.state.Line q_i0b_41.state.Ranges [] q_i0b_41.state.Done)))) (N:=[.own true [] (.gs 1 88 (List.map (ak6 y8) q_i0b_41.regexes)) w_i2b_41 F_i2b_41,.own true [] (.gs 1 9 (List.map aa6 q_i0b_41.input)) w_i3b_41 F_i3b_41,.own true [] (.ptr 96 (o7 q_i0b_41.files)) w_i4b_41 F_i4b_41,.own true [] (.bb 5 q_i0b_41.out) w_i5b_41 F_i5b_41,.own true [] (.rw true 1 3 (List.map (ah4 .i64) q_i0b_41.state.Ranges)) w_i6b_41 F_i6b_41,.own false [] (.gs 2 122 (List.map y5 [])) (.lit (.slice none 0 0)) []]) rfl ⟨(CV.rel.2 y_i0_0b_41),rfl,rfl,rfl,rfl,rfl,rfl,h_i0_4b_41,rfl,rfl,rfl,rfl,rfl,rfl,rfl,rfl,rfl,rfl,rfl,rfl,rfl,rfl⟩) ?_
  rintro _ ⟨F_43,rfl⟩
  exact am2 (A1:=[.own true [] (.ptr 80 (o5 (D.l9.mk q_i0b_41.f q_i0b_41.regexes q_i0b_41.input q_i0b_41.files q_i0b_41.out (D.aa0.mk q_i0b_41.state.Op q_i0b_41.state.Pattern q_i0b_41.state.Hold q_i0b_41.state.Flag q_i0b_41.state.Line q_i0b_41.state.Ranges [] q_i0b_41.state.Done)))) (.ptr p_1 g_2 0 0) F_43]) (A2:=[]) (A3:=[.jnk true [] J_42]) rfl ⟨rfl,rfl,rfl,rfl⟩ .nil rfl rfl
 | ret r =>
  obtain rfl:=Option.some.inj h
  obtain ⟨rfl,hO⟩:=hO
  exact hO
def S.ad3 (P : Program) (φ : D.l9 → Option D.l9) : Prop:=∀ (a0 : D.l9) (r : D.l9),φ a0 = some r → by6 P F.ad3 [.o (.ptr 80 (o5 a0))] false [.o (.ptr 80 (o5 r))] []
theorem aB4 {P : Program} [hc : ae4 P] : S.ad3 P (ad3):=by
 intro a0 r h
 refine ao0 (b:=K.ad3) rfl hc.ad3 rfl rfl rfl ?_
 rintro L S0 _ _ _ ⟨av0,_,F0,_,_,rfl,rfl,rfl,rfl,rfl,rfl⟩
 unfold ad3 at h
 refine (show GC P _ L (⟨F.ad3,(F0 ++ []),S0,true,false⟩ : Fr) (numE 0 [av0]) [.own true [] (.ptr 80 (o5 a0)) av0 F0] (RetO (⟨F.ad3,(F0 ++ []),S0,true,false⟩ : Fr) L false [av0] K.ad3.res [.o (.ptr 80 (o5 r))] []) from ?_)
 generalize ((F0 ++ []) : List Loc) = W
 refine aJ0 (Mv.opn rfl) ?_
 rintro _ ⟨p_1,g_2,_,_,rfl,hO_19,rfl⟩
 obtain ⟨v_3,w_5,F_6,w_7,F_8,w_9,F_10,b_11,w_13,F_14,w_15,F_16,w_17,F_18,rfl,rfl,r_4,h_12⟩:=ac7 hO_19
 refine aa1 (aa1 (aa2 (o6 (s_mv rfl) (o6 (ah5 rfl) (o6 (s_fa (o':=0) rfl rfl) (o6 (au3 (i:=0) rfl rfl rfl) ?_))))))
 obtain ⟨x_22,e_23,h⟩:=ac8 h
 refine af5 (cR8 (c:=ac5) rfl (CV.rel.1 r_4) e_23) ?_
 rintro _ ⟨c_20,rfl,r_21⟩
 refine af5 (b66 rfl r_21) ?_
 rintro _ ⟨c_24,rfl,r_25⟩
 refine o6 (aC3 (v:=.bool x_22.Quiet) (a:=.lit (.bool x_22.Quiet)) rfl r_25 rfl (fun _=>db3)) (o6 (s_nt rfl) (aa3 (y7 ?_)))
 by_cases h_26 : (!x_22.Quiet) = true
 ·replace h:=iteT h h_26
  refine g_cT rfl h_26 (aa2 (o6 (s_mv rfl) (o6 (s_mv rfl) (o6 (ah5 rfl) (o6 (s_fa (o':=6) rfl rfl) (o6 (s_fa (o':=7) rfl rfl) (o6 (au3 (i:=0) rfl rfl rfl) ?_)))))))
  refine aq7 (Mv.sht (os:=(o5 a0)) (N:=[.own true [] (.gs 1 88 (List.map (ak6 y8) a0.regexes)) w_5 F_6,.own true [] (.gs 1 9 (List.map aa6 a0.input)) w_7 F_8,.own true [] (.ptr 96 (o7 a0.files)) w_9 F_10,.own true [] (.bb 5 a0.out) w_13 F_14,.own true [] (.rw true 1 3 (List.map (ah4 .i64) a0.state.Ranges)) w_15 F_16,.own true [] (.gs 2 122 (List.map y5 a0.state.Queue)) w_17 F_18]) rfl ⟨(CV.rel.2 (CV.rel.1 r_4)),rfl,rfl,rfl,rfl,rfl,rfl,h_12,rfl,rfl,rfl,rfl,rfl,rfl,rfl,rfl,rfl,rfl,rfl,rfl,rfl,rfl⟩) ?_
  rintro _ ⟨F_27,rfl⟩
  obtain ⟨x_28,e_29,h⟩:=ac8 h
  refine aP5 (A1:=[.own true [] (.ptr 80 (o5 a0)) (.ptr p_1 g_2 0 0) F_27]) rfl rfl (show InC [.o (.ptr 80 (o5 a0)),.r (.str a0.state.Pattern)] _ _ from ⟨rfl,rfl,rfl,rfl,rfl⟩) rfl rfl rfl rfl rfl ((aP0) _ _ _ e_29) ?_
  rintro _ _ _ J_31 ⟨F_32,_,rfl,rfl⟩ ⟨_,rfl,rfl,rfl⟩
  refine aa3 (y7 (aa2 (o6 (s_mv rfl) ?_)))
  obtain ⟨x_33,e_34,h⟩:=ac8 h
  refine aP5 (A1:=[.own true [] (.ptr 80 (o5 x_28)) (.ptr p_1 g_2 0 0) F_32]) rfl rfl (show InC [.o (.ptr 80 (o5 x_28))] _ _ from ⟨rfl,rfl,rfl,rfl⟩) rfl rfl rfl rfl rfl ((ax4) _ _ e_34) ?_
  rintro _ _ _ J_36 ⟨F_37,_,rfl,rfl⟩ ⟨_,rfl,rfl,rfl⟩
  refine aa3 ?_
  obtain rfl:=Option.some.inj h
  exact am2 (A1:=[.own true [] (.ptr 80 (o5 x_33)) (.ptr p_1 g_2 0 0) F_37]) (A2:=[]) (A3:=[.jnk true [] J_36,.jnk true [] J_31]) rfl ⟨rfl,rfl,rfl,rfl⟩ .nil rfl rfl
 ·replace h:=iteF h h_26
  refine g_cF rfl (Bool.eq_false_iff.2 h_26) (ah1 (y7 (aa2 (o6 (s_mv rfl) (aq7 (Mv.sht (os:=(o5 a0)) (N:=[.own true [] (.gs 1 88 (List.map (ak6 y8) a0.regexes)) w_5 F_6,.own true [] (.gs 1 9 (List.map aa6 a0.input)) w_7 F_8,.own true [] (.ptr 96 (o7 a0.files)) w_9 F_10,.own true [] (.bb 5 a0.out) w_13 F_14,.own true [] (.rw true 1 3 (List.map (ah4 .i64) a0.state.Ranges)) w_15 F_16,.own true [] (.gs 2 122 (List.map y5 a0.state.Queue)) w_17 F_18]) rfl ⟨(CV.rel.2 (CV.rel.1 r_4)),rfl,rfl,rfl,rfl,rfl,rfl,h_12,rfl,rfl,rfl,rfl,rfl,rfl,rfl,rfl,rfl,rfl,rfl,rfl,rfl,rfl⟩) ?_)))))
  rintro _ ⟨F_38,rfl⟩
  obtain ⟨x_39,e_40,h⟩:=ac8 h
  refine aP5 (A1:=[.own true [] (.ptr 80 (o5 a0)) (.ptr p_1 g_2 0 0) F_38]) rfl rfl (show InC [.o (.ptr 80 (o5 a0))] _ _ from ⟨rfl,rfl,rfl,rfl⟩) rfl rfl rfl rfl rfl ((ax4) _ _ e_40) ?_
  rintro _ _ _ J_42 ⟨F_43,_,rfl,rfl⟩ ⟨_,rfl,rfl,rfl⟩
  refine aa3 ?_
  obtain rfl:=Option.some.inj h
  exact am2 (A1:=[.own true [] (.ptr 80 (o5 x_39)) (.ptr p_1 g_2 0 0) F_43]) (A2:=[]) (A3:=[.jnk true [] J_42]) rfl ⟨rfl,rfl,rfl,rfl⟩ .nil rfl rfl
def S.ac6 (P : Program) (φ : D.l9 → D.ap5 → Option (D.l9 × Bool)) : Prop:=∀ (a0 : D.l9) (a1 : D.ap5) (r : (D.l9 × Bool)),φ a0 a1 = some r → by6 P F.ac6 [.o (.ptr 80 (o5 a0)),.r (.agg (af4 a1))] false [.o (.ptr 80 (o5 r.1)),.x] [.r (.bool r.2)]
theorem bm1 {P : Program} [hc : ae4 P] : S.ac6 P (ac6):=by
 intro a0 a1 r h
 refine ao0 (b:=K.ac6) rfl hc.ac6 rfl rfl rfl ?_
 rintro L S0 _ _ _ ⟨av0,_,F0,_,_,rfl,rfl,rfl,_,_,rfl,⟨ac1,rfl,ar1⟩,rfl,rfl,rfl⟩
 unfold ac6 at h
 refine (show GC P _ L (⟨F.ac6,(F0 ++ []),S0,true,false⟩ : Fr) (numE 0 [av0,.agg ac1]) [.own true [] (.ptr 80 (o5 a0)) av0 F0] (RetO (⟨F.ac6,(F0 ++ []),S0,true,false⟩ : Fr) L false [av0,.agg ac1] K.ac6.res [.o (.ptr 80 (o5 r.1)),.x] [.r (.bool r.2)]) from ?_)
 generalize ((F0 ++ []) : List Loc) = W
 refine aJ0 (Mv.opn rfl) ?_
 rintro _ ⟨p_1,g_2,_,_,rfl,hO_19,rfl⟩
 obtain ⟨v_3,w_5,F_6,w_7,F_8,w_9,F_10,b_11,w_13,F_14,w_15,F_16,w_17,F_18,rfl,rfl,r_4,h_12⟩:=ac7 hO_19
 refine aa1 (aa2 ?_)
 obtain ⟨v_21,v_23,v_25,v_27,hE_29,r_22,r_24,r_26,r_28⟩:=aW8 ar1
 refine g_bxP (cs:=[.lit (.int .i64 a1.Command.At),.lit (.int .i64 a1.Command.Guard.A.Kind),.lit (.int .i64 a1.Command.Guard.A.Line),.lit (.string (bs a1.Command.Guard.A.Text)),v_21,.lit (.int .i64 a1.Command.Guard.B.Kind),.lit (.int .i64 a1.Command.Guard.B.Line),.lit (.string (bs a1.Command.Guard.B.Text)),v_23,.lit (.bool a1.Command.Guard.Not),.lit (.int .u8 a1.Command.Name),.lit (.string (bs a1.Command.Arg)),.lit (.string (bs a1.Command.Sub.Text)),v_25,v_27,.lit (.int .i64 a1.Command.Sub.Nth),.lit (.bool a1.Command.Sub.All),.lit (.bool a1.Command.Sub.Print),.lit (.string (bs a1.Command.Sub.File)),.lit (.string (bs a1.Command.Table)),.lit (.int .i64 a1.A),.lit (.int .i64 a1.B),.lit (.int .i64 a1.Sub),.lit (.int .i64 a1.Range),.lit (.int .i64 a1.Else),.lit (.int .i64 a1.To)]) rfl hE_29 (by rw [← hE_29]; exact ab7.closed ar1) rfl fun g_20=>?_
 refine o6 (s_mv rfl) (aa3 (y7 (aa1 (aa2 (o6 (s_fa (o':=0) rfl rfl) (o6 (s_fa (o':=1) rfl rfl) (o6 (bh0 (i:=0) rfl rfl rfl rfl) ?_)))))))
 refine co1 rfl rfl fun g_30=>?_
 refine ci9 (i:=0) (b:=.agg [.lit (.int .i64 a1.Command.Guard.A.Kind),.lit (.int .i64 a1.Command.Guard.A.Line),.lit (.string (bs a1.Command.Guard.A.Text)),v_21,.lit (.int .i64 a1.Command.Guard.B.Kind),.lit (.int .i64 a1.Command.Guard.B.Line),.lit (.string (bs a1.Command.Guard.B.Text)),v_23,.lit (.bool a1.Command.Guard.Not)]) (cs':=[.lit (.int .i64 a1.Command.Guard.A.Kind),.lit (.int .i64 a1.Command.Guard.A.Line),.lit (.string (bs a1.Command.Guard.A.Text)),v_21,.lit (.int .i64 a1.Command.Guard.B.Kind),.lit (.int .i64 a1.Command.Guard.B.Line),.lit (.string (bs a1.Command.Guard.B.Text)),v_23,.lit (.bool a1.Command.Guard.Not)]) rfl rfl rfl rfl (ab7.ones ((o8 aa8 (o8 aa8 (o8 ag6 (o8 (CV.rel.1 r_22) (o8 aa8 (o8 aa8 (o8 ag6 (o8 (CV.rel.1 r_24) (o8 ai3 au9))))))))) : ab7 (bT8 a1.Command.Guard) _)) (fun a ha=>.c (am8 (ab7.closed ((o8 aa8 (o8 aa8 (o8 ag6 (o8 (CV.rel.1 r_22) (o8 aa8 (o8 aa8 (o8 ag6 (o8 (CV.rel.1 r_24) (o8 ai3 au9))))))))) : ab7 (bT8 a1.Command.Guard) _)) a ha)) rfl rfl rfl (aa3 (y7 (aa1 (ag3 (aa1 (aa2 (o6 (s_fa (o':=23) rfl rfl) ?_)))))))
 refine o6 (aL5 (i:=1) rfl rfl rfl) (o6 (s_ib rfl rfl rfl) (o6 (s_mv rfl) (aa3 (y7 ?_))))
 by_cases h_31 : a1.Range ≥ 0
 ·replace h:=iteT h h_31
  refine g_cT rfl (decide_eq_true h_31) (aa1 (au7 (o6 (s_mv rfl) (o6 (bh0 (i:=1) rfl rfl rfl rfl) ?_))))
  cases h
 ·replace h:=iteF h h_31
  refine g_cF rfl (decide_eq_false h_31) (aa1 (aa2 (o6 (s_fa (o':=0) rfl rfl) (o6 (s_fa (o':=0) rfl rfl) (o6 (aL5 (i:=0) rfl rfl rfl) (o6 (s_ib rfl rfl rfl) (o6 (s_mv rfl) ?_)))))))
  refine aa3 (y7 ?_)
  by_cases h_32 : a1.Command.Guard.A.Kind ≠ 0
  ·replace h:=iteT h h_32
   refine g_cT rfl (decide_eq_true h_32) (aa1 (au7 (o6 (s_mv rfl) (o6 (s_fa (o':=0) rfl rfl) (o6 (bh0 (i:=0) rfl rfl rfl rfl) (o6 (s_fa (o':=20) rfl rfl) (o6 (aL5 (i:=1) rfl rfl rfl) ?_)))))))
   cases h
  ·replace h:=iteF h h_32
   refine g_cF rfl (decide_eq_false h_32) (ah1 (ak4 (y7 (aa1 (aa2 (o6 (s_fa (o':=8) rfl rfl) (o6 (aL5 (i:=0) rfl rfl rfl) ?_)))))))
   refine o6 (s_nt rfl) (o6 (s_mv rfl) (aa3 (y7 (ap6 ?_))))
   obtain rfl:=Option.some.inj h
   refine g_mv (Mv.sub (.cons (i:=2) rfl .rfl (.cons (i:=3) rfl .rfl (.cons (i:=4) rfl .rfl (.cons (i:=5) rfl .rfl (.cons (i:=6) rfl .rfl (.cons (i:=7) rfl .rfl (.cons (i:=8) rfl .rfl (.cons (i:=0) rfl .rfl (.cons (i:=1) rfl .rfl .nil))))))))) rfl) ?_
   rintro _ rfl
   refine g_mv (Mv.sht (os:=(o5 a0)) (N:=[.own true [] (.gs 1 88 (List.map (ak6 y8) a0.regexes)) w_5 F_6,.own true [] (.gs 1 9 (List.map aa6 a0.input)) w_7 F_8,.own true [] (.ptr 96 (o7 a0.files)) w_9 F_10,.own true [] (.bb 5 a0.out) w_13 F_14,.own true [] (.rw true 1 3 (List.map (ah4 .i64) a0.state.Ranges)) w_15 F_16,.own true [] (.gs 2 122 (List.map y5 a0.state.Queue)) w_17 F_18]) rfl ⟨(CV.rel.2 (CV.rel.1 r_4)),rfl,rfl,rfl,rfl,rfl,rfl,h_12,rfl,rfl,rfl,rfl,rfl,rfl,rfl,rfl,rfl,rfl,rfl,rfl,rfl,rfl⟩) ?_
   rintro _ ⟨F_33,rfl⟩
   exact am2 (A1:=[.own true [] (.ptr 80 (o5 a0)) (.ptr p_1 g_2 0 0) F_33]) (A2:=[]) (A3:=[]) rfl ⟨rfl,rfl,rfl,rfl⟩ (.tr rfl rfl .nil) rfl rfl
def S.ab5 (P : Program) (φ : D.l9 → D.ap5 → Option (D.l9 × Bool)) : Prop:=∀ (a0 : D.l9) (a1 : D.ap5) (r : (D.l9 × Bool)),φ a0 a1 = some r → by6 P F.ab5 [.o (.ptr 80 (o5 a0)),.r (.agg (af4 a1))] false [.o (.ptr 80 (o5 r.1)),.x] [.r (.bool r.2)]
theorem aC6 {P : Program} [hc : ae4 P] {L : Nat} (W : List Loc) (S0 : AS) (p_1 : Loc) (g_2 : Nat) (a1 : D.ap5) (ac1 : List AV) (jq_i8 : D.ap5) (jq_i0 : D.l9) (jp144 : Bool) {jJ_i32 : List Loc} {jG_i8 : Nat} {jz_i8_4 : AV} {jz_i8_8 : AV} {jz_i8_13 : AV} {jz_i8_14 : AV} {jz_i0_0 : AV} {jb_i0_4 : AV} {jw_i2 : AV} {jF_i2 : List Loc} {jw_i3 : AV} {jF_i3 : List Loc} {jw_i4 : AV} {jF_i4 : List Loc} {jw_i5 : AV} {jF_i5 : List Loc} {jw_i6 : AV} {jF_i6 : List Loc} {jw_i7 : AV} {jF_i7 : List Loc} (ar1 : ab7 (af4 a1) ac1) (jy_i8_4 : RelC (ak1 jq_i8.Command.Guard.A.Tree) jz_i8_4) (jy_i8_8 : RelC (ak1 jq_i8.Command.Guard.B.Tree) jz_i8_8) (jy_i8_13 : RelC (ak1 jq_i8.Command.Sub.Tree) jz_i8_13) (jy_i8_14 : RelC (.sl 2 (jq_i8.Command.Sub.Parts.map bu1)) jz_i8_14) (jy_i0_0 : RelC (vref ac5 jq_i0.f) jz_i0_0) (jh_i0_4 : (jb_i0_4 = .lit (.pointer none) ∨ jb_i0_4 = .ptr p_1 g_2 0 4)) : ∀ (r : (D.l9 × Bool)),ao8 jq_i8 jq_i0 jp144 = some r → G .normal L (⟨F.ab5,W,S0,true,false⟩ : Fr) [(3,.ptr ⟨L + 1,3,0⟩ jG_i8 0 0),(5,.ptr p_1 g_2 0 6),(144,.lit (.bool jp144))] [.jnk true [] jJ_i32,.cel false [3] ⟨L + 1,3,0⟩ jG_i8 136 [.lit (.int .i64 jq_i8.Command.At),.lit (.int .i64 jq_i8.Command.Guard.A.Kind),.lit (.int .i64 jq_i8.Command.Guard.A.Line),.lit (.string (bs jq_i8.Command.Guard.A.Text)),jz_i8_4,.lit (.int .i64 jq_i8.Command.Guard.B.Kind),.lit (.int .i64 jq_i8.Command.Guard.B.Line),.lit (.string (bs jq_i8.Command.Guard.B.Text)),jz_i8_8,.lit (.bool jq_i8.Command.Guard.Not),.lit (.int .u8 jq_i8.Command.Name),.lit (.string (bs jq_i8.Command.Arg)),.lit (.string (bs jq_i8.Command.Sub.Text)),jz_i8_13,jz_i8_14,.lit (.int .i64 jq_i8.Command.Sub.Nth),.lit (.bool jq_i8.Command.Sub.All),.lit (.bool jq_i8.Command.Sub.Print),.lit (.string (bs jq_i8.Command.Sub.File)),.lit (.string (bs jq_i8.Command.Table)),.lit (.int .i64 jq_i8.A),.lit (.int .i64 jq_i8.B),.lit (.int .i64 jq_i8.Sub),.lit (.int .i64 jq_i8.Range),.lit (.int .i64 jq_i8.Else),.lit (.int .i64 jq_i8.To)],.cel true [] p_1 g_2 80 [jz_i0_0,jw_i2,jw_i3,jw_i4,jb_i0_4,jw_i5,.lit (.int .i64 jq_i0.state.Op),.lit (.string (bs jq_i0.state.Pattern)),.lit (.string (bs jq_i0.state.Hold)),.lit (.bool jq_i0.state.Flag),.lit (.int .i64 jq_i0.state.Line),jw_i6,jw_i7,.lit (.bool jq_i0.state.Done)],.own true [] (.gs 1 88 (List.map (ak6 y8) jq_i0.regexes)) jw_i2 jF_i2,.own true [] (.gs 1 9 (List.map aa6 jq_i0.input)) jw_i3 jF_i3,.own true [] (.ptr 96 (o7 jq_i0.files)) jw_i4 jF_i4,.own true [] (.bb 5 jq_i0.out) jw_i5 jF_i5,.own true [] (.rw true 1 3 (List.map (ah4 .i64) jq_i0.state.Ranges)) jw_i6 jF_i6,.own true [] (.gs 2 122 (List.map y5 jq_i0.state.Queue)) jw_i7 jF_i7] (Thn P K.aO3 (Blk 0 (Thn P K.aO5 (RetO (⟨F.ab5,W,S0,true,false⟩ : Fr) L false [.ptr p_1 g_2 0 0,.agg ac1] K.ab5.res [.o (.ptr 80 (o5 r.1)),.x] [.r (.bool r.2)])))):=by
 intro r h
 unfold ao8 at h
 refine y7 ?_
 by_cases h_182 : jp144 = true
 ·replace h:=iteT h h_182
  refine g_cT rfl h_182 (aa1 (aa2 (o6 (s_mv rfl) (o6 (ah5 rfl) (o6 (s_fa (o':=6) rfl rfl) (o6 (au3 (i:=2) rfl rfl rfl) (o6 (s_ib rfl rfl rfl) ?_)))))))
  refine o6 (ah5 rfl) (o6 (s_fa (o':=6) rfl rfl) (as9 (i:=2) rfl rfl rfl ⟨rfl,rfl⟩ (.c rfl) rfl rfl rfl (aa3 (y7 (aa1 (aa1 (au7 ?_)))))))
  refine o6 (s_mv rfl) (o6 (ah5 rfl) (o6 (s_fa (o':=9) rfl rfl) (o6 (au3 (i:=2) rfl rfl rfl) (o6 (s_fa (o':=0) rfl rfl) (o6 (s_fa (o':=10) rfl rfl) (o6 (aL5 (i:=1) rfl rfl rfl) (o6 (s_ib rfl rfl rfl) ?_)))))))
  refine o6 (s_bb rfl rfl) (aC8 rfl (y7 ?_))
  by_cases h_183 : (decide (jq_i0.state.Flag = (decide (jq_i8.Command.Name = 116))) != false) = true
  ·replace h:=iteT h h_183
   refine g_cT rfl h_183 (aa2 (o6 (s_mv rfl) (o6 (s_fa (o':=25) rfl rfl) (o6 (aL5 (i:=1) rfl rfl rfl) (o6 (ah5 rfl) (o6 (s_fa (o':=6) rfl rfl) (as9 (i:=2) rfl rfl rfl ⟨rfl,rfl⟩ (.c rfl) rfl rfl rfl ?_)))))))
   refine aa3 (y7 (aa2 (o6 (s_mv rfl) (o6 (ah5 rfl) (o6 (s_fa (o':=9) rfl rfl) (as9 (i:=2) rfl rfl rfl ⟨rfl,rfl⟩ (.c rfl) rfl rfl rfl (aa3 ?_)))))))
   refine ak4 (y7 (aa1 (aa2 (o6 (s_mv rfl) (aa3 (y7 (ap6 ?_)))))))
   obtain rfl:=Option.some.inj h
   refine g_mv (Mv.sub (.cons (i:=2) rfl .rfl (.cons (i:=3) rfl .rfl (.cons (i:=4) rfl .rfl (.cons (i:=5) rfl .rfl (.cons (i:=6) rfl .rfl (.cons (i:=7) rfl .rfl (.cons (i:=8) rfl .rfl (.cons (i:=0) rfl .rfl (.cons (i:=1) rfl .rfl .nil))))))))) rfl) ?_
   rintro _ rfl
   refine g_mv (Mv.sht (os:=(o5 (D.l9.mk jq_i0.f jq_i0.regexes jq_i0.input jq_i0.files jq_i0.out (D.aa0.mk jq_i8.To jq_i0.state.Pattern jq_i0.state.Hold false jq_i0.state.Line jq_i0.state.Ranges jq_i0.state.Queue jq_i0.state.Done)))) (N:=[.own true [] (.gs 1 88 (List.map (ak6 y8) jq_i0.regexes)) jw_i2 jF_i2,.own true [] (.gs 1 9 (List.map aa6 jq_i0.input)) jw_i3 jF_i3,.own true [] (.ptr 96 (o7 jq_i0.files)) jw_i4 jF_i4,.own true [] (.bb 5 jq_i0.out) jw_i5 jF_i5,.own true [] (.rw true 1 3 (List.map (ah4 .i64) jq_i0.state.Ranges)) jw_i6 jF_i6,.own true [] (.gs 2 122 (List.map y5 jq_i0.state.Queue)) jw_i7 jF_i7]) rfl ⟨(CV.rel.2 jy_i0_0),rfl,rfl,rfl,rfl,rfl,rfl,jh_i0_4,rfl,rfl,rfl,rfl,rfl,rfl,rfl,rfl,rfl,rfl,rfl,rfl,rfl,rfl⟩) ?_
   rintro _ ⟨F_184,rfl⟩
   exact am2 (A1:=[.own true [] (.ptr 80 (o5 (D.l9.mk jq_i0.f jq_i0.regexes jq_i0.input jq_i0.files jq_i0.out (D.aa0.mk jq_i8.To jq_i0.state.Pattern jq_i0.state.Hold false jq_i0.state.Line jq_i0.state.Ranges jq_i0.state.Queue jq_i0.state.Done)))) (.ptr p_1 g_2 0 0) F_184]) (A2:=[]) (A3:=[.jnk true [] jJ_i32]) rfl ⟨rfl,rfl,rfl,rfl⟩ (.tr rfl rfl .nil) rfl rfl
  ·replace h:=iteF h h_183
   refine g_cF rfl (Bool.eq_false_iff.2 h_183) (ah1 (y7 (aa2 (o6 (s_mv rfl) (o6 (ah5 rfl) (o6 (s_fa (o':=9) rfl rfl) (as9 (i:=2) rfl rfl rfl ⟨rfl,rfl⟩ (.c rfl) rfl rfl rfl ?_)))))))
   refine aa3 (ak4 (y7 (aa1 (aa2 (o6 (s_mv rfl) (aa3 (y7 ?_)))))))
   refine ap6 ?_
   obtain rfl:=Option.some.inj h
   refine g_mv (Mv.sub (.cons (i:=2) rfl .rfl (.cons (i:=3) rfl .rfl (.cons (i:=4) rfl .rfl (.cons (i:=5) rfl .rfl (.cons (i:=6) rfl .rfl (.cons (i:=7) rfl .rfl (.cons (i:=8) rfl .rfl (.cons (i:=0) rfl .rfl (.cons (i:=1) rfl .rfl .nil))))))))) rfl) ?_
   rintro _ rfl
   refine g_mv (Mv.sht (os:=(o5 (D.l9.mk jq_i0.f jq_i0.regexes jq_i0.input jq_i0.files jq_i0.out (D.aa0.mk (G.addI jq_i0.state.Op 1) jq_i0.state.Pattern jq_i0.state.Hold false jq_i0.state.Line jq_i0.state.Ranges jq_i0.state.Queue jq_i0.state.Done)))) (N:=[.own true [] (.gs 1 88 (List.map (ak6 y8) jq_i0.regexes)) jw_i2 jF_i2,.own true [] (.gs 1 9 (List.map aa6 jq_i0.input)) jw_i3 jF_i3,.own true [] (.ptr 96 (o7 jq_i0.files)) jw_i4 jF_i4,.own true [] (.bb 5 jq_i0.out) jw_i5 jF_i5,.own true [] (.rw true 1 3 (List.map (ah4 .i64) jq_i0.state.Ranges)) jw_i6 jF_i6,.own true [] (.gs 2 122 (List.map y5 jq_i0.state.Queue)) jw_i7 jF_i7]) rfl ⟨(CV.rel.2 jy_i0_0),rfl,rfl,rfl,rfl,rfl,rfl,jh_i0_4,rfl,rfl,rfl,rfl,rfl,rfl,rfl,rfl,rfl,rfl,rfl,rfl,rfl,rfl⟩) ?_
   rintro _ ⟨F_185,rfl⟩
   exact am2 (A1:=[.own true [] (.ptr 80 (o5 (D.l9.mk jq_i0.f jq_i0.regexes jq_i0.input jq_i0.files jq_i0.out (D.aa0.mk (G.addI jq_i0.state.Op 1) jq_i0.state.Pattern jq_i0.state.Hold false jq_i0.state.Line jq_i0.state.Ranges jq_i0.state.Queue jq_i0.state.Done)))) (.ptr p_1 g_2 0 0) F_185]) (A2:=[]) (A3:=[.jnk true [] jJ_i32]) rfl ⟨rfl,rfl,rfl,rfl⟩ (.tr rfl rfl .nil) rfl rfl
 ·replace h:=iteF h h_182
  refine g_cF rfl (Bool.eq_false_iff.2 h_182) (aa1 (aa2 (o6 (s_mv rfl) (aa3 (y7 (ap6 (cw1 ?_)))))))
  refine aU1 ?_
  obtain rfl:=Option.some.inj h
  refine g_mv (Mv.sub (.cons (i:=2) rfl .rfl (.cons (i:=3) rfl .rfl (.cons (i:=4) rfl .rfl (.cons (i:=5) rfl .rfl (.cons (i:=6) rfl .rfl (.cons (i:=7) rfl .rfl (.cons (i:=8) rfl .rfl (.cons (i:=0) rfl .rfl (.cons (i:=1) rfl .rfl .nil))))))))) rfl) ?_
  rintro _ rfl
  refine g_mv (Mv.sht (os:=(o5 jq_i0)) (N:=[.own true [] (.gs 1 88 (List.map (ak6 y8) jq_i0.regexes)) jw_i2 jF_i2,.own true [] (.gs 1 9 (List.map aa6 jq_i0.input)) jw_i3 jF_i3,.own true [] (.ptr 96 (o7 jq_i0.files)) jw_i4 jF_i4,.own true [] (.bb 5 jq_i0.out) jw_i5 jF_i5,.own true [] (.rw true 1 3 (List.map (ah4 .i64) jq_i0.state.Ranges)) jw_i6 jF_i6,.own true [] (.gs 2 122 (List.map y5 jq_i0.state.Queue)) jw_i7 jF_i7]) rfl ⟨(CV.rel.2 jy_i0_0),rfl,rfl,rfl,rfl,rfl,rfl,jh_i0_4,rfl,rfl,rfl,rfl,rfl,rfl,rfl,rfl,rfl,rfl,rfl,rfl,rfl,rfl⟩) ?_
  rintro _ ⟨F_186,rfl⟩
  exact am2 (A1:=[.own true [] (.ptr 80 (o5 jq_i0)) (.ptr p_1 g_2 0 0) F_186]) (A2:=[]) (A3:=[.jnk true [] jJ_i32]) rfl ⟨rfl,rfl,rfl,rfl⟩ (.tr rfl rfl .nil) rfl rfl
theorem br2 {P : Program} [hc : ae4 P] : S.ab5 P (ab5):=by
 intro a0 a1 r h
 refine ao0 (b:=K.ab5) rfl hc.ab5 rfl rfl rfl ?_
 rintro L S0 _ _ _ ⟨av0,_,F0,_,_,rfl,rfl,rfl,_,_,rfl,⟨ac1,rfl,ar1⟩,rfl,rfl,rfl⟩
 unfold ab5 at h
 refine (show GC P _ L (⟨F.ab5,(F0 ++ []),S0,true,false⟩ : Fr) (numE 0 [av0,.agg ac1]) [.own true [] (.ptr 80 (o5 a0)) av0 F0] (RetO (⟨F.ab5,(F0 ++ []),S0,true,false⟩ : Fr) L false [av0,.agg ac1] K.ab5.res [.o (.ptr 80 (o5 r.1)),.x] [.r (.bool r.2)]) from ?_)
 generalize ((F0 ++ []) : List Loc) = W
 refine aJ0 (Mv.opn rfl) ?_
 rintro _ ⟨p_1,g_2,_,_,rfl,hO_19,rfl⟩
 obtain ⟨v_3,w_5,F_6,w_7,F_8,w_9,F_10,b_11,w_13,F_14,w_15,F_16,w_17,F_18,rfl,rfl,r_4,h_12⟩:=ac7 hO_19
 refine aa1 (aa2 ?_)
 obtain ⟨v_21,v_23,v_25,v_27,hE_29,r_22,r_24,r_26,r_28⟩:=aW8 ar1
 refine g_bxP (cs:=[.lit (.int .i64 a1.Command.At),.lit (.int .i64 a1.Command.Guard.A.Kind),.lit (.int .i64 a1.Command.Guard.A.Line),.lit (.string (bs a1.Command.Guard.A.Text)),v_21,.lit (.int .i64 a1.Command.Guard.B.Kind),.lit (.int .i64 a1.Command.Guard.B.Line),.lit (.string (bs a1.Command.Guard.B.Text)),v_23,.lit (.bool a1.Command.Guard.Not),.lit (.int .u8 a1.Command.Name),.lit (.string (bs a1.Command.Arg)),.lit (.string (bs a1.Command.Sub.Text)),v_25,v_27,.lit (.int .i64 a1.Command.Sub.Nth),.lit (.bool a1.Command.Sub.All),.lit (.bool a1.Command.Sub.Print),.lit (.string (bs a1.Command.Sub.File)),.lit (.string (bs a1.Command.Table)),.lit (.int .i64 a1.A),.lit (.int .i64 a1.B),.lit (.int .i64 a1.Sub),.lit (.int .i64 a1.Range),.lit (.int .i64 a1.Else),.lit (.int .i64 a1.To)]) rfl hE_29 (by rw [← hE_29]; exact ab7.closed ar1) rfl fun g_20=>?_
 refine o6 (s_mv rfl) (aa3 (y7 (aa1 (aa2 (o6 (s_mv rfl) (o6 (ah5 rfl) (o6 (s_fa (o':=6) rfl rfl) ?_)))))))
 refine o6 (s_mv rfl) (aa3 (y7 (aa1 (aa1 (aa2 (o6 (s_fa (o':=0) rfl rfl) (o6 (s_fa (o':=10) rfl rfl) ?_)))))))
 refine o6 (aL5 (i:=0) rfl rfl rfl) (aa3 (y7 (ag3 (aa1 (aa2 (o6 (s_ib rfl rfl rfl) (o6 (s_mv rfl) ?_)))))))
 refine aa3 (y7 ?_)
 by_cases h_30 : a1.Command.Name = 100
 ·replace h:=iteT h h_30
  refine g_cT rfl (decide_eq_true h_30) (aa2 (o6 (s_mv rfl) ?_))
  cases h
 ·replace h:=iteF h h_30
  refine g_cF rfl (decide_eq_false h_30) (aa1 (aa2 (o6 (s_ib rfl rfl rfl) (o6 (s_mv rfl) (aa3 (y7 ?_))))))
  by_cases h_31 : a1.Command.Name = 68
  ·replace h:=iteT h h_31
   refine g_cT rfl (decide_eq_true h_31) (aa1 (aa2 (o6 (s_mv rfl) (o6 (ah5 rfl) (o6 (s_fa (o':=7) rfl rfl) (o6 (au3 (i:=1) rfl rfl rfl) ?_))))))
   cases h
  ·replace h:=iteF h h_31
   refine g_cF rfl (decide_eq_false h_31) (aa1 (aa2 (o6 (s_ib rfl rfl rfl) (o6 (s_mv rfl) (aa3 (y7 ?_))))))
   by_cases h_32 : a1.Command.Name = 99
   ·replace h:=iteT h h_32
    refine g_cT rfl (decide_eq_true h_32) (aa1 (aa1 (au7 (o6 (s_fa (o':=23) rfl rfl) (o6 (aL5 (i:=0) rfl rfl rfl) (o6 (s_ib rfl rfl rfl) (o6 (s_mv rfl) ?_)))))))
    refine aN5 (gb:=(!(decide (a1.Range < 0)))) (af:=af0) (Q:=fun u=>u = .ptr ⟨L + 1,3,0⟩ g_20 0 0) rfl (af9 _) (fun hg=>?_) ?_
    ·exact s_fa (o':=0) rfl rfl
    intro v_35 hv_33 hu_34
    refine aN5 (gb:=(!(decide (a1.Range < 0)))) (af:=af0) (Q:=fun u=>u = .ptr ⟨L + 1,3,0⟩ g_20 0 1) rfl (af9 _) (fun hg=>?_) ?_
    ·obtain rfl:=(hv_33 hg).symm; exact s_fa (o':=1) rfl rfl
    intro v_38 hv_36 hu_37
    refine aN5 (gb:=(!(decide (a1.Range < 0)))) (af:=af0) (Q:=fun u=>u = .ptr ⟨L + 1,3,0⟩ g_20 0 9) rfl (af9 _) (fun hg=>?_) ?_
    ·obtain rfl:=(hv_36 hg).symm; exact s_fa (o':=9) rfl rfl
    intro v_41 hv_39 hu_40
    refine aN5 (gb:=(!(decide (a1.Range < 0)))) (af:=(some [3],some [])) (Q:=fun u=>u = .lit (.bool a1.Command.Guard.Not)) rfl (af9 _) (fun hg=>?_) ?_
    ·obtain rfl:=(hv_39 hg).symm; exact aL5 (i:=0) rfl rfl rfl
    intro v_44 hv_42 hu_43
    refine o6 (s_or (b:=a1.Command.Guard.Not) rfl rfl (fun hq=>by obtain rfl:=(hv_42 hq).symm <;> rfl)) (o6 (s_mv rfl) ?_)
    refine aN5 (gb:=(!((decide (a1.Range < 0)) || a1.Command.Guard.Not))) (af:=af0) (Q:=fun u=>u = .ptr p_1 g_2 0 6) rfl (af9 _) (fun hg=>?_) ?_
    ·exact s_mv rfl
    intro v_47 hv_45 hu_46
    refine aN5 (gb:=(!((decide (a1.Range < 0)) || a1.Command.Guard.Not))) (af:=af0) (Q:=fun u=>u = .ptr p_1 g_2 0 6) rfl (af9 _) (fun hg=>?_) ?_
    ·obtain rfl:=(hv_45 hg).symm; exact ah5 rfl
    intro v_50 hv_48 hu_49
    refine aN5 (gb:=(!((decide (a1.Range < 0)) || a1.Command.Guard.Not))) (af:=af0) (Q:=fun u=>u = .ptr p_1 g_2 0 11) rfl (af9 _) (fun hg=>?_) ?_
    ·obtain rfl:=(hv_48 hg).symm; exact s_fa (o':=11) rfl rfl
    intro v_53 hv_51 hu_52
    refine aN5 (gb:=(!((decide (a1.Range < 0)) || a1.Command.Guard.Not))) (af:=(some [0],some [])) (Q:=fun u=>u = w_15) rfl (af9 _) (fun hg=>?_) ?_
    ·obtain rfl:=(hv_51 hg).symm; exact au3 (i:=1) rfl rfl rfl
    intro v_56 hv_54 hu_55
    refine aN5 (gb:=(!((decide (a1.Range < 0)) || a1.Command.Guard.Not))) (af:=af0) (Q:=fun u=>u = .ptr ⟨L + 1,3,0⟩ g_20 0 23) rfl (af9 _) (fun hg=>?_) ?_
    ·exact s_fa (o':=23) rfl rfl
    intro v_59 hv_57 hu_58
    refine aN5 (gb:=(!((decide (a1.Range < 0)) || a1.Command.Guard.Not))) (af:=(some [3],some [])) (Q:=fun u=>u = .lit (.int .i64 a1.Range)) rfl (af9 _) (fun hg=>?_) ?_
    ·obtain rfl:=(hv_57 hg).symm; exact aL5 (i:=0) rfl rfl rfl
    intro v_62 hv_60 hu_61
    by_cases h_63 : ((decide (a1.Range < 0)) || a1.Command.Guard.Not) = true
    ·replace h:=iteT h h_63
     refine aX3 rfl ((af9 _).trans (by rw [h_63]; rfl)) (aX3 rfl ((af9 _).trans (by rw [h_63]; rfl)) (aX3 rfl ((af9 _).trans (by rw [h_63]; rfl)) (o6 (s_or (b:=false) rfl rfl (fun hq=>by have hz:=hq; first | (rw [h_63] at hz; cases hz) | simp [h_63] at hz <;> rfl)) (aC8 rfl (y7 ?_)))))
     by_cases h_64 : (((decide (a1.Range < 0)) || a1.Command.Guard.Not) || false) = true
     ·replace h:=iteT h h_64
      refine g_cT rfl h_64 (au7 (o6 (s_mv rfl) (o6 (ah5 rfl) (o6 (s_fa (o':=4) rfl rfl) (o6 (s_fa (o':=0) rfl rfl) (o6 (s_fa (o':=11) rfl rfl) (o6 (aL5 (i:=0) rfl rfl rfl) ?_)))))))
      refine aq7 (Mv.sub (.cons (i:=1) rfl .rfl (.cons (i:=5) rfl .rfl (.cons (i:=0) rfl .rfl (.cons (i:=2) rfl .rfl (.cons (i:=3) rfl .rfl (.cons (i:=4) rfl .rfl (.cons (i:=6) rfl .rfl (.cons (i:=7) rfl .rfl .nil)))))))) rfl) ?_
      rintro _ rfl
      obtain ⟨x_65,e_66,h⟩:=ac8 h
      refine cx7 hc.bld rfl rfl rfl rfl rfl h_12 rfl rfl hc.lies_80_4 rfl e_66 fun v_67 b_68 w_69 F_70 h_71=>?_
      refine aC8 rfl (y7 (aa2 (o6 (s_mv rfl) ?_)))
      cases h
     ·replace h:=iteF h h_64
      refine g_cF rfl (Bool.eq_false_iff.2 h_64) (ah1 (y7 (aa2 (o6 (s_mv rfl) ?_))))
      cases h
    ·replace h:=iteF h h_63
     replace h_63:=Bool.eq_false_iff.2 h_63
     refine aX1 rfl ((af9 _).trans (by rw [h_63]; rfl)) ?_
     obtain rfl:=(hv_54 (by rw [h_63]; rfl)).symm
     obtain rfl:=(hv_60 (by rw [h_63]; rfl)).symm
     obtain ⟨x_72,e_73,h⟩:=ac8 h
     refine g_iaR (i:=6) (c:=(ah4 .i64)) (xs:=a0.state.Ranges) rfl rfl rfl e_73 ?_
     rintro p_74 g_75 n_76 n_77 rfl
     refine aX1 rfl ((af9 _).trans (by rw [h_63]; rfl)) (af5 (s_ldR (i:=6) (c:=(ah4 .i64)) (xs:=a0.state.Ranges) (j:=a1.Range.toNat) (k:=0) rfl rfl rfl rfl (idx_at e_73) rfl) ?_)
     rintro _ rfl
     refine aX1 rfl ((af9 _).trans (by rw [h_63]; rfl)) (o6 (s_ib rfl rfl rfl) (o6 (s_or rfl rfl (fun _=>rfl)) (aC8 rfl (y7 ?_))))
     by_cases h_78 : (((decide (a1.Range < 0)) || a1.Command.Guard.Not) || (decide (x_72 = 0))) = true
     ·replace h:=iteT h h_78
      refine g_cT rfl h_78 (au7 (o6 (s_mv rfl) (o6 (ah5 rfl) (o6 (s_fa (o':=4) rfl rfl) (o6 (s_fa (o':=0) rfl rfl) (o6 (s_fa (o':=11) rfl rfl) (o6 (aL5 (i:=0) rfl rfl rfl) ?_)))))))
      refine aq7 (Mv.sub (.cons (i:=1) rfl .rfl (.cons (i:=5) rfl .rfl (.cons (i:=0) rfl .rfl (.cons (i:=2) rfl .rfl (.cons (i:=3) rfl .rfl (.cons (i:=4) rfl .rfl (.cons (i:=6) rfl .rfl (.cons (i:=7) rfl .rfl .nil)))))))) rfl) ?_
      rintro _ rfl
      obtain ⟨x_79,e_80,h⟩:=ac8 h
      refine cx7 hc.bld rfl rfl rfl rfl rfl h_12 rfl rfl hc.lies_80_4 rfl e_80 fun v_81 b_82 w_83 F_84 h_85=>?_
      refine aC8 rfl (y7 (aa2 (o6 (s_mv rfl) ?_)))
      cases h
     ·replace h:=iteF h h_78
      refine g_cF rfl (Bool.eq_false_iff.2 h_78) (ah1 (y7 (aa2 (o6 (s_mv rfl) ?_))))
      cases h
   ·replace h:=iteF h h_32
    refine g_cF rfl (decide_eq_false h_32) (aa1 (aa2 (o6 (s_ib rfl rfl rfl) (o6 (s_mv rfl) (aa3 (y7 ?_))))))
    by_cases h_86 : a1.Command.Name = 113
    ·replace h:=iteT h h_86
     refine g_cT rfl (decide_eq_true h_86) (aa1 (aa2 (o6 (s_mv rfl) (aq7 (Mv.sub (.cons (i:=1) rfl .rfl (.cons (i:=2) rfl .rfl (.cons (i:=3) rfl .rfl (.cons (i:=4) rfl .rfl (.cons (i:=5) rfl .rfl (.cons (i:=6) rfl .rfl (.cons (i:=7) rfl .rfl (.cons (i:=0) rfl .rfl .nil)))))))) rfl) ?_))))
     rintro _ rfl
     refine aq7 (Mv.sht (os:=(o5 a0)) (N:=[.own true [] (.gs 1 88 (List.map (ak6 y8) a0.regexes)) w_5 F_6,.own true [] (.gs 1 9 (List.map aa6 a0.input)) w_7 F_8,.own true [] (.ptr 96 (o7 a0.files)) w_9 F_10,.own true [] (.bb 5 a0.out) w_13 F_14,.own true [] (.rw true 1 3 (List.map (ah4 .i64) a0.state.Ranges)) w_15 F_16,.own true [] (.gs 2 122 (List.map y5 a0.state.Queue)) w_17 F_18]) rfl ⟨(CV.rel.2 (CV.rel.1 r_4)),rfl,rfl,rfl,rfl,rfl,rfl,h_12,rfl,rfl,rfl,rfl,rfl,rfl,rfl,rfl,rfl,rfl,rfl,rfl,rfl,rfl⟩) ?_
     rintro _ ⟨F_87,rfl⟩
     obtain ⟨x_88,e_89,h⟩:=ac8 h
     refine aP5 (A1:=[.own true [] (.ptr 80 (o5 a0)) (.ptr p_1 g_2 0 0) F_87]) rfl rfl (show InC [.o (.ptr 80 (o5 a0))] _ _ from ⟨rfl,rfl,rfl,rfl⟩) rfl rfl rfl rfl rfl ((aB4) _ _ e_89) ?_
     rintro _ _ _ J_91 ⟨F_92,_,rfl,rfl⟩ ⟨_,rfl,rfl,rfl⟩
     refine aa3 (y7 (aa2 (o6 (s_mv rfl) (o6 (ah5 rfl) (aq7 (Mv.opn2 rfl) ?_)))))
     rintro _ ⟨_,_,hO_109,rfl⟩
     obtain ⟨v_93,w_95,F_96,w_97,F_98,w_99,F_100,b_101,w_103,F_104,w_105,F_106,w_107,F_108,rfl,rfl,r_94,h_102⟩:=ac7 hO_109
     refine o6 (s_fa (o':=13) rfl rfl) (as9 (i:=0) rfl rfl rfl ⟨rfl,rfl⟩ (.c rfl) rfl rfl rfl (aa3 (ak4 (y7 (aa1 (aa2 (o6 (s_mv rfl) ?_)))))))
     refine aa3 (y7 (ap6 ?_))
     obtain rfl:=Option.some.inj h
     refine g_mv (Mv.sht (os:=(o5 (D.l9.mk x_88.f x_88.regexes x_88.input x_88.files x_88.out (D.aa0.mk x_88.state.Op x_88.state.Pattern x_88.state.Hold x_88.state.Flag x_88.state.Line x_88.state.Ranges x_88.state.Queue true)))) (N:=[.own true [] (.gs 1 88 (List.map (ak6 y8) x_88.regexes)) w_95 F_96,.own true [] (.gs 1 9 (List.map aa6 x_88.input)) w_97 F_98,.own true [] (.ptr 96 (o7 x_88.files)) w_99 F_100,.own true [] (.bb 5 x_88.out) w_103 F_104,.own true [] (.rw true 1 3 (List.map (ah4 .i64) x_88.state.Ranges)) w_105 F_106,.own true [] (.gs 2 122 (List.map y5 x_88.state.Queue)) w_107 F_108]) rfl ⟨(CV.rel.2 (CV.rel.1 r_94)),rfl,rfl,rfl,rfl,rfl,rfl,h_102,rfl,rfl,rfl,rfl,rfl,rfl,rfl,rfl,rfl,rfl,rfl,rfl,rfl,rfl⟩) ?_
     rintro _ ⟨F_110,rfl⟩
     exact am2 (A1:=[.own true [] (.ptr 80 (o5 (D.l9.mk x_88.f x_88.regexes x_88.input x_88.files x_88.out (D.aa0.mk x_88.state.Op x_88.state.Pattern x_88.state.Hold x_88.state.Flag x_88.state.Line x_88.state.Ranges x_88.state.Queue true)))) (.ptr p_1 g_2 0 0) F_110]) (A2:=[]) (A3:=[.jnk true [] J_91]) rfl ⟨rfl,rfl,rfl,rfl⟩ (.tr rfl rfl .nil) rfl rfl
    ·replace h:=iteF h h_86
     refine g_cF rfl (decide_eq_false h_86) (aa1 (aa2 (o6 (s_ib rfl rfl rfl) (o6 (s_mv rfl) (aa3 (y7 ?_))))))
     by_cases h_111 : a1.Command.Name = 81
     ·replace h:=iteT h h_111
      refine g_cT rfl (decide_eq_true h_111) (aa2 (o6 (s_mv rfl) (o6 (ah5 rfl) (o6 (s_fa (o':=13) rfl rfl) (as9 (i:=1) rfl rfl rfl ⟨rfl,rfl⟩ (.c rfl) rfl rfl rfl (aa3 (ak4 ?_)))))))
      refine y7 (aa1 (aa2 (o6 (s_mv rfl) (aa3 (y7 (ap6 ?_))))))
      obtain rfl:=Option.some.inj h
      refine g_mv (Mv.sub (.cons (i:=1) rfl .rfl (.cons (i:=2) rfl .rfl (.cons (i:=3) rfl .rfl (.cons (i:=4) rfl .rfl (.cons (i:=5) rfl .rfl (.cons (i:=6) rfl .rfl (.cons (i:=7) rfl .rfl (.cons (i:=0) rfl .rfl .nil)))))))) rfl) ?_
      rintro _ rfl
      refine g_mv (Mv.sht (os:=(o5 (D.l9.mk a0.f a0.regexes a0.input a0.files a0.out (D.aa0.mk a0.state.Op a0.state.Pattern a0.state.Hold a0.state.Flag a0.state.Line a0.state.Ranges a0.state.Queue true)))) (N:=[.own true [] (.gs 1 88 (List.map (ak6 y8) a0.regexes)) w_5 F_6,.own true [] (.gs 1 9 (List.map aa6 a0.input)) w_7 F_8,.own true [] (.ptr 96 (o7 a0.files)) w_9 F_10,.own true [] (.bb 5 a0.out) w_13 F_14,.own true [] (.rw true 1 3 (List.map (ah4 .i64) a0.state.Ranges)) w_15 F_16,.own true [] (.gs 2 122 (List.map y5 a0.state.Queue)) w_17 F_18]) rfl ⟨(CV.rel.2 (CV.rel.1 r_4)),rfl,rfl,rfl,rfl,rfl,rfl,h_12,rfl,rfl,rfl,rfl,rfl,rfl,rfl,rfl,rfl,rfl,rfl,rfl,rfl,rfl⟩) ?_
      rintro _ ⟨F_112,rfl⟩
      exact am2 (A1:=[.own true [] (.ptr 80 (o5 (D.l9.mk a0.f a0.regexes a0.input a0.files a0.out (D.aa0.mk a0.state.Op a0.state.Pattern a0.state.Hold a0.state.Flag a0.state.Line a0.state.Ranges a0.state.Queue true)))) (.ptr p_1 g_2 0 0) F_112]) (A2:=[]) (A3:=[]) rfl ⟨rfl,rfl,rfl,rfl⟩ (.tr rfl rfl .nil) rfl rfl
     ·replace h:=iteF h h_111
      refine g_cF rfl (decide_eq_false h_111) (aa1 (aa2 (o6 (s_ib rfl rfl rfl) (o6 (s_mv rfl) (aa3 (y7 ?_))))))
      by_cases h_113 : a1.Command.Name = 110
      ·replace h:=iteT h h_113
       refine g_cT rfl (decide_eq_true h_113) (aa1 (aa2 (o6 (s_mv rfl) (aq7 (Mv.sub (.cons (i:=1) rfl .rfl (.cons (i:=2) rfl .rfl (.cons (i:=3) rfl .rfl (.cons (i:=4) rfl .rfl (.cons (i:=5) rfl .rfl (.cons (i:=6) rfl .rfl (.cons (i:=7) rfl .rfl (.cons (i:=0) rfl .rfl .nil)))))))) rfl) ?_))))
       rintro _ rfl
       refine aq7 (Mv.sht (os:=(o5 a0)) (N:=[.own true [] (.gs 1 88 (List.map (ak6 y8) a0.regexes)) w_5 F_6,.own true [] (.gs 1 9 (List.map aa6 a0.input)) w_7 F_8,.own true [] (.ptr 96 (o7 a0.files)) w_9 F_10,.own true [] (.bb 5 a0.out) w_13 F_14,.own true [] (.rw true 1 3 (List.map (ah4 .i64) a0.state.Ranges)) w_15 F_16,.own true [] (.gs 2 122 (List.map y5 a0.state.Queue)) w_17 F_18]) rfl ⟨(CV.rel.2 (CV.rel.1 r_4)),rfl,rfl,rfl,rfl,rfl,rfl,h_12,rfl,rfl,rfl,rfl,rfl,rfl,rfl,rfl,rfl,rfl,rfl,rfl,rfl,rfl⟩) ?_
       rintro _ ⟨F_114,rfl⟩
       obtain ⟨x_115,e_116,h⟩:=ac8 h
       refine aP5 (A1:=[.own true [] (.ptr 80 (o5 a0)) (.ptr p_1 g_2 0 0) F_114]) rfl rfl (show InC [.o (.ptr 80 (o5 a0))] _ _ from ⟨rfl,rfl,rfl,rfl⟩) rfl rfl rfl rfl rfl ((aB4) _ _ e_116) ?_
       rintro _ _ _ J_118 ⟨F_119,_,rfl,rfl⟩ ⟨_,rfl,rfl,rfl⟩
       refine aa3 (y7 (aa1 (aa2 (o6 (s_mv rfl) ?_))))
       obtain ⟨x_120,e_121,h⟩:=ac8 h
       refine aP5 (A1:=[.own true [] (.ptr 80 (o5 x_115)) (.ptr p_1 g_2 0 0) F_119]) rfl rfl (show InC [.o (.ptr 80 (o5 x_115))] _ _ from ⟨rfl,rfl,rfl,rfl⟩) rfl rfl rfl rfl rfl ((ay8) _ _ e_121) ?_
       rintro _ _ _ J_123 ⟨F_124,_,rfl,rfl⟩ ⟨_,rfl,_,_,rfl,rfl,_,_,rfl,rfl,rfl,rfl⟩
       refine o6 (s_mv rfl) (o6 (s_ex rfl rfl) (o6 (s_ex rfl rfl) (o6 (s_mv rfl) (o6 (s_mv rfl) (aa3 (y7 (aa1 ?_)))))))
       refine aa2 (o6 (s_mv rfl) (aa3 (y7 ?_)))
       by_cases h_125 : x_120.2.2 = true
       ·replace h:=iteT h h_125
        refine g_cT rfl h_125 (aa1 (aa2 (o6 (s_mv rfl) (o6 (s_mv rfl) (o6 (ah5 rfl) (aq7 (Mv.opn2 rfl) ?_))))))
        rintro _ ⟨_,_,hO_142,rfl⟩
        obtain ⟨v_126,w_128,F_129,w_130,F_131,w_132,F_133,b_134,w_136,F_137,w_138,F_139,w_140,F_141,rfl,rfl,r_127,h_135⟩:=ac7 hO_142
        refine o6 (s_fa (o':=7) rfl rfl) (as9 (i:=0) rfl rfl rfl ⟨rfl,rfl⟩ (.c rfl) rfl rfl rfl (aa3 (y7 (aa2 (o6 (s_mv rfl) (o6 (ah5 rfl) (o6 (s_fa (o':=6) rfl rfl) ?_)))))))
        refine o6 (au3 (i:=0) rfl rfl rfl) (o6 (s_ib rfl rfl rfl) (o6 (ah5 rfl) (o6 (s_fa (o':=6) rfl rfl) (as9 (i:=0) rfl rfl rfl ⟨rfl,rfl⟩ (.c rfl) rfl rfl rfl (aa3 (ak4 (y7 ?_)))))))
        refine aa1 (aa2 (o6 (s_mv rfl) (aa3 (y7 (ap6 ?_)))))
        obtain rfl:=Option.some.inj h
        refine g_mv (Mv.sht (os:=(o5 (D.l9.mk x_120.1.f x_120.1.regexes x_120.1.input x_120.1.files x_120.1.out (D.aa0.mk (G.addI x_120.1.state.Op 1) x_120.2.1 x_120.1.state.Hold x_120.1.state.Flag x_120.1.state.Line x_120.1.state.Ranges x_120.1.state.Queue x_120.1.state.Done)))) (N:=[.own true [] (.gs 1 88 (List.map (ak6 y8) x_120.1.regexes)) w_128 F_129,.own true [] (.gs 1 9 (List.map aa6 x_120.1.input)) w_130 F_131,.own true [] (.ptr 96 (o7 x_120.1.files)) w_132 F_133,.own true [] (.bb 5 x_120.1.out) w_136 F_137,.own true [] (.rw true 1 3 (List.map (ah4 .i64) x_120.1.state.Ranges)) w_138 F_139,.own true [] (.gs 2 122 (List.map y5 x_120.1.state.Queue)) w_140 F_141]) rfl ⟨(CV.rel.2 (CV.rel.1 r_127)),rfl,rfl,rfl,rfl,rfl,rfl,h_135,rfl,rfl,rfl,rfl,rfl,rfl,rfl,rfl,rfl,rfl,rfl,rfl,rfl,rfl⟩) ?_
        rintro _ ⟨F_143,rfl⟩
        exact am2 (A1:=[.own true [] (.ptr 80 (o5 (D.l9.mk x_120.1.f x_120.1.regexes x_120.1.input x_120.1.files x_120.1.out (D.aa0.mk (G.addI x_120.1.state.Op 1) x_120.2.1 x_120.1.state.Hold x_120.1.state.Flag x_120.1.state.Line x_120.1.state.Ranges x_120.1.state.Queue x_120.1.state.Done)))) (.ptr p_1 g_2 0 0) F_143]) (A2:=[]) (A3:=[.jnk true [] J_123,.jnk true [] J_118]) rfl ⟨rfl,rfl,rfl,rfl⟩ (.tr rfl rfl .nil) rfl rfl
       ·replace h:=iteF h h_125
        refine g_cF rfl (Bool.eq_false_iff.2 h_125) (ah1 (ak4 (y7 (aa1 (aa2 (o6 (s_mv rfl) (aa3 ?_)))))))
        refine y7 (ap6 ?_)
        obtain rfl:=Option.some.inj h
        exact am2 (A1:=[.own true [] (.ptr 80 (o5 x_120.1)) (.ptr p_1 g_2 0 0) F_124]) (A2:=[]) (A3:=[.jnk true [] J_123,.jnk true [] J_118]) rfl ⟨rfl,rfl,rfl,rfl⟩ (.tr rfl rfl .nil) rfl rfl
      ·replace h:=iteF h h_113
       refine g_cF rfl (decide_eq_false h_113) (aa1 (aa2 (o6 (s_ib rfl rfl rfl) (o6 (s_mv rfl) (aa3 (y7 ?_))))))
       by_cases h_144 : a1.Command.Name = 78
       ·replace h:=iteT h h_144
        refine g_cT rfl (decide_eq_true h_144) (aa1 (aa2 (o6 (s_mv rfl) (aq7 (Mv.sub (.cons (i:=1) rfl .rfl (.cons (i:=2) rfl .rfl (.cons (i:=3) rfl .rfl (.cons (i:=4) rfl .rfl (.cons (i:=5) rfl .rfl (.cons (i:=6) rfl .rfl (.cons (i:=7) rfl .rfl (.cons (i:=0) rfl .rfl .nil)))))))) rfl) ?_))))
        rintro _ rfl
        refine aq7 (Mv.sht (os:=(o5 a0)) (N:=[.own true [] (.gs 1 88 (List.map (ak6 y8) a0.regexes)) w_5 F_6,.own true [] (.gs 1 9 (List.map aa6 a0.input)) w_7 F_8,.own true [] (.ptr 96 (o7 a0.files)) w_9 F_10,.own true [] (.bb 5 a0.out) w_13 F_14,.own true [] (.rw true 1 3 (List.map (ah4 .i64) a0.state.Ranges)) w_15 F_16,.own true [] (.gs 2 122 (List.map y5 a0.state.Queue)) w_17 F_18]) rfl ⟨(CV.rel.2 (CV.rel.1 r_4)),rfl,rfl,rfl,rfl,rfl,rfl,h_12,rfl,rfl,rfl,rfl,rfl,rfl,rfl,rfl,rfl,rfl,rfl,rfl,rfl,rfl⟩) ?_
        rintro _ ⟨F_145,rfl⟩
        obtain ⟨x_146,e_147,h⟩:=ac8 h
        refine aP5 (A1:=[.own true [] (.ptr 80 (o5 a0)) (.ptr p_1 g_2 0 0) F_145]) rfl rfl (show InC [.o (.ptr 80 (o5 a0))] _ _ from ⟨rfl,rfl,rfl,rfl⟩) rfl rfl rfl rfl rfl ((ax4) _ _ e_147) ?_
        rintro _ _ _ J_149 ⟨F_150,_,rfl,rfl⟩ ⟨_,rfl,rfl,rfl⟩
        refine aa3 (y7 (aa1 (aa2 (o6 (s_mv rfl) ?_))))
        obtain ⟨x_151,e_152,h⟩:=ac8 h
        refine aP5 (A1:=[.own true [] (.ptr 80 (o5 x_146)) (.ptr p_1 g_2 0 0) F_150]) rfl rfl (show InC [.o (.ptr 80 (o5 x_146))] _ _ from ⟨rfl,rfl,rfl,rfl⟩) rfl rfl rfl rfl rfl ((ay8) _ _ e_152) ?_
        rintro _ _ _ J_154 ⟨F_155,_,rfl,rfl⟩ ⟨_,rfl,_,_,rfl,rfl,_,_,rfl,rfl,rfl,rfl⟩
        refine o6 (s_mv rfl) (o6 (s_ex rfl rfl) (o6 (s_ex rfl rfl) (o6 (s_mv rfl) (o6 (s_mv rfl) (aa3 (y7 (aa1 ?_)))))))
        refine aa2 (o6 (s_mv rfl) (aa3 (y7 ?_)))
        by_cases h_156 : x_151.2.2 = true
        ·replace h:=iteT h h_156
         refine g_cT rfl h_156 (aa1 (aa2 (o6 (s_mv rfl) (o6 (ah5 rfl) (aq7 (Mv.opn2 rfl) ?_)))))
         rintro _ ⟨_,_,hO_173,rfl⟩
         obtain ⟨v_157,w_159,F_160,w_161,F_162,w_163,F_164,b_165,w_167,F_168,w_169,F_170,w_171,F_172,rfl,rfl,r_158,h_166⟩:=ac7 hO_173
         refine o6 (s_fa (o':=7) rfl rfl) (o6 (au3 (i:=0) rfl rfl rfl) (o6 (s_mv rfl) ?_))
         obtain ⟨x_174,e_175,h⟩:=ac8 h
         refine o6 (b52 rfl rfl e_175) ?_
         obtain ⟨x_176,e_177,h⟩:=ac8 h
         refine o6 (b52 rfl rfl e_177) (o6 (ah5 rfl) (o6 (s_fa (o':=7) rfl rfl) (as9 (i:=0) rfl rfl rfl ⟨rfl,rfl⟩ (.c rfl) rfl rfl rfl (aa3 (y7 (aa2 (o6 (s_mv rfl) ?_)))))))
         refine o6 (ah5 rfl) (o6 (s_fa (o':=6) rfl rfl) (o6 (au3 (i:=0) rfl rfl rfl) (o6 (s_ib rfl rfl rfl) (o6 (ah5 rfl) (o6 (s_fa (o':=6) rfl rfl) (as9 (i:=0) rfl rfl rfl ⟨rfl,rfl⟩ (.c rfl) rfl rfl rfl (aa3 ?_)))))))
         refine ak4 (y7 (aa1 (aa2 (o6 (s_mv rfl) (aa3 (y7 (ap6 ?_)))))))
         obtain rfl:=Option.some.inj h
         refine g_mv (Mv.sht (os:=(o5 (D.l9.mk x_151.1.f x_151.1.regexes x_151.1.input x_151.1.files x_151.1.out (D.aa0.mk (G.addI x_151.1.state.Op 1) x_176 x_151.1.state.Hold x_151.1.state.Flag x_151.1.state.Line x_151.1.state.Ranges x_151.1.state.Queue x_151.1.state.Done)))) (N:=[.own true [] (.gs 1 88 (List.map (ak6 y8) x_151.1.regexes)) w_159 F_160,.own true [] (.gs 1 9 (List.map aa6 x_151.1.input)) w_161 F_162,.own true [] (.ptr 96 (o7 x_151.1.files)) w_163 F_164,.own true [] (.bb 5 x_151.1.out) w_167 F_168,.own true [] (.rw true 1 3 (List.map (ah4 .i64) x_151.1.state.Ranges)) w_169 F_170,.own true [] (.gs 2 122 (List.map y5 x_151.1.state.Queue)) w_171 F_172]) rfl ⟨(CV.rel.2 (CV.rel.1 r_158)),rfl,rfl,rfl,rfl,rfl,rfl,h_166,rfl,rfl,rfl,rfl,rfl,rfl,rfl,rfl,rfl,rfl,rfl,rfl,rfl,rfl⟩) ?_
         rintro _ ⟨F_178,rfl⟩
         exact am2 (A1:=[.own true [] (.ptr 80 (o5 (D.l9.mk x_151.1.f x_151.1.regexes x_151.1.input x_151.1.files x_151.1.out (D.aa0.mk (G.addI x_151.1.state.Op 1) x_176 x_151.1.state.Hold x_151.1.state.Flag x_151.1.state.Line x_151.1.state.Ranges x_151.1.state.Queue x_151.1.state.Done)))) (.ptr p_1 g_2 0 0) F_178]) (A2:=[]) (A3:=[.jnk true [] J_154,.jnk true [] J_149]) rfl ⟨rfl,rfl,rfl,rfl⟩ (.tr rfl rfl .nil) rfl rfl
        ·replace h:=iteF h h_156
         refine g_cF rfl (Bool.eq_false_iff.2 h_156) (ah1 (ak4 (y7 (aa1 (aa2 (o6 (s_mv rfl) (aa3 ?_)))))))
         refine y7 (ap6 ?_)
         obtain rfl:=Option.some.inj h
         exact am2 (A1:=[.own true [] (.ptr 80 (o5 x_151.1)) (.ptr p_1 g_2 0 0) F_155]) (A2:=[]) (A3:=[.jnk true [] J_154,.jnk true [] J_149]) rfl ⟨rfl,rfl,rfl,rfl⟩ (.tr rfl rfl .nil) rfl rfl
       ·replace h:=iteF h h_144
        refine g_cF rfl (decide_eq_false h_144) (aa1 (aa2 (o6 (s_ib rfl rfl rfl) (o6 (s_mv rfl) (aa3 (y7 ?_))))))
        by_cases h_179 : a1.Command.Name = 98
        ·replace h:=iteT h h_179
         refine g_cT rfl (decide_eq_true h_179) (aa2 (o6 (s_mv rfl) (o6 (s_fa (o':=25) rfl rfl) (o6 (aL5 (i:=0) rfl rfl rfl) (o6 (ah5 rfl) (o6 (s_fa (o':=6) rfl rfl) (as9 (i:=1) rfl rfl rfl ⟨rfl,rfl⟩ (.c rfl) rfl rfl rfl ?_)))))))
         refine aa3 (ak4 (y7 (aa1 (aa2 (o6 (s_mv rfl) (aa3 (y7 ?_)))))))
         refine ap6 ?_
         obtain rfl:=Option.some.inj h
         refine g_mv (Mv.sub (.cons (i:=1) rfl .rfl (.cons (i:=2) rfl .rfl (.cons (i:=3) rfl .rfl (.cons (i:=4) rfl .rfl (.cons (i:=5) rfl .rfl (.cons (i:=6) rfl .rfl (.cons (i:=7) rfl .rfl (.cons (i:=0) rfl .rfl .nil)))))))) rfl) ?_
         rintro _ rfl
         refine g_mv (Mv.sht (os:=(o5 (D.l9.mk a0.f a0.regexes a0.input a0.files a0.out (D.aa0.mk a1.To a0.state.Pattern a0.state.Hold a0.state.Flag a0.state.Line a0.state.Ranges a0.state.Queue a0.state.Done)))) (N:=[.own true [] (.gs 1 88 (List.map (ak6 y8) a0.regexes)) w_5 F_6,.own true [] (.gs 1 9 (List.map aa6 a0.input)) w_7 F_8,.own true [] (.ptr 96 (o7 a0.files)) w_9 F_10,.own true [] (.bb 5 a0.out) w_13 F_14,.own true [] (.rw true 1 3 (List.map (ah4 .i64) a0.state.Ranges)) w_15 F_16,.own true [] (.gs 2 122 (List.map y5 a0.state.Queue)) w_17 F_18]) rfl ⟨(CV.rel.2 (CV.rel.1 r_4)),rfl,rfl,rfl,rfl,rfl,rfl,h_12,rfl,rfl,rfl,rfl,rfl,rfl,rfl,rfl,rfl,rfl,rfl,rfl,rfl,rfl⟩) ?_
         rintro _ ⟨F_180,rfl⟩
         exact am2 (A1:=[.own true [] (.ptr 80 (o5 (D.l9.mk a0.f a0.regexes a0.input a0.files a0.out (D.aa0.mk a1.To a0.state.Pattern a0.state.Hold a0.state.Flag a0.state.Line a0.state.Ranges a0.state.Queue a0.state.Done)))) (.ptr p_1 g_2 0 0) F_180]) (A2:=[]) (A3:=[]) rfl ⟨rfl,rfl,rfl,rfl⟩ (.tr rfl rfl .nil) rfl rfl
        ·replace h:=iteF h h_179
         refine g_cF rfl (decide_eq_false h_179) (aa1 (aa1 (aa2 (o6 (s_ib rfl rfl rfl) (o6 (s_mv rfl) (aa3 (y7 ?_)))))))
         by_cases h_181 : a1.Command.Name = 116
         ·replace h:=iteT h h_181
          refine g_cT rfl (decide_eq_true h_181) (ah1 (g_mv Mv.newJ ?_))
          rintro _ rfl
          exact co6 (subE.cons rfl (subE.cons rfl (subE.cons rfl (subE.nil _)))) (.cons (i:=0) rfl (.jnk rfl rfl) (.cons (i:=1) rfl (.cel rfl rfl) (.cons (i:=2) rfl (.cel rfl rfl) (.cons (i:=3) rfl (.own rfl rfl) (.cons (i:=4) rfl (.own rfl rfl) (.cons (i:=5) rfl (.own rfl rfl) (.cons (i:=6) rfl (.own rfl rfl) (.cons (i:=7) rfl (.own rfl rfl) (.cons (i:=8) rfl (.own rfl rfl) .nil))))))))) rfl (aC6 W S0 p_1 g_2 a1 ac1 a1 a0 (decide (a1.Command.Name = 116)) (jJ_i32:=[]) (jG_i8:=g_20) (jz_i8_4:=v_21) (jz_i8_8:=v_23) (jz_i8_13:=v_25) (jz_i8_14:=v_27) (jz_i0_0:=v_3) (jb_i0_4:=b_11) (jw_i2:=w_5) (jF_i2:=F_6) (jw_i3:=w_7) (jF_i3:=F_8) (jw_i4:=w_9) (jF_i4:=F_10) (jw_i5:=w_13) (jF_i5:=F_14) (jw_i6:=w_15) (jF_i6:=F_16) (jw_i7:=w_17) (jF_i7:=F_18) ar1 (CV.rel.1 r_22) (CV.rel.1 r_24) (CV.rel.1 r_26) r_28 (CV.rel.1 r_4) h_12 _ h)
         ·replace h:=iteF h h_181
          refine g_cF rfl (decide_eq_false h_181) (aa2 (o6 (s_ib rfl rfl rfl) (o6 (s_mv rfl) (aa3 (g_mv Mv.newJ ?_)))))
          rintro _ rfl
          exact co6 (subE.cons rfl (subE.cons rfl (subE.cons rfl (subE.nil _)))) (.cons (i:=0) rfl (.jnk rfl rfl) (.cons (i:=1) rfl (.cel rfl rfl) (.cons (i:=2) rfl (.cel rfl rfl) (.cons (i:=3) rfl (.own rfl rfl) (.cons (i:=4) rfl (.own rfl rfl) (.cons (i:=5) rfl (.own rfl rfl) (.cons (i:=6) rfl (.own rfl rfl) (.cons (i:=7) rfl (.own rfl rfl) (.cons (i:=8) rfl (.own rfl rfl) .nil))))))))) rfl (aC6 W S0 p_1 g_2 a1 ac1 a1 a0 (decide (a1.Command.Name = 84)) (jJ_i32:=[]) (jG_i8:=g_20) (jz_i8_4:=v_21) (jz_i8_8:=v_23) (jz_i8_13:=v_25) (jz_i8_14:=v_27) (jz_i0_0:=v_3) (jb_i0_4:=b_11) (jw_i2:=w_5) (jF_i2:=F_6) (jw_i3:=w_7) (jF_i3:=F_8) (jw_i4:=w_9) (jF_i4:=F_10) (jw_i5:=w_13) (jF_i5:=F_14) (jw_i6:=w_15) (jF_i6:=F_16) (jw_i7:=w_17) (jF_i7:=F_18) ar1 (CV.rel.1 r_22) (CV.rel.1 r_24) (CV.rel.1 r_26) r_28 (CV.rel.1 r_4) h_12 _ h)
def S.ad6 (P : Program) (φ : D.l9 → D.ap5 → Option D.l9) : Prop:=∀ (a0 : D.l9) (a1 : D.ap5) (r : D.l9),φ a0 a1 = some r → by6 P F.ad6 [.o (.ptr 80 (o5 a0)),.r (.agg (af4 a1))] false [.o (.ptr 80 (o5 r)),.x] []
theorem bx9 {P : Program} [hc : ae4 P] : S.ad6 P (ad6):=by
 intro a0 a1 r h
 refine ao0 (b:=K.ad6) rfl hc.ad6 rfl rfl rfl ?_
 rintro L S0 _ _ _ ⟨av0,_,F0,_,_,rfl,rfl,rfl,_,_,rfl,⟨ac1,rfl,ar1⟩,rfl,rfl,rfl⟩
 unfold ad6 at h
 refine (show GC P _ L (⟨F.ad6,(F0 ++ []),S0,true,false⟩ : Fr) (numE 0 [av0,.agg ac1]) [.own true [] (.ptr 80 (o5 a0)) av0 F0] (RetO (⟨F.ad6,(F0 ++ []),S0,true,false⟩ : Fr) L false [av0,.agg ac1] K.ad6.res [.o (.ptr 80 (o5 r)),.x] []) from ?_)
 generalize ((F0 ++ []) : List Loc) = W
 refine aJ0 (Mv.opn rfl) ?_
 rintro _ ⟨p_1,g_2,_,_,rfl,hO_19,rfl⟩
 obtain ⟨v_3,w_5,F_6,w_7,F_8,w_9,F_10,b_11,w_13,F_14,w_15,F_16,w_17,F_18,rfl,rfl,r_4,h_12⟩:=ac7 hO_19
 refine aa1 (aa2 ?_)
 obtain ⟨v_21,v_23,v_25,v_27,hE_29,r_22,r_24,r_26,r_28⟩:=aW8 ar1
 refine g_bxP (cs:=[.lit (.int .i64 a1.Command.At),.lit (.int .i64 a1.Command.Guard.A.Kind),.lit (.int .i64 a1.Command.Guard.A.Line),.lit (.string (bs a1.Command.Guard.A.Text)),v_21,.lit (.int .i64 a1.Command.Guard.B.Kind),.lit (.int .i64 a1.Command.Guard.B.Line),.lit (.string (bs a1.Command.Guard.B.Text)),v_23,.lit (.bool a1.Command.Guard.Not),.lit (.int .u8 a1.Command.Name),.lit (.string (bs a1.Command.Arg)),.lit (.string (bs a1.Command.Sub.Text)),v_25,v_27,.lit (.int .i64 a1.Command.Sub.Nth),.lit (.bool a1.Command.Sub.All),.lit (.bool a1.Command.Sub.Print),.lit (.string (bs a1.Command.Sub.File)),.lit (.string (bs a1.Command.Table)),.lit (.int .i64 a1.A),.lit (.int .i64 a1.B),.lit (.int .i64 a1.Sub),.lit (.int .i64 a1.Range),.lit (.int .i64 a1.Else),.lit (.int .i64 a1.To)]) rfl hE_29 (by rw [← hE_29]; exact ab7.closed ar1) rfl fun g_20=>?_
 refine aa3 (y7 (aa1 (aa2 (o6 (s_mv rfl) (o6 (ah5 rfl) (o6 (s_fa (o':=6) rfl rfl) (o6 (s_mv rfl) ?_)))))))
 refine aa3 (y7 (aa1 (aa2 (o6 (s_fa (o':=0) rfl rfl) (o6 (s_fa (o':=10) rfl rfl) (o6 (aL5 (i:=0) rfl rfl rfl) (aa3 ?_)))))))
 refine y7 (ag3 (aa1 (aa2 (o6 (s_ib rfl rfl rfl) (o6 (s_mv rfl) (aa3 (y7 ?_)))))))
 by_cases h_30 : a1.Command.Name = 103
 ·replace h:=iteT h h_30
  refine g_cT rfl (decide_eq_true h_30) (aa2 (o6 (s_mv rfl) (o6 (s_mv rfl) (o6 (ah5 rfl) (o6 (s_fa (o':=8) rfl rfl) (o6 (au3 (i:=1) rfl rfl rfl) (o6 (ah5 rfl) ?_)))))))
  refine o6 (s_fa (o':=7) rfl rfl) (as9 (i:=1) rfl rfl rfl ⟨rfl,rfl⟩ (.c rfl) rfl rfl rfl (aa3 (ak4 ?_)))
  obtain rfl:=Option.some.inj h
  refine g_mv (Mv.sub (.cons (i:=1) rfl .rfl (.cons (i:=2) rfl .rfl (.cons (i:=3) rfl .rfl (.cons (i:=4) rfl .rfl (.cons (i:=5) rfl .rfl (.cons (i:=6) rfl .rfl (.cons (i:=7) rfl .rfl (.cons (i:=0) rfl .rfl .nil)))))))) rfl) ?_
  rintro _ rfl
  refine g_mv (Mv.sht (os:=(o5 (D.l9.mk a0.f a0.regexes a0.input a0.files a0.out (D.aa0.mk a0.state.Op a0.state.Hold a0.state.Hold a0.state.Flag a0.state.Line a0.state.Ranges a0.state.Queue a0.state.Done)))) (N:=[.own true [] (.gs 1 88 (List.map (ak6 y8) a0.regexes)) w_5 F_6,.own true [] (.gs 1 9 (List.map aa6 a0.input)) w_7 F_8,.own true [] (.ptr 96 (o7 a0.files)) w_9 F_10,.own true [] (.bb 5 a0.out) w_13 F_14,.own true [] (.rw true 1 3 (List.map (ah4 .i64) a0.state.Ranges)) w_15 F_16,.own true [] (.gs 2 122 (List.map y5 a0.state.Queue)) w_17 F_18]) rfl ⟨(CV.rel.2 (CV.rel.1 r_4)),rfl,rfl,rfl,rfl,rfl,rfl,h_12,rfl,rfl,rfl,rfl,rfl,rfl,rfl,rfl,rfl,rfl,rfl,rfl,rfl,rfl⟩) ?_
  rintro _ ⟨F_31,rfl⟩
  exact am2 (A1:=[.own true [] (.ptr 80 (o5 (D.l9.mk a0.f a0.regexes a0.input a0.files a0.out (D.aa0.mk a0.state.Op a0.state.Hold a0.state.Hold a0.state.Flag a0.state.Line a0.state.Ranges a0.state.Queue a0.state.Done)))) (.ptr p_1 g_2 0 0) F_31]) (A2:=[]) (A3:=[]) rfl ⟨rfl,rfl,rfl,rfl⟩ .nil rfl rfl
 ·replace h:=iteF h h_30
  refine g_cF rfl (decide_eq_false h_30) (aa1 (aa2 (o6 (s_ib rfl rfl rfl) (o6 (s_mv rfl) (aa3 (y7 ?_))))))
  by_cases h_32 : a1.Command.Name = 71
  ·replace h:=iteT h h_32
   refine g_cT rfl (decide_eq_true h_32) (au7 (o6 (s_mv rfl) (o6 (ah5 rfl) (o6 (s_fa (o':=7) rfl rfl) (o6 (au3 (i:=1) rfl rfl rfl) (o6 (s_mv rfl) (o6 (ah5 rfl) ?_)))))))
   refine o6 (s_fa (o':=8) rfl rfl) (o6 (au3 (i:=1) rfl rfl rfl) ?_)
   obtain ⟨x_33,e_34,h⟩:=ac8 h
   refine o6 (b52 rfl rfl e_34) ?_
   obtain ⟨x_35,e_36,h⟩:=ac8 h
   refine o6 (b52 rfl rfl e_36) (o6 (ah5 rfl) (o6 (s_fa (o':=7) rfl rfl) (as9 (i:=1) rfl rfl rfl ⟨rfl,rfl⟩ (.c rfl) rfl rfl rfl (aC8 rfl (ak4 ?_)))))
   obtain rfl:=Option.some.inj h
   refine g_mv (Mv.sub (.cons (i:=1) rfl .rfl (.cons (i:=2) rfl .rfl (.cons (i:=3) rfl .rfl (.cons (i:=4) rfl .rfl (.cons (i:=5) rfl .rfl (.cons (i:=6) rfl .rfl (.cons (i:=7) rfl .rfl (.cons (i:=0) rfl .rfl .nil)))))))) rfl) ?_
   rintro _ rfl
   refine g_mv (Mv.sht (os:=(o5 (D.l9.mk a0.f a0.regexes a0.input a0.files a0.out (D.aa0.mk a0.state.Op x_35 a0.state.Hold a0.state.Flag a0.state.Line a0.state.Ranges a0.state.Queue a0.state.Done)))) (N:=[.own true [] (.gs 1 88 (List.map (ak6 y8) a0.regexes)) w_5 F_6,.own true [] (.gs 1 9 (List.map aa6 a0.input)) w_7 F_8,.own true [] (.ptr 96 (o7 a0.files)) w_9 F_10,.own true [] (.bb 5 a0.out) w_13 F_14,.own true [] (.rw true 1 3 (List.map (ah4 .i64) a0.state.Ranges)) w_15 F_16,.own true [] (.gs 2 122 (List.map y5 a0.state.Queue)) w_17 F_18]) rfl ⟨(CV.rel.2 (CV.rel.1 r_4)),rfl,rfl,rfl,rfl,rfl,rfl,h_12,rfl,rfl,rfl,rfl,rfl,rfl,rfl,rfl,rfl,rfl,rfl,rfl,rfl,rfl⟩) ?_
   rintro _ ⟨F_37,rfl⟩
   exact am2 (A1:=[.own true [] (.ptr 80 (o5 (D.l9.mk a0.f a0.regexes a0.input a0.files a0.out (D.aa0.mk a0.state.Op x_35 a0.state.Hold a0.state.Flag a0.state.Line a0.state.Ranges a0.state.Queue a0.state.Done)))) (.ptr p_1 g_2 0 0) F_37]) (A2:=[]) (A3:=[]) rfl ⟨rfl,rfl,rfl,rfl⟩ .nil rfl rfl
  ·replace h:=iteF h h_32
   refine g_cF rfl (decide_eq_false h_32) (aa1 (aa2 (o6 (s_ib rfl rfl rfl) (o6 (s_mv rfl) (aa3 (y7 ?_))))))
   by_cases h_38 : a1.Command.Name = 104
   ·replace h:=iteT h h_38
    refine g_cT rfl (decide_eq_true h_38) (aa2 (o6 (s_mv rfl) (o6 (s_mv rfl) (o6 (ah5 rfl) (o6 (s_fa (o':=7) rfl rfl) (o6 (au3 (i:=1) rfl rfl rfl) (o6 (ah5 rfl) ?_)))))))
    refine o6 (s_fa (o':=8) rfl rfl) (as9 (i:=1) rfl rfl rfl ⟨rfl,rfl⟩ (.c rfl) rfl rfl rfl (aa3 (ak4 ?_)))
    obtain rfl:=Option.some.inj h
    refine g_mv (Mv.sub (.cons (i:=1) rfl .rfl (.cons (i:=2) rfl .rfl (.cons (i:=3) rfl .rfl (.cons (i:=4) rfl .rfl (.cons (i:=5) rfl .rfl (.cons (i:=6) rfl .rfl (.cons (i:=7) rfl .rfl (.cons (i:=0) rfl .rfl .nil)))))))) rfl) ?_
    rintro _ rfl
    refine g_mv (Mv.sht (os:=(o5 (D.l9.mk a0.f a0.regexes a0.input a0.files a0.out (D.aa0.mk a0.state.Op a0.state.Pattern a0.state.Pattern a0.state.Flag a0.state.Line a0.state.Ranges a0.state.Queue a0.state.Done)))) (N:=[.own true [] (.gs 1 88 (List.map (ak6 y8) a0.regexes)) w_5 F_6,.own true [] (.gs 1 9 (List.map aa6 a0.input)) w_7 F_8,.own true [] (.ptr 96 (o7 a0.files)) w_9 F_10,.own true [] (.bb 5 a0.out) w_13 F_14,.own true [] (.rw true 1 3 (List.map (ah4 .i64) a0.state.Ranges)) w_15 F_16,.own true [] (.gs 2 122 (List.map y5 a0.state.Queue)) w_17 F_18]) rfl ⟨(CV.rel.2 (CV.rel.1 r_4)),rfl,rfl,rfl,rfl,rfl,rfl,h_12,rfl,rfl,rfl,rfl,rfl,rfl,rfl,rfl,rfl,rfl,rfl,rfl,rfl,rfl⟩) ?_
    rintro _ ⟨F_39,rfl⟩
    exact am2 (A1:=[.own true [] (.ptr 80 (o5 (D.l9.mk a0.f a0.regexes a0.input a0.files a0.out (D.aa0.mk a0.state.Op a0.state.Pattern a0.state.Pattern a0.state.Flag a0.state.Line a0.state.Ranges a0.state.Queue a0.state.Done)))) (.ptr p_1 g_2 0 0) F_39]) (A2:=[]) (A3:=[]) rfl ⟨rfl,rfl,rfl,rfl⟩ .nil rfl rfl
   ·replace h:=iteF h h_38
    refine g_cF rfl (decide_eq_false h_38) (aa1 (aa2 (o6 (s_ib rfl rfl rfl) (o6 (s_mv rfl) (aa3 (y7 ?_))))))
    by_cases h_40 : a1.Command.Name = 72
    ·replace h:=iteT h h_40
     refine g_cT rfl (decide_eq_true h_40) (au7 (o6 (s_mv rfl) (o6 (ah5 rfl) (o6 (s_fa (o':=8) rfl rfl) (o6 (au3 (i:=1) rfl rfl rfl) (o6 (s_mv rfl) (o6 (ah5 rfl) ?_)))))))
     refine o6 (s_fa (o':=7) rfl rfl) (o6 (au3 (i:=1) rfl rfl rfl) ?_)
     obtain ⟨x_41,e_42,h⟩:=ac8 h
     refine o6 (b52 rfl rfl e_42) ?_
     obtain ⟨x_43,e_44,h⟩:=ac8 h
     refine o6 (b52 rfl rfl e_44) (o6 (ah5 rfl) (o6 (s_fa (o':=8) rfl rfl) (as9 (i:=1) rfl rfl rfl ⟨rfl,rfl⟩ (.c rfl) rfl rfl rfl (aC8 rfl (ak4 ?_)))))
     obtain rfl:=Option.some.inj h
     refine g_mv (Mv.sub (.cons (i:=1) rfl .rfl (.cons (i:=2) rfl .rfl (.cons (i:=3) rfl .rfl (.cons (i:=4) rfl .rfl (.cons (i:=5) rfl .rfl (.cons (i:=6) rfl .rfl (.cons (i:=7) rfl .rfl (.cons (i:=0) rfl .rfl .nil)))))))) rfl) ?_
     rintro _ rfl
     refine g_mv (Mv.sht (os:=(o5 (D.l9.mk a0.f a0.regexes a0.input a0.files a0.out (D.aa0.mk a0.state.Op a0.state.Pattern x_43 a0.state.Flag a0.state.Line a0.state.Ranges a0.state.Queue a0.state.Done)))) (N:=[.own true [] (.gs 1 88 (List.map (ak6 y8) a0.regexes)) w_5 F_6,.own true [] (.gs 1 9 (List.map aa6 a0.input)) w_7 F_8,.own true [] (.ptr 96 (o7 a0.files)) w_9 F_10,.own true [] (.bb 5 a0.out) w_13 F_14,.own true [] (.rw true 1 3 (List.map (ah4 .i64) a0.state.Ranges)) w_15 F_16,.own true [] (.gs 2 122 (List.map y5 a0.state.Queue)) w_17 F_18]) rfl ⟨(CV.rel.2 (CV.rel.1 r_4)),rfl,rfl,rfl,rfl,rfl,rfl,h_12,rfl,rfl,rfl,rfl,rfl,rfl,rfl,rfl,rfl,rfl,rfl,rfl,rfl,rfl⟩) ?_
     rintro _ ⟨F_45,rfl⟩
     exact am2 (A1:=[.own true [] (.ptr 80 (o5 (D.l9.mk a0.f a0.regexes a0.input a0.files a0.out (D.aa0.mk a0.state.Op a0.state.Pattern x_43 a0.state.Flag a0.state.Line a0.state.Ranges a0.state.Queue a0.state.Done)))) (.ptr p_1 g_2 0 0) F_45]) (A2:=[]) (A3:=[]) rfl ⟨rfl,rfl,rfl,rfl⟩ .nil rfl rfl
    ·replace h:=iteF h h_40
     refine g_cF rfl (decide_eq_false h_40) (aa1 (aa2 (o6 (s_ib rfl rfl rfl) (o6 (s_mv rfl) (aa3 (y7 ?_))))))
     by_cases h_46 : a1.Command.Name = 120
     ·replace h:=iteT h h_46
      refine g_cT rfl (decide_eq_true h_46) (au7 (o6 (s_mv rfl) (o6 (s_mv rfl) (o6 (s_mv rfl) (o6 (ah5 rfl) (o6 (s_fa (o':=8) rfl rfl) (o6 (au3 (i:=1) rfl rfl rfl) ?_)))))))
      refine o6 (s_mv rfl) (o6 (ah5 rfl) (o6 (s_fa (o':=7) rfl rfl) (o6 (au3 (i:=1) rfl rfl rfl) (o6 (ah5 rfl) (o6 (s_fa (o':=7) rfl rfl) (as9 (i:=1) rfl rfl rfl ⟨rfl,rfl⟩ (.c rfl) rfl rfl rfl (o6 (ah5 rfl) ?_)))))))
      refine o6 (s_fa (o':=8) rfl rfl) (as9 (i:=1) rfl rfl rfl ⟨rfl,rfl⟩ (.c rfl) rfl rfl rfl (aC8 rfl (ak4 ?_)))
      obtain rfl:=Option.some.inj h
      refine g_mv (Mv.sub (.cons (i:=1) rfl .rfl (.cons (i:=2) rfl .rfl (.cons (i:=3) rfl .rfl (.cons (i:=4) rfl .rfl (.cons (i:=5) rfl .rfl (.cons (i:=6) rfl .rfl (.cons (i:=7) rfl .rfl (.cons (i:=0) rfl .rfl .nil)))))))) rfl) ?_
      rintro _ rfl
      refine g_mv (Mv.sht (os:=(o5 (D.l9.mk a0.f a0.regexes a0.input a0.files a0.out (D.aa0.mk a0.state.Op a0.state.Hold a0.state.Pattern a0.state.Flag a0.state.Line a0.state.Ranges a0.state.Queue a0.state.Done)))) (N:=[.own true [] (.gs 1 88 (List.map (ak6 y8) a0.regexes)) w_5 F_6,.own true [] (.gs 1 9 (List.map aa6 a0.input)) w_7 F_8,.own true [] (.ptr 96 (o7 a0.files)) w_9 F_10,.own true [] (.bb 5 a0.out) w_13 F_14,.own true [] (.rw true 1 3 (List.map (ah4 .i64) a0.state.Ranges)) w_15 F_16,.own true [] (.gs 2 122 (List.map y5 a0.state.Queue)) w_17 F_18]) rfl ⟨(CV.rel.2 (CV.rel.1 r_4)),rfl,rfl,rfl,rfl,rfl,rfl,h_12,rfl,rfl,rfl,rfl,rfl,rfl,rfl,rfl,rfl,rfl,rfl,rfl,rfl,rfl⟩) ?_
      rintro _ ⟨F_47,rfl⟩
      exact am2 (A1:=[.own true [] (.ptr 80 (o5 (D.l9.mk a0.f a0.regexes a0.input a0.files a0.out (D.aa0.mk a0.state.Op a0.state.Hold a0.state.Pattern a0.state.Flag a0.state.Line a0.state.Ranges a0.state.Queue a0.state.Done)))) (.ptr p_1 g_2 0 0) F_47]) (A2:=[]) (A3:=[]) rfl ⟨rfl,rfl,rfl,rfl⟩ .nil rfl rfl
     ·replace h:=iteF h h_46
      refine g_cF rfl (decide_eq_false h_46) (aa1 (aa2 (o6 (s_ib rfl rfl rfl) (o6 (s_mv rfl) (aa3 (y7 ?_))))))
      by_cases h_48 : a1.Command.Name = 122
      ·replace h:=iteT h h_48
       refine g_cT rfl (decide_eq_true h_48) (aa2 (o6 (s_mv rfl) (o6 (ah5 rfl) (o6 (s_fa (o':=7) rfl rfl) (as9 (i:=1) rfl rfl rfl ⟨rfl,rfl⟩ (.c rfl) rfl rfl rfl (aa3 (ak4 ?_)))))))
       obtain rfl:=Option.some.inj h
       refine g_mv (Mv.sub (.cons (i:=1) rfl .rfl (.cons (i:=2) rfl .rfl (.cons (i:=3) rfl .rfl (.cons (i:=4) rfl .rfl (.cons (i:=5) rfl .rfl (.cons (i:=6) rfl .rfl (.cons (i:=7) rfl .rfl (.cons (i:=0) rfl .rfl .nil)))))))) rfl) ?_
       rintro _ rfl
       refine g_mv (Mv.sht (os:=(o5 (D.l9.mk a0.f a0.regexes a0.input a0.files a0.out (D.aa0.mk a0.state.Op [] a0.state.Hold a0.state.Flag a0.state.Line a0.state.Ranges a0.state.Queue a0.state.Done)))) (N:=[.own true [] (.gs 1 88 (List.map (ak6 y8) a0.regexes)) w_5 F_6,.own true [] (.gs 1 9 (List.map aa6 a0.input)) w_7 F_8,.own true [] (.ptr 96 (o7 a0.files)) w_9 F_10,.own true [] (.bb 5 a0.out) w_13 F_14,.own true [] (.rw true 1 3 (List.map (ah4 .i64) a0.state.Ranges)) w_15 F_16,.own true [] (.gs 2 122 (List.map y5 a0.state.Queue)) w_17 F_18]) rfl ⟨(CV.rel.2 (CV.rel.1 r_4)),rfl,rfl,rfl,rfl,rfl,rfl,h_12,rfl,rfl,rfl,rfl,rfl,rfl,rfl,rfl,rfl,rfl,rfl,rfl,rfl,rfl⟩) ?_
       rintro _ ⟨F_49,rfl⟩
       exact am2 (A1:=[.own true [] (.ptr 80 (o5 (D.l9.mk a0.f a0.regexes a0.input a0.files a0.out (D.aa0.mk a0.state.Op [] a0.state.Hold a0.state.Flag a0.state.Line a0.state.Ranges a0.state.Queue a0.state.Done)))) (.ptr p_1 g_2 0 0) F_49]) (A2:=[]) (A3:=[]) rfl ⟨rfl,rfl,rfl,rfl⟩ .nil rfl rfl
      ·replace h:=iteF h h_48
       refine g_cF rfl (decide_eq_false h_48) (aa1 (aa2 (o6 (s_ib rfl rfl rfl) (o6 (s_mv rfl) (aa3 (y7 ?_))))))
       by_cases h_50 : a1.Command.Name = 121
       ·replace h:=iteT h h_50
        refine g_cT rfl (decide_eq_true h_50) (au7 (o6 (s_mv rfl) (o6 (s_mv rfl) (o6 (ah5 rfl) (o6 (s_fa (o':=7) rfl rfl) (o6 (au3 (i:=1) rfl rfl rfl) (o6 (s_fa (o':=0) rfl rfl) ?_)))))))
        refine o6 (s_fa (o':=19) rfl rfl) (o6 (aL5 (i:=0) rfl rfl rfl) ?_)
        cases h
       ·replace h:=iteF h h_50
        refine g_cF rfl (decide_eq_false h_50) (aa1 (aa2 (o6 (s_ib rfl rfl rfl) (o6 (s_mv rfl) (aa3 (y7 ?_))))))
        by_cases h_51 : a1.Command.Name = 115
        ·replace h:=iteT h h_51
         refine g_cT rfl (decide_eq_true h_51) (aa2 (o6 (s_mv rfl) (o6 (bh0 (i:=0) rfl rfl rfl rfl) ?_)))
         cases h
        ·replace h:=iteF h h_51
         refine g_cF rfl (decide_eq_false h_51) (ah1 (ak4 ?_))
         obtain rfl:=Option.some.inj h
         refine g_mv (Mv.sub (.cons (i:=1) rfl .rfl (.cons (i:=2) rfl .rfl (.cons (i:=3) rfl .rfl (.cons (i:=4) rfl .rfl (.cons (i:=5) rfl .rfl (.cons (i:=6) rfl .rfl (.cons (i:=7) rfl .rfl (.cons (i:=0) rfl .rfl .nil)))))))) rfl) ?_
         rintro _ rfl
         refine g_mv (Mv.sht (os:=(o5 a0)) (N:=[.own true [] (.gs 1 88 (List.map (ak6 y8) a0.regexes)) w_5 F_6,.own true [] (.gs 1 9 (List.map aa6 a0.input)) w_7 F_8,.own true [] (.ptr 96 (o7 a0.files)) w_9 F_10,.own true [] (.bb 5 a0.out) w_13 F_14,.own true [] (.rw true 1 3 (List.map (ah4 .i64) a0.state.Ranges)) w_15 F_16,.own true [] (.gs 2 122 (List.map y5 a0.state.Queue)) w_17 F_18]) rfl ⟨(CV.rel.2 (CV.rel.1 r_4)),rfl,rfl,rfl,rfl,rfl,rfl,h_12,rfl,rfl,rfl,rfl,rfl,rfl,rfl,rfl,rfl,rfl,rfl,rfl,rfl,rfl⟩) ?_
         rintro _ ⟨F_52,rfl⟩
         exact am2 (A1:=[.own true [] (.ptr 80 (o5 a0)) (.ptr p_1 g_2 0 0) F_52]) (A2:=[]) (A3:=[]) rfl ⟨rfl,rfl,rfl,rfl⟩ .nil rfl rfl
def S.ad4 (P : Program) (φ : D.l9 → D.ap5 → Option D.l9) : Prop:=∀ (a0 : D.l9) (a1 : D.ap5) (r : D.l9),φ a0 a1 = some r → by6 P F.ad4 [.o (.ptr 80 (o5 a0)),.r (.agg (af4 a1))] false [.o (.ptr 80 (o5 r)),.x] []
theorem bw4 {P : Program} [hc : ae4 P] : S.ad4 P (ad4):=by
 intro a0 a1 r h
 refine ao0 (b:=K.ad4) rfl hc.ad4 rfl rfl rfl ?_
 rintro L S0 _ _ _ ⟨av0,_,F0,_,_,rfl,rfl,rfl,_,_,rfl,⟨ac1,rfl,ar1⟩,rfl,rfl,rfl⟩
 unfold ad4 at h
 refine (show GC P _ L (⟨F.ad4,(F0 ++ []),S0,true,false⟩ : Fr) (numE 0 [av0,.agg ac1]) [.own true [] (.ptr 80 (o5 a0)) av0 F0] (RetO (⟨F.ad4,(F0 ++ []),S0,true,false⟩ : Fr) L false [av0,.agg ac1] K.ad4.res [.o (.ptr 80 (o5 r)),.x] []) from ?_)
 generalize ((F0 ++ []) : List Loc) = W
 refine aJ0 (Mv.opn rfl) ?_
 rintro _ ⟨p_1,g_2,_,_,rfl,hO_19,rfl⟩
 obtain ⟨v_3,w_5,F_6,w_7,F_8,w_9,F_10,b_11,w_13,F_14,w_15,F_16,w_17,F_18,rfl,rfl,r_4,h_12⟩:=ac7 hO_19
 refine aa1 (aa2 ?_)
 obtain ⟨v_21,v_23,v_25,v_27,hE_29,r_22,r_24,r_26,r_28⟩:=aW8 ar1
 refine g_bxP (cs:=[.lit (.int .i64 a1.Command.At),.lit (.int .i64 a1.Command.Guard.A.Kind),.lit (.int .i64 a1.Command.Guard.A.Line),.lit (.string (bs a1.Command.Guard.A.Text)),v_21,.lit (.int .i64 a1.Command.Guard.B.Kind),.lit (.int .i64 a1.Command.Guard.B.Line),.lit (.string (bs a1.Command.Guard.B.Text)),v_23,.lit (.bool a1.Command.Guard.Not),.lit (.int .u8 a1.Command.Name),.lit (.string (bs a1.Command.Arg)),.lit (.string (bs a1.Command.Sub.Text)),v_25,v_27,.lit (.int .i64 a1.Command.Sub.Nth),.lit (.bool a1.Command.Sub.All),.lit (.bool a1.Command.Sub.Print),.lit (.string (bs a1.Command.Sub.File)),.lit (.string (bs a1.Command.Table)),.lit (.int .i64 a1.A),.lit (.int .i64 a1.B),.lit (.int .i64 a1.Sub),.lit (.int .i64 a1.Range),.lit (.int .i64 a1.Else),.lit (.int .i64 a1.To)]) rfl hE_29 (by rw [← hE_29]; exact ab7.closed ar1) rfl fun g_20=>?_
 refine aa3 (y7 (aa1 (aa2 (o6 (s_mv rfl) (o6 (ah5 rfl) (o6 (s_fa (o':=6) rfl rfl) (o6 (s_mv rfl) ?_)))))))
 refine aa3 (y7 (aa1 (aa2 (o6 (s_fa (o':=0) rfl rfl) (o6 (s_fa (o':=11) rfl rfl) (o6 (aL5 (i:=0) rfl rfl rfl) (o6 (s_mv rfl) ?_)))))))
 refine aa3 (y7 (aa1 (aa2 (o6 (s_fa (o':=0) rfl rfl) (o6 (s_fa (o':=10) rfl rfl) (o6 (aL5 (i:=0) rfl rfl rfl) (aa3 ?_)))))))
 refine y7 (ag3 (aa1 (aa2 (o6 (s_ib rfl rfl rfl) (o6 (s_mv rfl) (aa3 (y7 ?_)))))))
 by_cases h_30 : a1.Command.Name = 61
 ·replace h:=iteT h h_30
  refine g_cT rfl (decide_eq_true h_30) (aa2 (o6 (s_mv rfl) (o6 (s_mv rfl) (o6 (ah5 rfl) (o6 (s_fa (o':=10) rfl rfl) (o6 (au3 (i:=1) rfl rfl rfl) ?_))))))
  cases h
 ·replace h:=iteF h h_30
  refine g_cF rfl (decide_eq_false h_30) (aa1 (aa2 (o6 (s_ib rfl rfl rfl) (o6 (s_mv rfl) (aa3 (y7 ?_))))))
  by_cases h_31 : a1.Command.Name = 97
  ·replace h:=iteT h h_31
   refine g_cT rfl (decide_eq_true h_31) (aa2 (o6 (s_mv rfl) (o6 (s_mv rfl) (o6 (ah5 rfl) (o6 (s_fa (o':=12) rfl rfl) (o6 (au3 (i:=1) rfl rfl rfl) (o6 (s_mv rfl) ?_)))))))
   refine af5 (s_bdC (M':=y5 (D.ao9.mk false a1.Command.Arg)) bZ0 (.cons (Xs:=[.bool false]) rfl (bt7 _) rfl rfl (.cons (Xs:=[.str a1.Command.Arg]) rfl (aS5 _) rfl rfl (.nil _))) rfl) ?_
   rintro _ ⟨c_32,rfl,r_33,kf_34⟩
   refine af5 (cl0 (es':=List.map y5 [(D.ao9.mk false a1.Command.Arg)]) rfl (.cons (Xs:=y5 (D.ao9.mk false a1.Command.Arg)) rfl r_33 rfl .nil) rfl) ?_
   rintro v_35 ⟨r_36,k_37⟩
   obtain ⟨x_38,e_39,h⟩:=ac8 h
   refine c44 (i:=7) (c:=y5) rfl rfl rfl rfl (RelC.toA r_36) rfl rfl rfl e_39 fun w_40 F_41=>?_
   refine o6 (ah5 rfl) (o6 (s_fa (o':=12) rfl rfl) ?_)
   refine bH9 (i:=7) (es:=List.map y5 x_38) rfl fun ra_42=>?_
   refine g_co (i:=7) rfl fun hc_43=>?_
   refine as9 (i:=1) rfl rfl rfl (ra_42.cells) hc_43 rfl rfl rfl (aa3 (ak4 ?_))
   obtain rfl:=Option.some.inj h
   refine g_mv (Mv.sub (.cons (i:=1) rfl .rfl (.cons (i:=2) rfl .rfl (.cons (i:=3) rfl .rfl (.cons (i:=4) rfl .rfl (.cons (i:=5) rfl .rfl (.cons (i:=6) rfl .rfl (.cons (i:=7) rfl .rfl (.cons (i:=0) rfl .rfl .nil)))))))) rfl) ?_
   rintro _ rfl
   refine g_mv (Mv.sht (os:=(o5 (D.l9.mk a0.f a0.regexes a0.input a0.files a0.out (D.aa0.mk a0.state.Op a0.state.Pattern a0.state.Hold a0.state.Flag a0.state.Line a0.state.Ranges x_38 a0.state.Done)))) (N:=[.own true [] (.gs 1 88 (List.map (ak6 y8) a0.regexes)) w_5 F_6,.own true [] (.gs 1 9 (List.map aa6 a0.input)) w_7 F_8,.own true [] (.ptr 96 (o7 a0.files)) w_9 F_10,.own true [] (.bb 5 a0.out) w_13 F_14,.own true [] (.rw true 1 3 (List.map (ah4 .i64) a0.state.Ranges)) w_15 F_16,.own true [37] (.gs 2 122 (List.map y5 x_38)) w_40 F_41]) rfl ⟨(CV.rel.2 (CV.rel.1 r_4)),rfl,rfl,rfl,rfl,rfl,rfl,h_12,rfl,rfl,rfl,rfl,rfl,rfl,rfl,rfl,rfl,rfl,rfl,rfl,rfl,rfl⟩) ?_
   rintro _ ⟨F_44,rfl⟩
   exact am2 (A1:=[.own true [37] (.ptr 80 (o5 (D.l9.mk a0.f a0.regexes a0.input a0.files a0.out (D.aa0.mk a0.state.Op a0.state.Pattern a0.state.Hold a0.state.Flag a0.state.Line a0.state.Ranges x_38 a0.state.Done)))) (.ptr p_1 g_2 0 0) F_44]) (A2:=[]) (A3:=[]) rfl ⟨rfl,rfl,rfl,rfl⟩ .nil rfl rfl
  ·replace h:=iteF h h_31
   refine g_cF rfl (decide_eq_false h_31) (aa1 (aa2 (o6 (s_ib rfl rfl rfl) (o6 (s_mv rfl) (aa3 (y7 ?_))))))
   by_cases h_45 : a1.Command.Name = 114
   ·replace h:=iteT h h_45
    refine g_cT rfl (decide_eq_true h_45) (aa2 (o6 (s_mv rfl) (o6 (s_mv rfl) (o6 (ah5 rfl) (o6 (s_fa (o':=12) rfl rfl) (o6 (au3 (i:=1) rfl rfl rfl) (o6 (s_mv rfl) ?_)))))))
    refine af5 (s_bdC (M':=y5 (D.ao9.mk true a1.Command.Arg)) bZ0 (.cons (Xs:=[.bool true]) rfl (bt7 _) rfl rfl (.cons (Xs:=[.str a1.Command.Arg]) rfl (aS5 _) rfl rfl (.nil _))) rfl) ?_
    rintro _ ⟨c_46,rfl,r_47,kf_48⟩
    refine af5 (cl0 (es':=List.map y5 [(D.ao9.mk true a1.Command.Arg)]) rfl (.cons (Xs:=y5 (D.ao9.mk true a1.Command.Arg)) rfl r_47 rfl .nil) rfl) ?_
    rintro v_49 ⟨r_50,k_51⟩
    obtain ⟨x_52,e_53,h⟩:=ac8 h
    refine c44 (i:=7) (c:=y5) rfl rfl rfl rfl (RelC.toA r_50) rfl rfl rfl e_53 fun w_54 F_55=>?_
    refine o6 (ah5 rfl) (o6 (s_fa (o':=12) rfl rfl) ?_)
    refine bH9 (i:=7) (es:=List.map y5 x_52) rfl fun ra_56=>?_
    refine g_co (i:=7) rfl fun hc_57=>?_
    refine as9 (i:=1) rfl rfl rfl (ra_56.cells) hc_57 rfl rfl rfl (aa3 (ak4 ?_))
    obtain rfl:=Option.some.inj h
    refine g_mv (Mv.sub (.cons (i:=1) rfl .rfl (.cons (i:=2) rfl .rfl (.cons (i:=3) rfl .rfl (.cons (i:=4) rfl .rfl (.cons (i:=5) rfl .rfl (.cons (i:=6) rfl .rfl (.cons (i:=7) rfl .rfl (.cons (i:=0) rfl .rfl .nil)))))))) rfl) ?_
    rintro _ rfl
    refine g_mv (Mv.sht (os:=(o5 (D.l9.mk a0.f a0.regexes a0.input a0.files a0.out (D.aa0.mk a0.state.Op a0.state.Pattern a0.state.Hold a0.state.Flag a0.state.Line a0.state.Ranges x_52 a0.state.Done)))) (N:=[.own true [] (.gs 1 88 (List.map (ak6 y8) a0.regexes)) w_5 F_6,.own true [] (.gs 1 9 (List.map aa6 a0.input)) w_7 F_8,.own true [] (.ptr 96 (o7 a0.files)) w_9 F_10,.own true [] (.bb 5 a0.out) w_13 F_14,.own true [] (.rw true 1 3 (List.map (ah4 .i64) a0.state.Ranges)) w_15 F_16,.own true [50] (.gs 2 122 (List.map y5 x_52)) w_54 F_55]) rfl ⟨(CV.rel.2 (CV.rel.1 r_4)),rfl,rfl,rfl,rfl,rfl,rfl,h_12,rfl,rfl,rfl,rfl,rfl,rfl,rfl,rfl,rfl,rfl,rfl,rfl,rfl,rfl⟩) ?_
    rintro _ ⟨F_58,rfl⟩
    exact am2 (A1:=[.own true [50] (.ptr 80 (o5 (D.l9.mk a0.f a0.regexes a0.input a0.files a0.out (D.aa0.mk a0.state.Op a0.state.Pattern a0.state.Hold a0.state.Flag a0.state.Line a0.state.Ranges x_52 a0.state.Done)))) (.ptr p_1 g_2 0 0) F_58]) (A2:=[]) (A3:=[]) rfl ⟨rfl,rfl,rfl,rfl⟩ .nil rfl rfl
   ·replace h:=iteF h h_45
    refine g_cF rfl (decide_eq_false h_45) (aa1 (aa2 (o6 (s_ib rfl rfl rfl) (o6 (s_mv rfl) (aa3 (y7 ?_))))))
    by_cases h_59 : a1.Command.Name = 105
    ·replace h:=iteT h h_59
     refine g_cT rfl (decide_eq_true h_59) (aa2 (o6 (s_mv rfl) (o6 (ah5 rfl) (o6 (s_fa (o':=4) rfl rfl) (o6 (s_mv rfl) (aq7 (Mv.sub (.cons (i:=1) rfl .rfl (.cons (i:=5) rfl .rfl (.cons (i:=0) rfl .rfl (.cons (i:=2) rfl .rfl (.cons (i:=3) rfl .rfl (.cons (i:=4) rfl .rfl (.cons (i:=6) rfl .rfl (.cons (i:=7) rfl .rfl .nil)))))))) rfl) ?_))))))
     rintro _ rfl
     obtain ⟨x_60,e_61,h⟩:=ac8 h
     refine cx7 hc.bld rfl rfl rfl rfl rfl h_12 rfl rfl hc.lies_80_4 rfl e_61 fun v_62 b_63 w_64 F_65 h_66=>?_
     refine aa3 (ak4 ?_)
     obtain rfl:=Option.some.inj h
     refine g_mv (Mv.sub (.cons (i:=0) rfl .rfl (.cons (i:=3) rfl .rfl (.cons (i:=4) rfl .rfl (.cons (i:=5) rfl .rfl (.cons (i:=1) rfl .rfl (.cons (i:=6) rfl .rfl (.cons (i:=7) rfl .rfl (.cons (i:=2) rfl .rfl .nil)))))))) rfl) ?_
     rintro _ rfl
     refine g_mv (Mv.sht (os:=(o5 (D.l9.mk a0.f a0.regexes a0.input a0.files x_60 a0.state))) (N:=[.own true [] (.gs 1 88 (List.map (ak6 y8) a0.regexes)) w_5 F_6,.own true [] (.gs 1 9 (List.map aa6 a0.input)) w_7 F_8,.own true [] (.ptr 96 (o7 a0.files)) w_9 F_10,.own true [] (.bb 5 x_60) w_64 F_65,.own true [] (.rw true 1 3 (List.map (ah4 .i64) a0.state.Ranges)) w_15 F_16,.own true [] (.gs 2 122 (List.map y5 a0.state.Queue)) w_17 F_18]) rfl ⟨(CV.rel.2 (CV.rel.1 r_4)),rfl,rfl,rfl,rfl,rfl,rfl,h_66,rfl,rfl,rfl,rfl,rfl,rfl,rfl,rfl,rfl,rfl,rfl,rfl,rfl,rfl⟩) ?_
     rintro _ ⟨F_67,rfl⟩
     exact am2 (A1:=[.own true [] (.ptr 80 (o5 (D.l9.mk a0.f a0.regexes a0.input a0.files x_60 a0.state))) (.ptr p_1 g_2 0 0) F_67]) (A2:=[]) (A3:=[]) rfl ⟨rfl,rfl,rfl,rfl⟩ .nil rfl rfl
    ·replace h:=iteF h h_59
     refine g_cF rfl (decide_eq_false h_59) (aa1 (aa2 (o6 (s_ib rfl rfl rfl) (o6 (s_mv rfl) (aa3 (y7 ?_))))))
     by_cases h_68 : a1.Command.Name = 108
     ·replace h:=iteT h h_68
      refine g_cT rfl (decide_eq_true h_68) (aa2 (o6 (s_mv rfl) (o6 (s_mv rfl) (o6 (ah5 rfl) (o6 (s_fa (o':=7) rfl rfl) (o6 (au3 (i:=1) rfl rfl rfl) ?_))))))
      cases h
     ·replace h:=iteF h h_68
      refine g_cF rfl (decide_eq_false h_68) (aa1 (aa2 (o6 (s_ib rfl rfl rfl) (o6 (s_mv rfl) (aa3 (y7 ?_))))))
      by_cases h_69 : a1.Command.Name = 112
      ·replace h:=iteT h h_69
       refine g_cT rfl (decide_eq_true h_69) (aa2 (o6 (s_mv rfl) (o6 (s_mv rfl) (o6 (ah5 rfl) (o6 (s_fa (o':=7) rfl rfl) (o6 (au3 (i:=1) rfl rfl rfl) (aq7 (Mv.sub (.cons (i:=1) rfl .rfl (.cons (i:=2) rfl .rfl (.cons (i:=3) rfl .rfl (.cons (i:=4) rfl .rfl (.cons (i:=5) rfl .rfl (.cons (i:=6) rfl .rfl (.cons (i:=7) rfl .rfl (.cons (i:=0) rfl .rfl .nil)))))))) rfl) ?_)))))))
       rintro _ rfl
       refine aq7 (Mv.sht (os:=(o5 a0)) (N:=[.own true [] (.gs 1 88 (List.map (ak6 y8) a0.regexes)) w_5 F_6,.own true [] (.gs 1 9 (List.map aa6 a0.input)) w_7 F_8,.own true [] (.ptr 96 (o7 a0.files)) w_9 F_10,.own true [] (.bb 5 a0.out) w_13 F_14,.own true [] (.rw true 1 3 (List.map (ah4 .i64) a0.state.Ranges)) w_15 F_16,.own true [] (.gs 2 122 (List.map y5 a0.state.Queue)) w_17 F_18]) rfl ⟨(CV.rel.2 (CV.rel.1 r_4)),rfl,rfl,rfl,rfl,rfl,rfl,h_12,rfl,rfl,rfl,rfl,rfl,rfl,rfl,rfl,rfl,rfl,rfl,rfl,rfl,rfl⟩) ?_
       rintro _ ⟨F_70,rfl⟩
       obtain ⟨x_71,e_72,h⟩:=ac8 h
       refine aP5 (A1:=[.own true [] (.ptr 80 (o5 a0)) (.ptr p_1 g_2 0 0) F_70]) rfl rfl (show InC [.o (.ptr 80 (o5 a0)),.r (.str a0.state.Pattern)] _ _ from ⟨rfl,rfl,rfl,rfl,rfl⟩) rfl rfl rfl rfl rfl ((aP0) _ _ _ e_72) ?_
       rintro _ _ _ J_74 ⟨F_75,_,rfl,rfl⟩ ⟨_,rfl,rfl,rfl⟩
       refine aa3 (ak4 ?_)
       obtain rfl:=Option.some.inj h
       exact am2 (A1:=[.own true [] (.ptr 80 (o5 x_71)) (.ptr p_1 g_2 0 0) F_75]) (A2:=[]) (A3:=[.jnk true [] J_74]) rfl ⟨rfl,rfl,rfl,rfl⟩ .nil rfl rfl
      ·replace h:=iteF h h_69
       refine g_cF rfl (decide_eq_false h_69) (aa1 (aa2 (o6 (s_ib rfl rfl rfl) (o6 (s_mv rfl) (aa3 (y7 ?_))))))
       by_cases h_76 : a1.Command.Name = 80
       ·replace h:=iteT h h_76
        refine g_cT rfl (decide_eq_true h_76) (aa1 (aa2 (o6 (s_mv rfl) (o6 (ah5 rfl) (o6 (s_fa (o':=7) rfl rfl) (o6 (au3 (i:=1) rfl rfl rfl) ?_))))))
        cases h
       ·replace h:=iteF h h_76
        refine g_cF rfl (decide_eq_false h_76) (aa1 (aa2 (o6 (s_ib rfl rfl rfl) (o6 (s_mv rfl) (aa3 (y7 ?_))))))
        by_cases h_77 : a1.Command.Name = 119
        ·replace h:=iteT h h_77
         refine g_cT rfl (decide_eq_true h_77) (au7 (o6 (s_mv rfl) (o6 (ah5 rfl) (o6 (s_fa (o':=3) rfl rfl) (o6 (au3 (i:=1) rfl rfl rfl) (o6 (s_mv rfl) (o6 (s_mv rfl) ?_)))))))
         refine o6 (ah5 rfl) (o6 (s_fa (o':=7) rfl rfl) (o6 (au3 (i:=1) rfl rfl rfl) ?_))
         cases h
        ·replace h:=iteF h h_77
         refine g_cF rfl (decide_eq_false h_77) (ah1 (ak4 ?_))
         obtain rfl:=Option.some.inj h
         refine g_mv (Mv.sub (.cons (i:=1) rfl .rfl (.cons (i:=2) rfl .rfl (.cons (i:=3) rfl .rfl (.cons (i:=4) rfl .rfl (.cons (i:=5) rfl .rfl (.cons (i:=6) rfl .rfl (.cons (i:=7) rfl .rfl (.cons (i:=0) rfl .rfl .nil)))))))) rfl) ?_
         rintro _ rfl
         refine g_mv (Mv.sht (os:=(o5 a0)) (N:=[.own true [] (.gs 1 88 (List.map (ak6 y8) a0.regexes)) w_5 F_6,.own true [] (.gs 1 9 (List.map aa6 a0.input)) w_7 F_8,.own true [] (.ptr 96 (o7 a0.files)) w_9 F_10,.own true [] (.bb 5 a0.out) w_13 F_14,.own true [] (.rw true 1 3 (List.map (ah4 .i64) a0.state.Ranges)) w_15 F_16,.own true [] (.gs 2 122 (List.map y5 a0.state.Queue)) w_17 F_18]) rfl ⟨(CV.rel.2 (CV.rel.1 r_4)),rfl,rfl,rfl,rfl,rfl,rfl,h_12,rfl,rfl,rfl,rfl,rfl,rfl,rfl,rfl,rfl,rfl,rfl,rfl,rfl,rfl⟩) ?_
         rintro _ ⟨F_78,rfl⟩
         exact am2 (A1:=[.own true [] (.ptr 80 (o5 a0)) (.ptr p_1 g_2 0 0) F_78]) (A2:=[]) (A3:=[]) rfl ⟨rfl,rfl,rfl,rfl⟩ .nil rfl rfl
def S.ab4 (P : Program) (φ : D.l9 → Option (D.l9 × Bool)) : Prop:=∀ (a0 : D.l9) (r : (D.l9 × Bool)),φ a0 = some r → by6 P F.ab4 [.o (.ptr 80 (o5 a0))] false [.o (.ptr 80 (o5 r.1))] [.r (.bool r.2)]
theorem az4 {P : Program} [hc : ae4 P] : S.ab4 P (ab4):=by
 intro a0 r h
 refine ao0 (b:=K.ab4) rfl hc.ab4 rfl rfl rfl ?_
 rintro L S0 _ _ _ ⟨av0,_,F0,_,_,rfl,rfl,rfl,rfl,rfl,rfl⟩
 unfold ab4 at h
 refine (show GC P _ L (⟨F.ab4,(F0 ++ []),S0,true,false⟩ : Fr) (numE 0 [av0]) [.own true [] (.ptr 80 (o5 a0)) av0 F0] (RetO (⟨F.ab4,(F0 ++ []),S0,true,false⟩ : Fr) L false [av0] K.ab4.res [.o (.ptr 80 (o5 r.1))] [.r (.bool r.2)]) from ?_)
 generalize ((F0 ++ []) : List Loc) = W
 refine aJ0 (Mv.opn rfl) ?_
 rintro _ ⟨p_1,g_2,_,_,rfl,hO_19,rfl⟩
 obtain ⟨v_3,w_5,F_6,w_7,F_8,w_9,F_10,b_11,w_13,F_14,w_15,F_16,w_17,F_18,rfl,rfl,r_4,h_12⟩:=ac7 hO_19
 refine aa1 (aa2 (o6 (s_mv rfl) (aa3 (y7 (aa1 (aa1 (aa2 ?_)))))))
 refine o6 (s_mv rfl) (o6 (ah5 rfl) (o6 (s_fa (o':=6) rfl rfl) (o6 (s_fa (o':=13) rfl rfl) (o6 (au3 (i:=0) rfl rfl rfl) (aa3 (y7 ?_))))))
 by_cases h_20 : a0.state.Done = true
 ·replace h:=iteT h h_20
  refine g_cT rfl h_20 (aa1 (aa2 (o6 (s_mv rfl) (aa3 (y7 (ap6 (aU1 ?_)))))))
  obtain rfl:=Option.some.inj h
  refine g_mv (Mv.sht (os:=(o5 a0)) (N:=[.own true [] (.gs 1 88 (List.map (ak6 y8) a0.regexes)) w_5 F_6,.own true [] (.gs 1 9 (List.map aa6 a0.input)) w_7 F_8,.own true [] (.ptr 96 (o7 a0.files)) w_9 F_10,.own true [] (.bb 5 a0.out) w_13 F_14,.own true [] (.rw true 1 3 (List.map (ah4 .i64) a0.state.Ranges)) w_15 F_16,.own true [] (.gs 2 122 (List.map y5 a0.state.Queue)) w_17 F_18]) rfl ⟨(CV.rel.2 (CV.rel.1 r_4)),rfl,rfl,rfl,rfl,rfl,rfl,h_12,rfl,rfl,rfl,rfl,rfl,rfl,rfl,rfl,rfl,rfl,rfl,rfl,rfl,rfl⟩) ?_
  rintro _ ⟨F_21,rfl⟩
  exact am2 (A1:=[.own true [] (.ptr 80 (o5 a0)) (.ptr p_1 g_2 0 0) F_21]) (A2:=[]) (A3:=[]) rfl ⟨rfl,rfl,rfl,rfl⟩ (.tr rfl rfl .nil) rfl rfl
 ·replace h:=iteF h h_20
  refine g_cF rfl (Bool.eq_false_iff.2 h_20) (ah1 (y7 (aa1 (aa1 (au7 (o6 (s_mv rfl) (o6 (ah5 rfl) ?_)))))))
  refine o6 (s_fa (o':=6) rfl rfl) (o6 (s_fa (o':=6) rfl rfl) (o6 (au3 (i:=0) rfl rfl rfl) (o6 (s_mv rfl) (o6 (ah5 rfl) (o6 (s_fa (o':=0) rfl rfl) (o6 (au3 (i:=0) rfl rfl rfl) ?_))))))
  obtain ⟨x_24,e_25,h⟩:=ac8 h
  refine af5 (cR8 (c:=ac5) rfl (CV.rel.1 r_4) e_25) ?_
  rintro _ ⟨c_22,rfl,r_23⟩
  refine af5 (b66 rfl r_23) ?_
  rintro _ ⟨c_26,rfl,r_27⟩
  refine af5 (cI7 (v:=.sl 26 (x_24.Ops.map af4)) rfl r_27 rfl) ?_
  rintro v_28 r_29
  refine o6 (ba7 (c:=af4) rfl r_29) (o6 (s_ib rfl rfl rfl) (aC8 rfl (y7 ?_)))
  by_cases h_30 : a0.state.Op ≥ (x_24.Ops.length : Int)
  ·replace h:=iteT h h_30
   refine g_cT rfl (decide_eq_true h_30) (aa1 (aa2 (o6 (s_mv rfl) (aq7 (Mv.sht (os:=(o5 a0)) (N:=[.own true [] (.gs 1 88 (List.map (ak6 y8) a0.regexes)) w_5 F_6,.own true [] (.gs 1 9 (List.map aa6 a0.input)) w_7 F_8,.own true [] (.ptr 96 (o7 a0.files)) w_9 F_10,.own true [] (.bb 5 a0.out) w_13 F_14,.own true [] (.rw true 1 3 (List.map (ah4 .i64) a0.state.Ranges)) w_15 F_16,.own true [] (.gs 2 122 (List.map y5 a0.state.Queue)) w_17 F_18]) rfl ⟨(CV.rel.2 (CV.rel.1 r_4)),rfl,rfl,rfl,rfl,rfl,rfl,h_12,rfl,rfl,rfl,rfl,rfl,rfl,rfl,rfl,rfl,rfl,rfl,rfl,rfl,rfl⟩) ?_))))
   rintro _ ⟨F_31,rfl⟩
   obtain ⟨x_32,e_33,h⟩:=ac8 h
   refine aP5 (A1:=[.own true [] (.ptr 80 (o5 a0)) (.ptr p_1 g_2 0 0) F_31]) rfl rfl (show InC [.o (.ptr 80 (o5 a0))] _ _ from ⟨rfl,rfl,rfl,rfl⟩) rfl rfl rfl rfl rfl ((aB4) _ _ e_33) ?_
   rintro _ _ _ J_35 ⟨F_36,_,rfl,rfl⟩ ⟨_,rfl,rfl,rfl⟩
   refine aa3 (y7 (aa1 (aa2 (o6 (s_mv rfl) ?_))))
   obtain ⟨x_37,e_38,h⟩:=ac8 h
   refine aP5 (A1:=[.own true [] (.ptr 80 (o5 x_32)) (.ptr p_1 g_2 0 0) F_36]) rfl rfl (show InC [.o (.ptr 80 (o5 x_32))] _ _ from ⟨rfl,rfl,rfl,rfl⟩) rfl rfl rfl rfl rfl ((aO4) _ _ e_38) ?_
   rintro _ _ _ J_40 ⟨F_41,_,rfl,rfl⟩ ⟨_,rfl,rfl,rfl⟩
   refine aa3 (y7 (aa1 (aa2 (o6 (s_mv rfl) (aa3 (y7 (ap6 ?_)))))))
   refine aU1 ?_
   obtain rfl:=Option.some.inj h
   exact am2 (A1:=[.own true [] (.ptr 80 (o5 x_37)) (.ptr p_1 g_2 0 0) F_41]) (A2:=[]) (A3:=[.jnk true [] J_40,.jnk true [] J_35]) rfl ⟨rfl,rfl,rfl,rfl⟩ (.tr rfl rfl .nil) rfl rfl
  ·replace h:=iteF h h_30
   refine g_cF rfl (decide_eq_false h_30) (ah1 (y7 (aa1 (au7 (o6 (s_mv rfl) (o6 (ah5 rfl) (o6 (s_fa (o':=0) rfl rfl) ?_)))))))
   refine o6 (au3 (i:=0) rfl rfl rfl) ?_
   obtain ⟨x_44,e_45,h⟩:=ac8 h
   refine af5 (cR8 (c:=ac5) rfl (CV.rel.1 r_4) e_45) ?_
   rintro _ ⟨c_42,rfl,r_43⟩
   refine af5 (b66 rfl r_43) ?_
   rintro _ ⟨c_46,rfl,r_47⟩
   refine af5 (cI7 (v:=.sl 26 (x_44.Ops.map af4)) rfl r_47 rfl) ?_
   rintro v_48 r_49
   refine o6 (s_mv rfl) (o6 (ah5 rfl) (o6 (s_fa (o':=6) rfl rfl) (o6 (s_fa (o':=6) rfl rfl) (o6 (au3 (i:=0) rfl rfl rfl) ?_))))
   obtain ⟨x_52,e_53,h⟩:=ac8 h
   refine af5 (s_ia (c:=af4) rfl r_49.toS rfl e_53) ?_
   rintro _ ⟨c_50,rfl,r_51⟩
   refine af5 (b90 (N:=af4 x_52) rfl r_51 rfl rfl) ?_
   rintro _ ⟨c_54,rfl,r_55⟩
   refine co1 rfl rfl fun g_56=>?_
   obtain ⟨v_57,v_59,v_61,v_63,hE_65,r_58,r_60,r_62,r_64⟩:=aW8 r_55
   refine ci9 (i:=0) (b:=.agg c_54) (cs':=[.lit (.int .i64 x_52.Command.At),.lit (.int .i64 x_52.Command.Guard.A.Kind),.lit (.int .i64 x_52.Command.Guard.A.Line),.lit (.string (bs x_52.Command.Guard.A.Text)),v_57,.lit (.int .i64 x_52.Command.Guard.B.Kind),.lit (.int .i64 x_52.Command.Guard.B.Line),.lit (.string (bs x_52.Command.Guard.B.Text)),v_59,.lit (.bool x_52.Command.Guard.Not),.lit (.int .u8 x_52.Command.Name),.lit (.string (bs x_52.Command.Arg)),.lit (.string (bs x_52.Command.Sub.Text)),v_61,v_63,.lit (.int .i64 x_52.Command.Sub.Nth),.lit (.bool x_52.Command.Sub.All),.lit (.bool x_52.Command.Sub.Print),.lit (.string (bs x_52.Command.Sub.File)),.lit (.string (bs x_52.Command.Table)),.lit (.int .i64 x_52.A),.lit (.int .i64 x_52.B),.lit (.int .i64 x_52.Sub),.lit (.int .i64 x_52.Range),.lit (.int .i64 x_52.Else),.lit (.int .i64 x_52.To)]) rfl rfl rfl (by rw [hE_65]; rfl) (ab7.ones r_55) (fun a ha=>.c (am8 (ab7.closed r_55) a ha)) rfl (by rw [hE_65]; rfl) rfl (aC8 rfl (y7 (aa1 (ag3 (aa1 (aa2 (o6 (s_mv rfl) ?_)))))))
   refine o6 (bh0 (i:=0) rfl rfl rfl rfl) (aq7 (Mv.sub (.cons (i:=1) rfl .rfl (.cons (i:=2) rfl .rfl (.cons (i:=3) rfl .rfl (.cons (i:=4) rfl .rfl (.cons (i:=5) rfl .rfl (.cons (i:=6) rfl .rfl (.cons (i:=7) rfl .rfl (.cons (i:=0) rfl .rfl .nil)))))))) rfl) ?_)
   rintro _ rfl
   refine aq7 (Mv.sht (os:=(o5 a0)) (N:=[.own true [] (.gs 1 88 (List.map (ak6 y8) a0.regexes)) w_5 F_6,.own true [] (.gs 1 9 (List.map aa6 a0.input)) w_7 F_8,.own true [] (.ptr 96 (o7 a0.files)) w_9 F_10,.own true [] (.bb 5 a0.out) w_13 F_14,.own true [] (.rw true 1 3 (List.map (ah4 .i64) a0.state.Ranges)) w_15 F_16,.own true [] (.gs 2 122 (List.map y5 a0.state.Queue)) w_17 F_18]) rfl ⟨(CV.rel.2 (CV.rel.1 r_4)),rfl,rfl,rfl,rfl,rfl,rfl,h_12,rfl,rfl,rfl,rfl,rfl,rfl,rfl,rfl,rfl,rfl,rfl,rfl,rfl,rfl⟩) ?_
   rintro _ ⟨F_66,rfl⟩
   obtain ⟨x_67,e_68,h⟩:=ac8 h
   refine aP5 (A1:=[.own true [] (.ptr 80 (o5 a0)) (.ptr p_1 g_2 0 0) F_66]) rfl rfl (show InC [.o (.ptr 80 (o5 a0)),.r (.agg (af4 x_52))] _ _ from ⟨rfl,rfl,(RV.C.nrmA (r:=.agg (af4 x_52)) ⟨_,rfl,((o8 aa8 (o8 aa8 (o8 aa8 (o8 ag6 (o8 (CV.rel.1 r_58) (o8 aa8 (o8 aa8 (o8 ag6 (o8 (CV.rel.1 r_60) (o8 ai3 (o8 aa8 (o8 ag6 (o8 ag6 (o8 (CV.rel.1 r_62) (o8 r_64 (o8 aa8 (o8 ai3 (o8 ai3 (o8 ag6 (o8 ag6 (o8 aa8 (o8 aa8 (o8 aa8 (o8 aa8 (o8 aa8 (o8 aa8 au9)))))))))))))))))))))))))) : ab7 (af4 x_52) _)⟩),rfl,rfl⟩) rfl rfl rfl rfl rfl ((bm1) _ _ _ e_68) ?_
   rintro _ _ _ J_70 ⟨F_71,_,rfl,rfl⟩ ⟨rfl,rfl⟩
   refine o6 (s_nt rfl) (o6 (s_mv rfl) (aa3 (y7 ?_)))
   by_cases h_72 : (!x_67.2) = true
   ·replace h:=iteT h h_72
    refine g_cT rfl h_72 (aa2 (o6 (s_mv rfl) (o6 (s_fa (o':=24) rfl rfl) (o6 (aL5 (i:=2) rfl rfl rfl) (o6 (ah5 rfl) (aq7 (Mv.opn2 rfl) ?_))))))
    rintro _ ⟨_,_,hO_89,rfl⟩
    obtain ⟨v_73,w_75,F_76,w_77,F_78,w_79,F_80,b_81,w_83,F_84,w_85,F_86,w_87,F_88,rfl,rfl,r_74,h_82⟩:=ac7 hO_89
    refine o6 (s_fa (o':=6) rfl rfl) (o6 (s_fa (o':=6) rfl rfl) (as9 (i:=0) rfl rfl rfl ⟨rfl,rfl⟩ (.c rfl) rfl rfl rfl (aa3 (ak4 (y7 (aa1 (aa2 ?_)))))))
    refine o6 (s_mv rfl) (aa3 (y7 (ap6 ?_)))
    obtain rfl:=Option.some.inj h
    refine g_mv (Mv.sht (os:=(o5 (D.l9.mk x_67.1.f x_67.1.regexes x_67.1.input x_67.1.files x_67.1.out (D.aa0.mk x_52.Else x_67.1.state.Pattern x_67.1.state.Hold x_67.1.state.Flag x_67.1.state.Line x_67.1.state.Ranges x_67.1.state.Queue x_67.1.state.Done)))) (N:=[.own true [] (.gs 1 88 (List.map (ak6 y8) x_67.1.regexes)) w_75 F_76,.own true [] (.gs 1 9 (List.map aa6 x_67.1.input)) w_77 F_78,.own true [] (.ptr 96 (o7 x_67.1.files)) w_79 F_80,.own true [] (.bb 5 x_67.1.out) w_83 F_84,.own true [] (.rw true 1 3 (List.map (ah4 .i64) x_67.1.state.Ranges)) w_85 F_86,.own true [] (.gs 2 122 (List.map y5 x_67.1.state.Queue)) w_87 F_88]) rfl ⟨(CV.rel.2 (CV.rel.1 r_74)),rfl,rfl,rfl,rfl,rfl,rfl,h_82,rfl,rfl,rfl,rfl,rfl,rfl,rfl,rfl,rfl,rfl,rfl,rfl,rfl,rfl⟩) ?_
    rintro _ ⟨F_90,rfl⟩
    exact am2 (A1:=[.own true [] (.ptr 80 (o5 (D.l9.mk x_67.1.f x_67.1.regexes x_67.1.input x_67.1.files x_67.1.out (D.aa0.mk x_52.Else x_67.1.state.Pattern x_67.1.state.Hold x_67.1.state.Flag x_67.1.state.Line x_67.1.state.Ranges x_67.1.state.Queue x_67.1.state.Done)))) (.ptr p_1 g_2 0 0) F_90]) (A2:=[]) (A3:=[.jnk true [] J_70]) rfl ⟨rfl,rfl,rfl,rfl⟩ (.tr rfl rfl .nil) rfl rfl
   ·replace h:=iteF h h_72
    refine g_cF rfl (Bool.eq_false_iff.2 h_72) (aa1 (aa2 (o6 (s_mv rfl) (o6 (bh0 (i:=2) rfl rfl rfl rfl) ?_))))
    obtain ⟨x_91,e_92,h⟩:=ac8 h
    refine aP5 (A1:=[.own true [] (.ptr 80 (o5 x_67.1)) (.ptr p_1 g_2 0 0) F_71]) rfl rfl (show InC [.o (.ptr 80 (o5 x_67.1)),.r (.agg (af4 x_52))] _ _ from ⟨rfl,rfl,(RV.C.nrmA (r:=.agg (af4 x_52)) ⟨_,rfl,((o8 aa8 (o8 aa8 (o8 aa8 (o8 ag6 (o8 (CV.rel.1 r_58) (o8 aa8 (o8 aa8 (o8 ag6 (o8 (CV.rel.1 r_60) (o8 ai3 (o8 aa8 (o8 ag6 (o8 ag6 (o8 (CV.rel.1 r_62) (o8 r_64 (o8 aa8 (o8 ai3 (o8 ai3 (o8 ag6 (o8 ag6 (o8 aa8 (o8 aa8 (o8 aa8 (o8 aa8 (o8 aa8 (o8 aa8 au9)))))))))))))))))))))))))) : ab7 (af4 x_52) _)⟩),rfl,rfl⟩) rfl rfl rfl rfl rfl ((br2) _ _ _ e_92) ?_
    rintro _ _ _ J_94 ⟨F_95,_,rfl,rfl⟩ ⟨rfl,rfl⟩
    refine o6 (s_nt rfl) (o6 (s_mv rfl) (aa3 (y7 ?_)))
    by_cases h_96 : (!x_91.2) = true
    ·replace h:=iteT h h_96
     refine g_cT rfl h_96 (aa1 (aa2 (o6 (s_mv rfl) (o6 (ah5 rfl) (aq7 (Mv.opn2 rfl) ?_)))))
     rintro _ ⟨_,_,hO_113,rfl⟩
     obtain ⟨v_97,w_99,F_100,w_101,F_102,w_103,F_104,b_105,w_107,F_108,w_109,F_110,w_111,F_112,rfl,rfl,r_98,h_106⟩:=ac7 hO_113
     refine o6 (s_fa (o':=6) rfl rfl) (o6 (s_fa (o':=6) rfl rfl) (o6 (au3 (i:=0) rfl rfl rfl) (o6 (s_ib rfl rfl rfl) (o6 (ah5 rfl) (o6 (s_fa (o':=6) rfl rfl) (o6 (s_fa (o':=6) rfl rfl) (as9 (i:=0) rfl rfl rfl ⟨rfl,rfl⟩ (.c rfl) rfl rfl rfl ?_)))))))
     refine aa3 (y7 (aa1 (aa2 (o6 (s_mv rfl) (o6 (bh0 (i:=9) rfl rfl rfl rfl) (aq7 (Mv.sht (os:=(o5 (D.l9.mk x_91.1.f x_91.1.regexes x_91.1.input x_91.1.files x_91.1.out (D.aa0.mk (G.addI x_91.1.state.Op 1) x_91.1.state.Pattern x_91.1.state.Hold x_91.1.state.Flag x_91.1.state.Line x_91.1.state.Ranges x_91.1.state.Queue x_91.1.state.Done)))) (N:=[.own true [] (.gs 1 88 (List.map (ak6 y8) x_91.1.regexes)) w_99 F_100,.own true [] (.gs 1 9 (List.map aa6 x_91.1.input)) w_101 F_102,.own true [] (.ptr 96 (o7 x_91.1.files)) w_103 F_104,.own true [] (.bb 5 x_91.1.out) w_107 F_108,.own true [] (.rw true 1 3 (List.map (ah4 .i64) x_91.1.state.Ranges)) w_109 F_110,.own true [] (.gs 2 122 (List.map y5 x_91.1.state.Queue)) w_111 F_112]) rfl ⟨(CV.rel.2 (CV.rel.1 r_98)),rfl,rfl,rfl,rfl,rfl,rfl,h_106,rfl,rfl,rfl,rfl,rfl,rfl,rfl,rfl,rfl,rfl,rfl,rfl,rfl,rfl⟩) ?_))))))
     rintro _ ⟨F_114,rfl⟩
     obtain ⟨x_115,e_116,h⟩:=ac8 h
     refine aP5 (A1:=[.own true [] (.ptr 80 (o5 (D.l9.mk x_91.1.f x_91.1.regexes x_91.1.input x_91.1.files x_91.1.out (D.aa0.mk (G.addI x_91.1.state.Op 1) x_91.1.state.Pattern x_91.1.state.Hold x_91.1.state.Flag x_91.1.state.Line x_91.1.state.Ranges x_91.1.state.Queue x_91.1.state.Done)))) (.ptr p_1 g_2 0 0) F_114]) rfl rfl (show InC [.o (.ptr 80 (o5 (D.l9.mk x_91.1.f x_91.1.regexes x_91.1.input x_91.1.files x_91.1.out (D.aa0.mk (G.addI x_91.1.state.Op 1) x_91.1.state.Pattern x_91.1.state.Hold x_91.1.state.Flag x_91.1.state.Line x_91.1.state.Ranges x_91.1.state.Queue x_91.1.state.Done)))),.r (.agg (af4 x_52))] _ _ from ⟨rfl,rfl,(RV.C.nrmA (r:=.agg (af4 x_52)) ⟨_,rfl,((o8 aa8 (o8 aa8 (o8 aa8 (o8 ag6 (o8 (CV.rel.1 r_58) (o8 aa8 (o8 aa8 (o8 ag6 (o8 (CV.rel.1 r_60) (o8 ai3 (o8 aa8 (o8 ag6 (o8 ag6 (o8 (CV.rel.1 r_62) (o8 r_64 (o8 aa8 (o8 ai3 (o8 ai3 (o8 ag6 (o8 ag6 (o8 aa8 (o8 aa8 (o8 aa8 (o8 aa8 (o8 aa8 (o8 aa8 au9)))))))))))))))))))))))))) : ab7 (af4 x_52) _)⟩),rfl,rfl⟩) rfl rfl rfl rfl rfl ((bx9) _ _ _ e_116) ?_
     rintro _ _ _ J_118 ⟨F_119,_,rfl,rfl⟩ ⟨_,rfl,rfl,rfl⟩
     refine aa3 (y7 (aa2 (o6 (s_mv rfl) (o6 (bh0 (i:=4) rfl rfl rfl rfl) ?_))))
     obtain ⟨x_120,e_121,h⟩:=ac8 h
     refine aP5 (A1:=[.own true [] (.ptr 80 (o5 x_115)) (.ptr p_1 g_2 0 0) F_119]) rfl rfl (show InC [.o (.ptr 80 (o5 x_115)),.r (.agg (af4 x_52))] _ _ from ⟨rfl,rfl,(RV.C.nrmA (r:=.agg (af4 x_52)) ⟨_,rfl,((o8 aa8 (o8 aa8 (o8 aa8 (o8 ag6 (o8 (CV.rel.1 r_58) (o8 aa8 (o8 aa8 (o8 ag6 (o8 (CV.rel.1 r_60) (o8 ai3 (o8 aa8 (o8 ag6 (o8 ag6 (o8 (CV.rel.1 r_62) (o8 r_64 (o8 aa8 (o8 ai3 (o8 ai3 (o8 ag6 (o8 ag6 (o8 aa8 (o8 aa8 (o8 aa8 (o8 aa8 (o8 aa8 (o8 aa8 au9)))))))))))))))))))))))))) : ab7 (af4 x_52) _)⟩),rfl,rfl⟩) rfl rfl rfl rfl rfl ((bw4) _ _ _ e_121) ?_
     rintro _ _ _ J_123 ⟨F_124,_,rfl,rfl⟩ ⟨_,rfl,rfl,rfl⟩
     refine aa3 (ak4 (y7 (aa1 (aa2 (o6 (s_mv rfl) (aa3 (y7 ?_)))))))
     refine ap6 ?_
     obtain rfl:=Option.some.inj h
     exact am2 (A1:=[.own true [] (.ptr 80 (o5 x_120)) (.ptr p_1 g_2 0 0) F_124]) (A2:=[]) (A3:=[.jnk true [] J_123,.jnk true [] J_118,.jnk true [] J_94,.jnk true [] J_70]) rfl ⟨rfl,rfl,rfl,rfl⟩ (.tr rfl rfl .nil) rfl rfl
    ·replace h:=iteF h h_96
     refine g_cF rfl (Bool.eq_false_iff.2 h_96) (ah1 (ak4 (y7 (aa1 (aa2 (o6 (s_mv rfl) (aa3 ?_)))))))
     refine y7 (ap6 ?_)
     obtain rfl:=Option.some.inj h
     exact am2 (A1:=[.own true [] (.ptr 80 (o5 x_91.1)) (.ptr p_1 g_2 0 0) F_95]) (A2:=[]) (A3:=[.jnk true [] J_94,.jnk true [] J_70]) rfl ⟨rfl,rfl,rfl,rfl⟩ (.tr rfl rfl .nil) rfl rfl
def S.ae7 (P : Program) (φ : D.l9 → Option (List UInt8)) : Prop:=∀ (a0 : D.l9) (r : List UInt8),φ a0 = some r → cQ9 P F.ae7 [.o (.ptr 80 (o5 a0))] [.str r]
theorem bG6 {P : Program} [hc : ae4 P] : S.ae7 P (ae7):=by
 intro a0 r h
 refine bC0 (b:=K.ae7) rfl hc.ae7 (fun _=>rfl) rfl rfl rfl ?_
 rintro L S0 _ _ _ ⟨av0,_,F0,_,_,rfl,rfl,rfl,rfl,rfl,rfl⟩
 unfold ae7 at h
 refine (show GC P _ L (⟨F.ae7,(F0 ++ []),S0,false,true⟩ : Fr) (numE 0 [av0]) [.own true [] (.ptr 80 (o5 a0)) av0 F0] (ab1 L K.ae7.res [.str r]) from ?_)
 generalize ((F0 ++ []) : List Loc) = W
 refine aJ0 (Mv.opn rfl) ?_
 rintro _ ⟨p_1,g_2,_,_,rfl,hO_19,rfl⟩
 obtain ⟨v_3,w_5,F_6,w_7,F_8,w_9,F_10,b_11,w_13,F_14,w_15,F_16,w_17,F_18,rfl,rfl,r_4,h_12⟩:=ac7 hO_19
 refine aa1 (aa2 (o6 (s_mv rfl) (aa3 (y7 (aa1 (aa2 (o6 (s_mv rfl) ?_)))))))
 refine o6 (ah5 rfl) (o6 (s_fa (o':=4) rfl rfl) (aq7 (Mv.sub (.cons (i:=0) rfl .rfl (.cons (i:=4) rfl .rfl (.cons (i:=1) rfl .rfl (.cons (i:=2) rfl .rfl (.cons (i:=3) rfl .rfl (.cons (i:=5) rfl .rfl (.cons (i:=6) rfl .rfl .nil))))))) rfl) ?_))
 rintro _ rfl
 refine o6 (s_bstP hc.bld rfl rfl rfl h_12 rfl rfl) (o6 (s_mv rfl) (aa3 (y7 (ap6 ?_))))
 obtain rfl:=Option.some.inj h
 exact aX0 (.tr rfl rfl .nil)
open Go.RowKit
def S.ai1 (P : Program) (φ : List UInt8 → Option (List (List UInt8))) : Prop:=∀ (a0 : List UInt8) (r : (List (List UInt8))),φ a0 = some r → ∀ (k0 : Nat) (args : List AV),RVN [.str a0] args → aV8 P F.ai1 args (ResC [.sl 1 (r.map aa6)])
def aM7 (L : Nat) (p0 : List UInt8) (p7 : Int)  : ((List (List UInt8)) × Int × Int) → BT → AS → Prop:=fun (p3,p4,p8) T S=>∃ (v3 : AV),RelS (L + 1) (.sl 1 (p3.map aa6)) v3 ∧ Ag [(0,.lit (.string (bs p0))),(3,v3),(4,.lit (.int .i64 p4)),(7,.lit (.int .i64 p7)),(8,.lit (.int .i64 p8))] T ∧ StA S L F.ai1 [.tok [21,30] 1 9 v3]
def aW6 (L : Nat) (p0 : List UInt8) (p7 : Int)  : ((List (List UInt8)) × Int) → BT → AS → Prop:=fun (p3,p4) T S=>∃ (v3 : AV),RelS (L + 1) (.sl 1 (p3.map aa6)) v3 ∧ Ag [(0,.lit (.string (bs p0))),(3,v3),(4,.lit (.int .i64 p4))] T ∧ StA S L F.ai1 [.tok [21,30] 1 9 v3]
theorem b49 {P : Program} [hc : ae4 P] {L : Nat} (p0 : List UInt8) (p7 : Int)  : ∀ (s : ((List (List UInt8)) × Int × Int)) (c : Ctl ((List (List UInt8)) × Int × Int) ((List (List UInt8)) × Int) (List (List UInt8))),ay1 p0 p7 s = some c → ∀ T S,aM7 L p0 p7 s T S → RunB P K.bq7 T S (am1 0 (aM7 L p0 p7) (aW6 L p0 p7) (fun r=>ab1 L K.ai1.res [.sl 1 (r.map aa6)]) c):=by
 rintro ⟨p3,p4,p8⟩ c h T S ⟨v3,r3,hT,hS⟩
 unfold ay1 at h
 refine (show GC P K.bq7 L F.ai1 [(0,.lit (.string (bs p0))),(3,v3),(4,.lit (.int .i64 p4)),(7,.lit (.int .i64 p7)),(8,.lit (.int .i64 p8))] [.tok [21,30] 1 9 v3] (am1 0 (aM7 L p0 p7) (aW6 L p0 p7) (fun r=>ab1 L K.ai1.res [.sl 1 (r.map aa6)]) c) from ?_) T S hT hS
 refine aa1 (aa2 (o6 (s_ib rfl rfl rfl) (aa3 (y7 (aa1 ?_)))))
 by_cases h_1 : p8 < p7
 ·replace h:=iteT h h_1
  refine g_cT rfl (decide_eq_true h_1) (ah1 (y7 (aa1 (ag3 (aa1 (aa2 (o6 (s_mv rfl) ?_)))))))
  refine o6 (s_mv rfl) (aa3 (y7 (aa1 (aa2 (o6 (s_mv rfl) (o6 (s_mv rfl) ?_))))))
  obtain ⟨x_2,e_3,h⟩:=ac8 h
  refine o6 (s_xs rfl rfl e_3) (o6 (s_ib rfl rfl rfl) (aa3 (y7 ?_)))
  by_cases h_4 : x_2 = 10
  ·replace h:=iteT h h_4
   refine g_cT rfl (decide_eq_true h_4) (aa1 (aa2 (o6 (s_mv rfl) (o6 (s_mv rfl) (o6 (s_mv rfl) (o6 (s_mv rfl) ?_))))))
   obtain ⟨x_5,e_6,h⟩:=ac8 h
   refine o6 (s_sls rfl rfl rfl e_6) (af5 (cl0 (es':=List.map aa6 [x_5]) rfl (.cons (Xs:=[.str x_5]) rfl (aS5 _) rfl .nil) rfl) ?_)
   rintro v_7 ⟨r_8,k_9⟩
   obtain ⟨x_10,e_11,h⟩:=ac8 h
   refine cI3 (i:=0) (c:=aa6) rfl rfl rfl rfl r3 r_8 rfl rfl e_11 fun v_12 r_13=>?_
   refine o6 (s_mv rfl) (aa3 (y7 (aa2 (o6 (s_mv rfl) (o6 (s_ib rfl rfl rfl) (o6 (s_mv rfl) (aa3 ?_)))))))
   refine ak4 (y7 (aa2 (o6 (s_ib rfl rfl rfl) (o6 (s_mv rfl) (aa3 ?_)))))
   obtain rfl:=Option.some.inj h
   exact fun T S hT hS=>⟨rfl,⟨v_12,r_13,hT.sub (subE.cons rfl (subE.cons rfl (subE.cons rfl (subE.cons rfl (subE.cons rfl (subE.nil _)))))),hS.sub (.cons (i:=0) rfl .rfl .nil) rfl⟩⟩
  ·replace h:=iteF h h_4
   refine g_cF rfl (decide_eq_false h_4) (ah1 (ak4 (y7 (aa2 (o6 (s_ib rfl rfl rfl) (o6 (s_mv rfl) (aa3 ?_)))))))
   obtain rfl:=Option.some.inj h
   exact fun T S hT hS=>⟨rfl,⟨v3,r3,hT.sub (subE.cons rfl (subE.cons rfl (subE.cons rfl (subE.cons rfl (subE.cons rfl (subE.nil _)))))),hS.sub (.cons (i:=0) rfl .rfl .nil) rfl⟩⟩
 ·replace h:=iteF h h_1
  refine g_cF rfl (decide_eq_false h_1) (aA5 (aA3 ?_))
  obtain rfl:=Option.some.inj h
  exact fun T S hT hS=>⟨rfl,⟨v3,r3,hT.sub (subE.cons rfl (subE.cons rfl (subE.cons rfl (subE.nil _)))),hS.sub (.cons (i:=0) rfl .rfl .nil) rfl⟩⟩
theorem bU8 {P : Program} [hc : ae4 P] : S.ai1 P (ai1):=by
 intro a0 r h k0 args ha
 refine al5 (b:=K.ai1) rfl hc.ai1 (fun _=>rfl) rfl rfl ?_ ha
 rintro L _ ⟨_,_,rfl,rfl,rfl⟩
 unfold ai1 at h
 show GC P _ L F.ai1 [(0,.lit (.string (bs a0)))] [] (ab1 L K.ai1.res [.sl 1 (r.map aa6)])
 refine aa1 (aa2 (o6 (s_mv rfl) (aa3 (y7 (aa1 (aa2 (o6 (s_mv rfl) ?_)))))))
 refine aa3 (y7 (aa1 (aa2 (o6 (s_mv rfl) (aa3 (y7 (aa1 ?_)))))))
 refine aa1 (aa2 (o6 (s_mv rfl) (o6 (s_ls rfl) (o6 (s_mv rfl) (aa3 (y7 (ag3 ?_)))))))
 refine da8 (ks:=[21,30]) (n:=1) (e:=9) (x:=(.lit (.slice none 0 0))) (.inl ⟨_,rfl⟩) ?_
 obtain ⟨o_14,e_15,h⟩:=ac8 h
 refine aA8 (IN:=aM7 L a0 (a0.length : Int)) (IB:=aW6 L a0 (a0.length : Int)) (IR:=fun r=>ab1 L K.ai1.res [.sl 1 (r.map aa6)]) e_15 (b49 a0 (a0.length : Int)  ) (fun T S hT hS=>⟨(.lit (.slice none 0 0)),(RelC.nil 1 _).toS,hT.sub (subE.cons rfl (subE.cons rfl (subE.cons rfl (subE.cons rfl (subE.cons rfl (subE.nil _)))))),hS.sub (.cons (i:=0) rfl .rfl .nil) rfl⟩) ?_
 rintro x T S hO
 cases o_14 with
 | brk s =>
  obtain ⟨p3b_16,p4b_16⟩:=s
  obtain ⟨rfl,v3b_16,r3b_16,hT,hS⟩:=hO
  refine (show G (.exit 0) L F.ai1 [(0,.lit (.string (bs a0))),(3,v3b_16),(4,.lit (.int .i64 p4b_16))] [.tok [21,30] 1 9 v3b_16] (Blk 0 (Thn P K.bT0 (ab1 L K.ai1.res [.sl 1 (r.map aa6)]))) from ?_) T S hT hS
  refine ay3 (y7 (aa1 (aa2 (o6 (s_mv rfl) (o6 (s_mv rfl) (o6 (s_mv rfl) ?_))))))
  obtain ⟨x_17,e_18,h⟩:=ac8 h
  refine o6 (s_slsL rfl rfl e_18) (af5 (cl0 (es':=List.map aa6 [x_17]) rfl (.cons (Xs:=[.str x_17]) rfl (aS5 _) rfl .nil) rfl) ?_)
  rintro v_19 ⟨r_20,k_21⟩
  obtain ⟨x_22,e_23,h⟩:=ac8 h
  refine cI3 (i:=0) (c:=aa6) rfl rfl rfl rfl r3b_16 r_20 rfl rfl e_23 fun v_24 r_25=>?_
  refine o6 (s_mv rfl) (aa3 (y7 (ap6 ?_)))
  obtain rfl:=Option.some.inj h
  exact ba8 (.t rfl r_25 .nil)
 | ret r =>
  obtain rfl:=Option.some.inj h
  obtain ⟨rfl,hO⟩:=hO
  exact hO
def S.af6 (P : Program) (φ : (List D.aj1) → Option (List D.aj1)) : Prop:=∀ (a0 : (List D.aj1)) (r : (List D.aj1)),φ a0 = some r → ∀ (k0 : Nat) (args : List AV),RVN [.sl 2 (a0.map ah3)] args → aV8 P F.af6 args (ResC [.sl 2 (r.map ah3)])
def aq4 (L : Nat) (p0 : (List D.aj1)) (p8 : Int) (v0 : AV)  : ((List D.aj1) × Int) → BT → AS → Prop:=fun (p3,p9) T S=>∃ (v3 : AV),RelC (.sl 2 (p3.map ah3)) v3 ∧ Ag [(0,v0),(3,v3),(8,.lit (.int .i64 p8)),(9,.lit (.int .i64 p9))] T ∧ StA S L F.af6 []
def as5 (L : Nat) (p0 : (List D.aj1)) (p8 : Int) (v0 : AV)  : (List D.aj1) → BT → AS → Prop:=fun p3 T S=>∃ (v3 : AV),RelC (.sl 2 (p3.map ah3)) v3 ∧ Ag [(3,v3)] T ∧ StA S L F.af6 []
def aM9 (L : Nat) (p0 : (List D.aj1)) (p3 : (List D.aj1)) (p4 : Int) (p8 : Int) (p9 : Int) (p17 : Int) (v0 : AV) (v3 : AV)  : ((List (List UInt8)) × Int) → BT → AS → Prop:=fun (p5,p18) T S=>∃ (v5 : AV),RelS (L + 1) (.sl 1 (p5.map aa6)) v5 ∧ Ag [(0,v0),(3,v3),(4,.lit (.int .i64 p4)),(5,v5),(8,.lit (.int .i64 p8)),(9,.lit (.int .i64 p9)),(17,.lit (.int .i64 p17)),(18,.lit (.int .i64 p18))] T ∧ StA S L F.af6 [.tok [31] 1 9 v5]
def aW7 (L : Nat) (p0 : (List D.aj1)) (p3 : (List D.aj1)) (p4 : Int) (p8 : Int) (p9 : Int) (p17 : Int) (v0 : AV) (v3 : AV)  : (List (List UInt8)) → BT → AS → Prop:=fun p5 T S=>∃ (v5 : AV),RelS (L + 1) (.sl 1 (p5.map aa6)) v5 ∧ Ag [(0,v0),(3,v3),(4,.lit (.int .i64 p4)),(5,v5),(8,.lit (.int .i64 p8)),(9,.lit (.int .i64 p9))] T ∧ StA S L F.af6 [.tok [31] 1 9 v5]
theorem bY7 {P : Program} [hc : ae4 P] {L : Nat} (p0 : (List D.aj1)) (p3 : (List D.aj1)) (p4 : Int) (p8 : Int) (p9 : Int) (p17 : Int) {v0 : AV} {v3 : AV} (r0 : RelC (.sl 2 (p0.map ah3)) v0) (r3 : RelC (.sl 2 (p3.map ah3)) v3) : ∀ (s : ((List (List UInt8)) × Int)) (c : Ctl ((List (List UInt8)) × Int) (List (List UInt8)) (Ctl ((List D.aj1) × Int) (List D.aj1) (List D.aj1))),bj1 p0 p3 p4 p8 p9 p17 s = some c → ∀ T S,aM9 L p0 p3 p4 p8 p9 p17 v0 v3 s T S → RunB P K.bk4 T S (am1 2 (aM9 L p0 p3 p4 p8 p9 p17 v0 v3) (aW7 L p0 p3 p4 p8 p9 p17 v0 v3) (fun r=>am1 0 (aq4 L p0 p8 v0) (as5 L p0 p8 v0) (fun r=>ab1 L K.af6.res [.sl 2 (r.map ah3)]) r) c):=by
 rintro ⟨p5,p18⟩ c h T S ⟨v5,r5,hT,hS⟩
 unfold bj1 at h
 refine (show GC P K.bk4 L F.af6 [(0,v0),(3,v3),(4,.lit (.int .i64 p4)),(5,v5),(8,.lit (.int .i64 p8)),(9,.lit (.int .i64 p9)),(17,.lit (.int .i64 p17)),(18,.lit (.int .i64 p18))] [.tok [31] 1 9 v5] (am1 2 (aM9 L p0 p3 p4 p8 p9 p17 v0 v3) (aW7 L p0 p3 p4 p8 p9 p17 v0 v3) (fun r=>am1 0 (aq4 L p0 p8 v0) (as5 L p0 p8 v0) (fun r=>ab1 L K.af6.res [.sl 2 (r.map ah3)]) r) c) from ?_) T S hT hS
 refine aa1 (aa2 (o6 (s_ib rfl rfl rfl) (aa3 (y7 (aa1 ?_)))))
 by_cases h_10 : p18 < p17
 ·replace h:=iteT h h_10
  refine g_cT rfl (decide_eq_true h_10) (ah1 (y7 (aa1 (ag3 (aa1 (aa2 (o6 (s_mv rfl) ?_)))))))
  refine o6 (s_mv rfl) (aa3 (y7 (aa2 (o6 (s_mv rfl) (o6 (s_mv rfl) (o6 (s_mv rfl) ?_))))))
  obtain ⟨x_13,e_14,h⟩:=ac8 h
  refine af5 (s_ia (c:=ah3) rfl r0.toS rfl e_14) ?_
  rintro _ ⟨c_11,rfl,r_12⟩
  refine af5 (b66 rfl r_12) ?_
  rintro _ ⟨c_15,rfl,r_16⟩
  refine af5 (cI7 (v:=.sl 1 (x_13.Lines.map aa6)) rfl r_16 rfl) ?_
  rintro v_17 r_18
  refine o6 (s_mv rfl) ?_
  obtain ⟨x_21,e_22,h⟩:=ac8 h
  refine af5 (s_ia (c:=aa6) rfl r_18.toS rfl e_22) ?_
  rintro _ ⟨c_19,rfl,r_20⟩
  refine o6 (aC3 (v:=.str x_21) (a:=.lit (.string (bs x_21))) rfl r_20 rfl (fun _=>aq8)) ?_
  obtain ⟨x_23,e_24,h⟩:=ac8 h
  refine af5 (bI8 (rs:=[.str x_21]) (fun _=>rfl) rfl (RVL.toN (L:=L + 1) ⟨_,_,rfl,rfl,rfl⟩) ((bU8) _ _ e_24 (L + 1) _)) ?_
  rintro v_25 r_26
  replace r_26:=ResC.one r_26
  obtain ⟨x_27,e_28,h⟩:=ac8 h
  refine cI3 (i:=0) (c:=aa6) rfl rfl rfl rfl r5 r_26 rfl rfl e_28 fun v_29 r_30=>?_
  refine o6 (s_mv rfl) (aa3 (ak4 (y7 (aa2 (o6 (s_ib rfl rfl rfl) (o6 (s_mv rfl) (aa3 ?_)))))))
  obtain rfl:=Option.some.inj h
  exact fun T S hT hS=>⟨rfl,⟨v_29,r_30,hT.sub (subE.cons rfl (subE.cons rfl (subE.cons rfl (subE.cons rfl (subE.cons rfl (subE.cons rfl (subE.cons rfl (subE.cons rfl (subE.nil _))))))))),hS.sub (.cons (i:=0) rfl .rfl .nil) rfl⟩⟩
 ·replace h:=iteF h h_10
  refine g_cF rfl (decide_eq_false h_10) (aA5 (aA3 ?_))
  obtain rfl:=Option.some.inj h
  exact fun T S hT hS=>⟨rfl,⟨v5,r5,hT.sub (subE.cons rfl (subE.cons rfl (subE.cons rfl (subE.cons rfl (subE.cons rfl (subE.cons rfl (subE.nil _))))))),hS.sub (.cons (i:=0) rfl .rfl .nil) rfl⟩⟩
theorem bX5 {P : Program} [hc : ae4 P] {L : Nat} (p0 : (List D.aj1)) (p8 : Int) {v0 : AV} (r0 : RelC (.sl 2 (p0.map ah3)) v0) : ∀ (s : ((List D.aj1) × Int)) (c : Ctl ((List D.aj1) × Int) (List D.aj1) (List D.aj1)),aU4 p0 p8 s = some c → ∀ T S,aq4 L p0 p8 v0 s T S → RunB P K.a90 T S (am1 0 (aq4 L p0 p8 v0) (as5 L p0 p8 v0) (fun r=>ab1 L K.af6.res [.sl 2 (r.map ah3)]) c):=by
 rintro ⟨p3,p9⟩ c h T S ⟨v3,r3,hT,hS⟩
 unfold aU4 at h
 refine (show GC P K.a90 L F.af6 [(0,v0),(3,v3),(8,.lit (.int .i64 p8)),(9,.lit (.int .i64 p9))] [] (am1 0 (aq4 L p0 p8 v0) (as5 L p0 p8 v0) (fun r=>ab1 L K.af6.res [.sl 2 (r.map ah3)]) c) from ?_) T S hT hS
 refine aa1 (aa2 (o6 (s_ib rfl rfl rfl) (aa3 (y7 (aa1 ?_)))))
 by_cases h_1 : p9 < p8
 ·replace h:=iteT h h_1
  refine g_cT rfl (decide_eq_true h_1) (ah1 (y7 (aa1 (ag3 (aa1 (aa2 (o6 (s_mv rfl) ?_)))))))
  refine o6 (s_mv rfl) (aa3 (y7 (aa1 (aa2 (o6 (s_mv rfl) (aa3 (y7 ?_)))))))
  refine aa1 (aa1 (aa2 (o6 (s_mv rfl) (o6 (s_mv rfl) ?_))))
  obtain ⟨x_4,e_5,h⟩:=ac8 h
  refine af5 (s_ia (c:=ah3) rfl r0.toS rfl e_5) ?_
  rintro _ ⟨c_2,rfl,r_3⟩
  refine af5 (b66 rfl r_3) ?_
  rintro _ ⟨c_6,rfl,r_7⟩
  refine af5 (cI7 (v:=.sl 1 (x_4.Lines.map aa6)) rfl r_7 rfl) ?_
  rintro v_8 r_9
  refine o6 (ba7 (c:=aa6) rfl r_9) (o6 (s_mv rfl) (aa3 (y7 (ag3 (da8 (ks:=[31]) (n:=1) (e:=9) (x:=(.lit (.slice none 0 0))) (.inl ⟨_,rfl⟩) ?_)))))
  obtain ⟨o_31,e_32,h⟩:=ac8 h
  refine aA8 (IN:=aM9 L p0 p3 p9 p8 p9 (x_4.Lines.length : Int) v0 v3) (IB:=aW7 L p0 p3 p9 p8 p9 (x_4.Lines.length : Int) v0 v3) (IR:=fun r=>am1 0 (aq4 L p0 p8 v0) (as5 L p0 p8 v0) (fun r=>ab1 L K.af6.res [.sl 2 (r.map ah3)]) r) e_32 (bY7 p0 p3 p9 p8 p9 (x_4.Lines.length : Int) (v0:=v0) (v3:=v3) r0 r3) (fun T S hT hS=>⟨(.lit (.slice none 0 0)),(RelC.nil 1 _).toS,hT.sub (subE.cons rfl (subE.cons rfl (subE.cons rfl (subE.cons rfl (subE.cons rfl (subE.cons rfl (subE.cons rfl (subE.cons rfl (subE.nil _))))))))),hS.sub (.cons (i:=0) rfl .rfl .nil) rfl⟩) ?_
  rintro x T S hO
  cases o_31 with
  | brk p5b_33 =>
   obtain ⟨rfl,v5b_33,r5b_33,hT,hS⟩:=hO
   refine (show G (.exit 2) L F.af6 [(0,v0),(3,v3),(4,.lit (.int .i64 p9)),(5,v5b_33),(8,.lit (.int .i64 p8)),(9,.lit (.int .i64 p9))] [.tok [31] 1 9 v5b_33] (Blk 2 (Thn P K.bU6 (Blk 1 (Thn P K.bT1 (am1 0 (aq4 L p0 p8 v0) (as5 L p0 p8 v0) (fun r=>ab1 L K.af6.res [.sl 2 (r.map ah3)]) c))))) from ?_) T S hT hS
   refine ay3 (y7 (aa2 (o6 (s_mv rfl) (o6 (s_mv rfl) (o6 (s_mv rfl) ?_)))))
   obtain ⟨x_36,e_37,h⟩:=ac8 h
   refine af5 (s_ia (c:=ah3) rfl r0.toS rfl e_37) ?_
   rintro _ ⟨c_34,rfl,r_35⟩
   refine af5 (b66 rfl r_35) ?_
   rintro _ ⟨c_38,rfl,r_39⟩
   refine o6 (aC3 (v:=.str x_36.Name) (a:=.lit (.string (bs x_36.Name))) rfl r_39 rfl (fun _=>aq8)) (o6 (s_mv rfl) ?_)
   cases h
  | ret r =>
   obtain rfl:=Option.some.inj h
   obtain ⟨rfl,hO⟩:=hO
   exact hO
 ·replace h:=iteF h h_1
  refine g_cF rfl (decide_eq_false h_1) (aA5 (aA3 ?_))
  obtain rfl:=Option.some.inj h
  exact fun T S hT hS=>⟨rfl,⟨v3,r3,hT.sub (subE.cons rfl (subE.nil _)),hS.sub .nil rfl⟩⟩
theorem cs6 {P : Program} [hc : ae4 P] : S.af6 P (af6):=by
 intro a0 r h k0 args ha
 refine al5 (b:=K.af6) rfl hc.af6 (fun _=>rfl) rfl rfl ?_ ha
 rintro L _ ⟨av0,_,rfl,ar0,rfl⟩
 unfold af6 at h
 show GC P _ L F.af6 [(0,av0)] [] (ab1 L K.af6.res [.sl 2 (r.map ah3)])
 refine aa1 (aa2 (o6 (s_mv rfl) (aa3 (y7 (aa1 (aa2 (o6 (s_mv rfl) ?_)))))))
 refine aa3 (y7 (aa1 (aa1 (aa2 (o6 (s_mv rfl) (o6 (ba7 (c:=ah3) rfl ar0) (o6 (s_mv rfl) ?_)))))))
 refine aa3 (y7 (ag3 ?_))
 obtain ⟨o_40,e_41,h⟩:=ac8 h
 refine aA8 (IN:=aq4 L a0 (a0.length : Int) av0) (IB:=as5 L a0 (a0.length : Int) av0) (IR:=fun r=>ab1 L K.af6.res [.sl 2 (r.map ah3)]) e_41 (bX5 a0 (a0.length : Int) (v0:=av0) ar0) (fun T S hT hS=>⟨(.lit (.slice none 0 0)),(RelC.nil 2 _),hT.sub (subE.cons rfl (subE.cons rfl (subE.cons rfl (subE.cons rfl (subE.nil _))))),hS.sub .nil rfl⟩) ?_
 rintro x T S hO
 cases o_40 with
 | brk p3b_42 =>
  obtain ⟨rfl,v3b_42,r3b_42,hT,hS⟩:=hO
  refine (show G (.exit 0) L F.af6 [(3,v3b_42)] [] (Blk 0 (Thn P K.bO0 (ab1 L K.af6.res [.sl 2 (r.map ah3)]))) from ?_) T S hT hS
  refine ay3 (y7 (aa1 (aa2 (o6 (s_mv rfl) (o6 (s_mv rfl) (aa3 (y7 ?_)))))))
  refine ap6 ?_
  obtain rfl:=Option.some.inj h
  exact ba8 (.t rfl r3b_42.toS .nil)
 | ret r =>
  obtain rfl:=Option.some.inj h
  obtain ⟨rfl,hO⟩:=hO
  exact hO
open Go.RowKit
def S.ak3 (P : Program) (φ : D.aa9 → Option D.aa9) : Prop:=∀ (a0 : D.aa9) (r : D.aa9),φ a0 = some r → ∀ (k0 : Nat) (args : List AV),RVN [.agg (ac2 a0)] args → aV8 P F.ak3 args (ResC [.agg (ac2 r)])
theorem b60 {P : Program} [hc : ae4 P] : S.ak3 P (ak3):=by
 intro a0 r h k0 args ha
 refine al5 (b:=K.ak3) rfl hc.ak3 (fun _=>rfl) rfl rfl ?_ ha
 rintro L _ ⟨_,_,rfl,⟨ac0,rfl,ar0⟩,rfl⟩
 unfold ak3 at h
 show GC P _ L F.ak3 [(0,.agg ac0)] [] (ab1 L K.ak3.res [.agg (ac2 r)])
 refine aa1 (aa2 ?_)
 refine g_bx rfl rfl rfl fun g_1=>?_
 refine g_al rfl fun g_2=>?_
 refine aa3 (y7 (aa1 (aa1 (aa2 (o6 (s_fa rfl rfl) (o6 (s_fa rfl rfl) (o6 (ba2 (off:=12) (v:=.int .i64 a0.S.Line) (a:=.lit (.int .i64 a0.S.Line)) rfl rfl (ar0).toS rfl (fun _=>bt8)) ?_)))))))
 refine o6 (s_fa rfl rfl) (af5 (cJ3 (off:=5) (v:=.sl 1 (a0.Input.map aa6)) rfl rfl ar0 rfl) ?_)
 rintro v_3 r_4
 refine o6 (ba7 (c:=aa6) rfl r_4) (o6 (s_ib rfl rfl rfl) (aa3 (y7 ?_)))
 by_cases h_6 : a0.S.Line = (a0.Input.length : Int)
 ·replace h:=iteT h h_6
  refine g_cT rfl (decide_eq_true h_6) (aa1 (aa2 (o6 (s_fa rfl rfl) (o6 (s_fa rfl rfl) ?_))))
  refine bV8 (Xs:=[.bool true]) (M':=ac2 { a0 with S:={ a0.S with Done:=true } }) rfl rfl rfl rfl ar0 (bt7 _) rfl rfl rfl fun d_7 s_8 q_9=>?_
  refine aa3 (y7 (aa1 (aa2 (af5 (ci5 (off:=0) (N:=ac2 { a0 with S:={ a0.S with Done:=true } }) rfl rfl s_8 rfl rfl) ?_))))
  rintro _ ⟨c_10,rfl,r_11⟩
  refine bV8 (Xs:=ac2 { a0 with S:={ a0.S with Done:=true } }) (M':=ac2 { a0 with S:={ a0.S with Done:=true } }) rfl rfl rfl rfl aN8 r_11 rfl rfl rfl fun d_12 s_13 q_14=>?_
  refine aa3 (y7 (ap6 (aU1 ?_)))
  obtain rfl:=Option.some.inj h
  exact ba8 (.cn rfl rfl s_13.toS rfl .nil)
 ·replace h:=iteF h h_6
  refine g_cF rfl (decide_eq_false h_6) (ah1 (y7 (aa1 (aa2 (o6 (s_fa rfl rfl) (af5 (cJ3 (off:=5) (v:=.sl 1 (a0.Input.map aa6)) rfl rfl ar0 rfl) ?_))))))
  rintro v_15 r_16
  refine o6 (s_fa rfl rfl) (o6 (s_fa rfl rfl) (o6 (ba2 (off:=12) (v:=.int .i64 a0.S.Line) (a:=.lit (.int .i64 a0.S.Line)) rfl rfl (ar0).toS rfl (fun _=>bt8)) ?_))
  obtain ⟨x_20,e_21,h⟩:=ac8 h
  refine af5 (s_ia (c:=aa6) rfl r_16.toS rfl e_21) ?_
  rintro _ ⟨c_18,rfl,r_19⟩
  refine o6 (aC3 (v:=.str x_20) (a:=.lit (.string (bs x_20))) rfl r_19 rfl (fun _=>aq8)) (o6 (s_fa rfl rfl) (o6 (s_fa rfl rfl) ?_))
  refine bV8 (Xs:=[.str x_20]) (M':=ac2 { a0 with S:={ a0.S with Pattern:=x_20 } }) rfl rfl rfl rfl ar0 (aS5 _) rfl rfl rfl fun d_22 s_23 q_24=>?_
  refine aa3 (y7 (aa1 (aa2 (o6 (s_fa rfl rfl) (o6 (s_fa rfl rfl) (o6 (ba2 (off:=12) (v:=.int .i64 a0.S.Line) (a:=.lit (.int .i64 a0.S.Line)) rfl rfl (s_23).toS rfl (fun _=>bt8)) (o6 (s_ib rfl rfl rfl) ?_)))))))
  refine o6 (s_fa rfl rfl) (o6 (s_fa rfl rfl) ?_)
  obtain ⟨q_28,e_29,h⟩:=ac8 h
  refine bV8 (Xs:=[.int .i64 (G.addI a0.S.Line 1)]) (M':=ac2 q_28) rfl rfl rfl rfl s_23 (b29 _ _) rfl rfl (by cases e_29; rfl) fun d_25 s_26 q_27=>?_
  refine aa3 (y7 (aa1 (aa2 (o6 (s_fa rfl rfl) (o6 (s_fa rfl rfl) ?_)))))
  refine bV8 (Xs:=[.bool false]) (M':=ac2 { q_28 with S:={ q_28.S with Flag:=false } }) rfl rfl rfl rfl s_26 (bt7 _) rfl rfl rfl fun d_30 s_31 q_32=>?_
  refine aa3 (y7 (aa1 (aa2 (o6 (s_fa rfl rfl) (o6 (s_fa rfl rfl) ?_)))))
  refine bV8 (Xs:=[.int .i64 0]) (M':=ac2 { q_28 with S:={ { q_28.S with Flag:=false } with Op:=0 } }) rfl rfl rfl rfl s_31 (b29 _ _) rfl rfl rfl fun d_33 s_34 q_35=>?_
  refine aa3 (y7 (aa1 (aa2 (af5 (ci5 (off:=0) (N:=ac2 { q_28 with S:={ { q_28.S with Flag:=false } with Op:=0 } }) rfl rfl s_34 rfl rfl) ?_))))
  rintro _ ⟨c_36,rfl,r_37⟩
  refine bV8 (Xs:=ac2 { q_28 with S:={ { q_28.S with Flag:=false } with Op:=0 } }) (M':=ac2 { q_28 with S:={ { q_28.S with Flag:=false } with Op:=0 } }) rfl rfl rfl rfl aN8 r_37 rfl rfl rfl fun d_38 s_39 q_40=>?_
  refine aa3 (y7 (ap6 ?_))
  obtain rfl:=Option.some.inj h
  exact ba8 (.cn rfl rfl s_39.toS rfl .nil)
def S.ad9 (P : Program) (φ : D.ai2 → (List (List UInt8)) → (List D.aj1) → Option D.aa9) : Prop:=∀ (a0 : D.ai2) (a1 : (List (List UInt8))) (a2 : (List D.aj1)) (r : D.aa9),φ a0 a1 a2 = some r → ∀ (k0 : Nat) (args : List AV),RVN [.agg (ax5 a0),.sl 1 (a1.map aa6),.sl 2 (a2.map ah3)] args → aV8 P F.ad9 args (ResC [.agg (ac2 r)])
def aM6 (L : Nat) (p1 : (List (List UInt8))) (p16 : Int) (q3 : D.ai2) (q6 : D.aa9) (v1 : AV) (g3 : Nat) (d3 : List AV) (g6 : Nat) (d6 : List AV) (g7 : Nat)  : (Int × D.aa9) → BT → AS → Prop:=fun (p17,q7) T S=>∃ (d7 : List AV) (w7_5 : AV) (w7_13 : AV),aq5 (L + 1) (ac2 q7) d7 ∧ d7[5]? = some w7_5 ∧ d7[13]? = some w7_13 ∧ Ag [(1,v1),(3,.ptr ⟨L + 1,3,0⟩ g3 0 0),(6,.ptr ⟨L + 1,6,0⟩ g6 0 0),(7,.ptr ⟨L + 1,7,0⟩ g7 0 0),(16,.lit (.int .i64 p16)),(17,.lit (.int .i64 p17))] T ∧ StA S L F.ad9 [.obj 3 g3 30 d3,.obj 6 g6 43 d6,.obj 7 g7 43 d7,.tok [71] 1 3 w7_13,.tok [27] 1 9 w7_5]
def aV7 (L : Nat) (p1 : (List (List UInt8))) (p16 : Int) (q3 : D.ai2) (q6 : D.aa9) (v1 : AV) (g3 : Nat) (d3 : List AV) (g6 : Nat) (d6 : List AV) (g7 : Nat)  : D.aa9 → BT → AS → Prop:=fun q7 T S=>∃ (d7 : List AV) (w7_5 : AV) (w7_13 : AV),aq5 (L + 1) (ac2 q7) d7 ∧ d7[5]? = some w7_5 ∧ d7[13]? = some w7_13 ∧ Ag [(3,.ptr ⟨L + 1,3,0⟩ g3 0 0),(6,.ptr ⟨L + 1,6,0⟩ g6 0 0),(7,.ptr ⟨L + 1,7,0⟩ g7 0 0)] T ∧ StA S L F.ad9 [.obj 3 g3 30 d3,.obj 6 g6 43 d6,.obj 7 g7 43 d7,.tok [71] 1 3 w7_13,.tok [27] 1 9 w7_5]
theorem b53 {P : Program} [hc : ae4 P] {L : Nat} (p1 : (List (List UInt8))) (p16 : Int) (q3 : D.ai2) (q6 : D.aa9) {v1 : AV} {g3 : Nat} {d3 : List AV} {g6 : Nat} {d6 : List AV} {g7 : Nat} (r1 : RelC (.sl 1 (p1.map aa6)) v1) (s3 : ab7 (ax5 q3) d3) (s6 : ab7 (ac2 q6) d6) : ∀ (s : (Int × D.aa9)) (c : Ctl (Int × D.aa9) D.aa9 D.aa9),aw9 p1 p16 q3 q6 s = some c → ∀ T S,aM6 L p1 p16 q3 q6 v1 g3 d3 g6 d6 g7 s T S → RunB P K.br4 T S (am1 0 (aM6 L p1 p16 q3 q6 v1 g3 d3 g6 d6 g7) (aV7 L p1 p16 q3 q6 v1 g3 d3 g6 d6 g7) (fun r=>ab1 L K.ad9.res [.agg (ac2 r)]) c):=by
 rintro ⟨p17,q7⟩ c h T S ⟨d7,w7_5,w7_13,s7,f7_5,f7_13,hT,hS⟩
 unfold aw9 at h
 refine (show GC P K.br4 L F.ad9 [(1,v1),(3,.ptr ⟨L + 1,3,0⟩ g3 0 0),(6,.ptr ⟨L + 1,6,0⟩ g6 0 0),(7,.ptr ⟨L + 1,7,0⟩ g7 0 0),(16,.lit (.int .i64 p16)),(17,.lit (.int .i64 p17))] [.obj 3 g3 30 d3,.obj 6 g6 43 d6,.obj 7 g7 43 d7,.tok [71] 1 3 w7_13,.tok [27] 1 9 w7_5] (am1 0 (aM6 L p1 p16 q3 q6 v1 g3 d3 g6 d6 g7) (aV7 L p1 p16 q3 q6 v1 g3 d3 g6 d6 g7) (fun r=>ab1 L K.ad9.res [.agg (ac2 r)]) c) from ?_) T S hT hS
 refine aa1 (aa2 (o6 (s_ib rfl rfl rfl) (aa3 (y7 (aa1 ?_)))))
 by_cases h_20 : p17 < p16
 ·replace h:=iteT h h_20
  refine g_cT rfl (decide_eq_true h_20) (ah1 (y7 (aa1 (ag3 (aa1 (aa2 (o6 (s_mv rfl) ?_)))))))
  refine o6 (s_mv rfl) (aa3 (y7 (au7 (o6 (s_fa rfl rfl) (af5 (cR5 (off:=5) (v:=.sl 1 (q7.Input.map aa6)) rfl rfl s7 rfl) ?_)))))
  rintro v_21 ⟨r_22,f_23⟩
  obtain rfl : w7_5 = v_21:=Option.some.inj (f7_5.symm.trans f_23)
  refine o6 (s_mv rfl) (o6 (s_mv rfl) ?_)
  obtain ⟨x_26,e_27,h⟩:=ac8 h
  refine af5 (s_ia (c:=aa6) rfl r1.toS rfl e_27) ?_
  rintro _ ⟨c_24,rfl,r_25⟩
  refine o6 (aC3 (v:=.str x_26) (a:=.lit (.string (bs x_26))) rfl r_25 rfl (fun _=>aq8)) ?_
  obtain ⟨x_28,e_29,h⟩:=ac8 h
  refine af5 (bI8 (rs:=[.str x_26]) (fun _=>rfl) rfl (RVL.toN (L:=L + 1) ⟨_,_,rfl,rfl,rfl⟩) ((bU8) _ _ e_29 (L + 1) _)) ?_
  rintro v_30 r_31
  replace r_31:=ResC.one r_31
  obtain ⟨x_32,e_33,h⟩:=ac8 h
  refine cI3 (i:=4) (c:=aa6) rfl rfl rfl rfl r_22 r_31 rfl rfl e_33 fun v_34 r_35=>?_
  refine o6 (s_fa rfl rfl) ?_
  refine g_st (Xs:=[.sl 1 (x_32.map aa6)]) (M':=ac2 { q7 with Input:=x_32 }) rfl rfl rfl rfl s7 (relSL1 r_35) rfl rfl rfl fun d_36 s_37 q_38=>?_
  have f_39 : d_36[5]? = some v_34:=by rw [q_38]; exact cs8 r_35.cells (by rw [s7.length]; exact of_blt rfl)
  have f_40 : d_36[13]? = some w7_13:=by rw [q_38]; exact cc0 f7_13 (by rw [r_35.cells]; exact .inr (Nat.le_of_ble_eq_true rfl); all_goals exact 0)
  refine aC8 rfl (ak4 (y7 (aa2 (o6 (s_ib rfl rfl rfl) (o6 (s_mv rfl) (aa3 ?_))))))
  obtain rfl:=Option.some.inj h
  exact fun T S hT hS=>⟨rfl,⟨d_36,v_34,w7_13,s_37,f_39,f_40,hT.sub (subE.cons rfl (subE.cons rfl (subE.cons rfl (subE.cons rfl (subE.cons rfl (subE.cons rfl (subE.nil _))))))),hS.sub (.cons (i:=0) rfl .rfl (.cons (i:=1) rfl .rfl (.cons (i:=2) rfl .rfl (.cons (i:=3) rfl .rfl (.cons (i:=4) rfl .rfl .nil))))) rfl⟩⟩
 ·replace h:=iteF h h_20
  refine g_cF rfl (decide_eq_false h_20) (aA5 (aA3 ?_))
  obtain rfl:=Option.some.inj h
  exact fun T S hT hS=>⟨rfl,⟨d7,w7_5,w7_13,s7,f7_5,f7_13,hT.sub (subE.cons rfl (subE.cons rfl (subE.cons rfl (subE.nil _)))),hS.sub (.cons (i:=0) rfl .rfl (.cons (i:=1) rfl .rfl (.cons (i:=2) rfl .rfl (.cons (i:=3) rfl .rfl (.cons (i:=4) rfl .rfl .nil))))) rfl⟩⟩
def aA4 (L : Nat) (p32 : Int) (q3 : D.ai2) (q6 : D.aa9) (g3 : Nat) (d3 : List AV) (g6 : Nat) (d6 : List AV) (g7 : Nat)  : (Int × D.aa9) → BT → AS → Prop:=fun (p33,q7) T S=>∃ (d7 : List AV) (w7_5 : AV) (w7_13 : AV),aq5 (L + 1) (ac2 q7) d7 ∧ d7[5]? = some w7_5 ∧ d7[13]? = some w7_13 ∧ Ag [(3,.ptr ⟨L + 1,3,0⟩ g3 0 0),(6,.ptr ⟨L + 1,6,0⟩ g6 0 0),(7,.ptr ⟨L + 1,7,0⟩ g7 0 0),(32,.lit (.int .i64 p32)),(33,.lit (.int .i64 p33))] T ∧ StA S L F.ad9 [.obj 3 g3 30 d3,.obj 6 g6 43 d6,.obj 7 g7 43 d7,.tok [71] 1 3 w7_13,.tok [27] 1 9 w7_5]
def aN0 (L : Nat) (p32 : Int) (q3 : D.ai2) (q6 : D.aa9) (g3 : Nat) (d3 : List AV) (g6 : Nat) (d6 : List AV) (g7 : Nat)  : D.aa9 → BT → AS → Prop:=fun q7 T S=>∃ (d7 : List AV) (w7_5 : AV) (w7_13 : AV),aq5 (L + 1) (ac2 q7) d7 ∧ d7[5]? = some w7_5 ∧ d7[13]? = some w7_13 ∧ Ag [(3,.ptr ⟨L + 1,3,0⟩ g3 0 0),(6,.ptr ⟨L + 1,6,0⟩ g6 0 0),(7,.ptr ⟨L + 1,7,0⟩ g7 0 0)] T ∧ StA S L F.ad9 [.obj 3 g3 30 d3,.obj 6 g6 43 d6,.obj 7 g7 43 d7,.tok [71] 1 3 w7_13,.tok [27] 1 9 w7_5]
theorem b03 {P : Program} [hc : ae4 P] {L : Nat} (p32 : Int) (p33 : Int) (q3 : D.ai2) (q6 : D.aa9) (q7 : D.aa9) (q10 : D.bQ4) {g3 : Nat} {d3 : List AV} {g6 : Nat} {d6 : List AV} {g7 : Nat} {d7 : List AV} {w7_5 : AV} {w7_13 : AV} {g10 : Nat} {d10 : List AV} (s3 : ab7 (ax5 q3) d3) (s6 : ab7 (ac2 q6) d6) (s7 : aq5 (L + 1) (ac2 q7) d7) (f7_5 : d7[5]? = some w7_5) (f7_13 : d7[13]? = some w7_13) (s10 : ab7 (bp7 q10) d10) : ∀ (c : Ctl (Int × D.aa9) D.aa9 D.aa9),aT7 p32 p33 q3 q6 q7 q10 = some c → G .normal L F.ad9 [(3,.ptr ⟨L + 1,3,0⟩ g3 0 0),(6,.ptr ⟨L + 1,6,0⟩ g6 0 0),(7,.ptr ⟨L + 1,7,0⟩ g7 0 0),(10,.ptr ⟨L + 1,10,0⟩ g10 0 0),(32,.lit (.int .i64 p32)),(33,.lit (.int .i64 p33))] [.obj 3 g3 30 d3,.obj 6 g6 43 d6,.obj 7 g7 43 d7,.obj 10 g10 114 d10,.tok [71] 1 3 w7_13,.tok [27] 1 9 w7_5] (Thn P K.bV3 (Blk 3 (Thn P K.bS7 (am1 2 (aA4 L p32 q3 q6 g3 d3 g6 d6 g7) (aN0 L p32 q3 q6 g3 d3 g6 d6 g7) (fun r=>ab1 L K.ad9.res [.agg (ac2 r)]) c)))):=by
 intro c h
 unfold aT7 at h
 refine y7 (aa1 (aa2 (o6 (s_fa rfl rfl) (o6 (s_fa rfl rfl) (o6 (ba2 (off:=42) (v:=.str q10.Sub.File) (a:=.lit (.string (bs q10.Sub.File))) rfl rfl (s10).toS rfl (fun _=>bt9)) (o6 (s_sne rfl rfl) (aa3 ?_)))))))
 refine y7 ?_
 by_cases h_67 : q10.Sub.File ≠ []
 ·replace h:=iteT h h_67
  refine g_cT rfl (decide_eq_true h_67) (aa2 (o6 (s_fa rfl rfl) (af5 (cR5 (off:=6) (v:=.sl 2 (q7.Files.map ah3)) rfl rfl s7 rfl) ?_)))
  rintro v_68 ⟨r_69,_⟩
  refine o6 (s_fa rfl rfl) (o6 (s_fa rfl rfl) (o6 (ba2 (off:=42) (v:=.str q10.Sub.File) (a:=.lit (.string (bs q10.Sub.File))) rfl rfl (s10).toS rfl (fun _=>bt9)) ?_))
  cases h
 ·replace h:=iteF h h_67
  refine g_cF rfl (decide_eq_false h_67) (ah1 (ak4 (y7 (aa2 (o6 (s_ib rfl rfl rfl) (o6 (s_mv rfl) (aa3 ?_)))))))
  obtain rfl:=Option.some.inj h
  exact fun T S hT hS=>⟨rfl,⟨d7,w7_5,w7_13,s7,f7_5,f7_13,hT.sub (subE.cons rfl (subE.cons rfl (subE.cons rfl (subE.cons rfl (subE.cons rfl (subE.nil _)))))),hS.sub (.cons (i:=0) rfl .rfl (.cons (i:=1) rfl .rfl (.cons (i:=2) rfl .rfl (.cons (i:=4) rfl .rfl (.cons (i:=5) rfl .rfl .nil))))) rfl⟩⟩
theorem b31 {P : Program} [hc : ae4 P] {L : Nat} (p32 : Int) (q3 : D.ai2) (q6 : D.aa9) {g3 : Nat} {d3 : List AV} {g6 : Nat} {d6 : List AV} {g7 : Nat} (s3 : ab7 (ax5 q3) d3) (s6 : ab7 (ac2 q6) d6) : ∀ (s : (Int × D.aa9)) (c : Ctl (Int × D.aa9) D.aa9 D.aa9),ax3 p32 q3 q6 s = some c → ∀ T S,aA4 L p32 q3 q6 g3 d3 g6 d6 g7 s T S → RunB P K.a13 T S (am1 2 (aA4 L p32 q3 q6 g3 d3 g6 d6 g7) (aN0 L p32 q3 q6 g3 d3 g6 d6 g7) (fun r=>ab1 L K.ad9.res [.agg (ac2 r)]) c):=by
 rintro ⟨p33,q7⟩ c h T S ⟨d7,w7_5,w7_13,s7,f7_5,f7_13,hT,hS⟩
 unfold ax3 at h
 refine (show GC P K.a13 L F.ad9 [(3,.ptr ⟨L + 1,3,0⟩ g3 0 0),(6,.ptr ⟨L + 1,6,0⟩ g6 0 0),(7,.ptr ⟨L + 1,7,0⟩ g7 0 0),(32,.lit (.int .i64 p32)),(33,.lit (.int .i64 p33))] [.obj 3 g3 30 d3,.obj 6 g6 43 d6,.obj 7 g7 43 d7,.tok [71] 1 3 w7_13,.tok [27] 1 9 w7_5] (am1 2 (aA4 L p32 q3 q6 g3 d3 g6 d6 g7) (aN0 L p32 q3 q6 g3 d3 g6 d6 g7) (fun r=>ab1 L K.ad9.res [.agg (ac2 r)]) c) from ?_) T S hT hS
 refine aa1 (aa2 (o6 (s_ib rfl rfl rfl) (aa3 (y7 (aa1 ?_)))))
 by_cases h_47 : p33 < p32
 ·replace h:=iteT h h_47
  refine g_cT rfl (decide_eq_true h_47) (ah1 (y7 (aa1 (ag3 (aa1 (aa2 (o6 (s_mv rfl) ?_)))))))
  refine o6 (s_mv rfl) (aa3 (y7 (aa1 (aa2 (o6 (s_fa rfl rfl) (af5 (cJ3 (off:=1) (v:=.sl 50 (q3.Ops.map ax6)) rfl rfl s3 rfl) ?_))))))
  rintro v_48 r_49
  refine o6 (s_mv rfl) ?_
  obtain ⟨x_53,e_54,h⟩:=ac8 h
  refine af5 (s_ia (c:=ax6) rfl r_49.toS rfl e_54) ?_
  rintro _ ⟨c_51,rfl,r_52⟩
  refine af5 (b66 rfl r_52) ?_
  rintro _ ⟨c_55,rfl,r_56⟩
  refine af5 (b90 (N:=bp7 x_53.Command) rfl r_56 rfl rfl) ?_
  rintro _ ⟨c_57,rfl,r_58⟩
  refine g_al rfl fun g_59=>?_
  refine bV8 (Xs:=bp7 x_53.Command) (M':=bp7 x_53.Command) rfl rfl rfl rfl cU9 r_58 rfl rfl rfl fun d_60 s_61 q_62=>?_
  refine aa3 (y7 (aa1 (aa1 (aa2 (o6 (s_fa rfl rfl) (o6 (ba2 (off:=26) (v:=.int .u8 x_53.Command.Name) (a:=.lit (.int .u8 x_53.Command.Name)) rfl rfl (s_61).toS rfl (fun _=>bt8)) (o6 (s_ib rfl rfl rfl) ?_)))))))
  refine aa3 (y7 ?_)
  by_cases h_63 : x_53.Command.Name = 119
  ·replace h:=iteT h h_63
   refine g_cT rfl (decide_eq_true h_63) (aa2 (o6 (s_fa rfl rfl) (af5 (cR5 (off:=6) (v:=.sl 2 (q7.Files.map ah3)) rfl rfl s7 rfl) ?_)))
   rintro v_64 ⟨r_65,_⟩
   refine o6 (s_fa rfl rfl) (o6 (ba2 (off:=27) (v:=.str x_53.Command.Arg) (a:=.lit (.string (bs x_53.Command.Arg))) rfl rfl (s_61).toS rfl (fun _=>bt9)) ?_)
   cases h
  ·replace h:=iteF h h_63
   refine g_cF rfl (decide_eq_false h_63) (ah1 ?_)
   exact co6 (subE.cons rfl (subE.cons rfl (subE.cons rfl (subE.cons rfl (subE.cons rfl (subE.cons rfl (subE.nil _))))))) (.cons (i:=0) rfl .rfl (.cons (i:=1) rfl .rfl (.cons (i:=2) rfl .rfl (.cons (i:=5) rfl .rfl (.cons (i:=3) rfl .rfl (.cons (i:=4) rfl .rfl .nil)))))) rfl (b03 p32 p33 q3 q6 q7 x_53.Command (g3:=g3) (d3:=d3) (g6:=g6) (d6:=d6) (g7:=g7) (d7:=d7) (w7_5:=w7_5) (w7_13:=w7_13) (g10:=g_59) (d10:=d_60) s3 s6 s7 f7_5 f7_13 s_61 _ h)
 ·replace h:=iteF h h_47
  refine g_cF rfl (decide_eq_false h_47) (aA5 (aA3 ?_))
  obtain rfl:=Option.some.inj h
  exact fun T S hT hS=>⟨rfl,⟨d7,w7_5,w7_13,s7,f7_5,f7_13,hT.sub (subE.cons rfl (subE.cons rfl (subE.cons rfl (subE.nil _)))),hS.sub (.cons (i:=0) rfl .rfl (.cons (i:=1) rfl .rfl (.cons (i:=2) rfl .rfl (.cons (i:=3) rfl .rfl (.cons (i:=4) rfl .rfl .nil))))) rfl⟩⟩
def aM4 (L : Nat) (p64 : Int) (q6 : D.aa9) (g6 : Nat) (d6 : List AV) (g7 : Nat)  : (Int × D.aa9) → BT → AS → Prop:=fun (p65,q7) T S=>∃ (d7 : List AV) (w7_5 : AV) (w7_13 : AV),aq5 (L + 1) (ac2 q7) d7 ∧ d7[5]? = some w7_5 ∧ d7[13]? = some w7_13 ∧ Ag [(6,.ptr ⟨L + 1,6,0⟩ g6 0 0),(7,.ptr ⟨L + 1,7,0⟩ g7 0 0),(64,.lit (.int .i64 p64)),(65,.lit (.int .i64 p65))] T ∧ StA S L F.ad9 [.obj 6 g6 43 d6,.obj 7 g7 43 d7,.tok [71] 1 3 w7_13,.tok [27] 1 9 w7_5]
def aW2 (L : Nat) (p64 : Int) (q6 : D.aa9) (g6 : Nat) (d6 : List AV) (g7 : Nat)  : D.aa9 → BT → AS → Prop:=fun q7 T S=>∃ (d7 : List AV) (w7_5 : AV) (w7_13 : AV),aq5 (L + 1) (ac2 q7) d7 ∧ d7[5]? = some w7_5 ∧ d7[13]? = some w7_13 ∧ Ag [(6,.ptr ⟨L + 1,6,0⟩ g6 0 0),(7,.ptr ⟨L + 1,7,0⟩ g7 0 0)] T ∧ StA S L F.ad9 [.obj 6 g6 43 d6,.obj 7 g7 43 d7,.tok [71] 1 3 w7_13,.tok [27] 1 9 w7_5]
theorem bY9 {P : Program} [hc : ae4 P] {L : Nat} (p64 : Int) (q6 : D.aa9) {g6 : Nat} {d6 : List AV} {g7 : Nat} (s6 : ab7 (ac2 q6) d6) : ∀ (s : (Int × D.aa9)) (c : Ctl (Int × D.aa9) D.aa9 D.aa9),aU5 p64 q6 s = some c → ∀ T S,aM4 L p64 q6 g6 d6 g7 s T S → RunB P K.a18 T S (am1 4 (aM4 L p64 q6 g6 d6 g7) (aW2 L p64 q6 g6 d6 g7) (fun r=>ab1 L K.ad9.res [.agg (ac2 r)]) c):=by
 rintro ⟨p65,q7⟩ c h T S ⟨d7,w7_5,w7_13,s7,f7_5,f7_13,hT,hS⟩
 unfold aU5 at h
 refine (show GC P K.a18 L F.ad9 [(6,.ptr ⟨L + 1,6,0⟩ g6 0 0),(7,.ptr ⟨L + 1,7,0⟩ g7 0 0),(64,.lit (.int .i64 p64)),(65,.lit (.int .i64 p65))] [.obj 6 g6 43 d6,.obj 7 g7 43 d7,.tok [71] 1 3 w7_13,.tok [27] 1 9 w7_5] (am1 4 (aM4 L p64 q6 g6 d6 g7) (aW2 L p64 q6 g6 d6 g7) (fun r=>ab1 L K.ad9.res [.agg (ac2 r)]) c) from ?_) T S hT hS
 refine aa1 (aa2 (o6 (s_ib rfl rfl rfl) (aa3 (y7 (aa1 ?_)))))
 by_cases h_74 : p65 < p64
 ·replace h:=iteT h h_74
  refine g_cT rfl (decide_eq_true h_74) (ah1 (y7 (aa1 (ag3 (aa2 (o6 (s_fa rfl rfl) (o6 (s_fa rfl rfl) ?_)))))))
  refine af5 (cR5 (off:=13) (v:=.sl 1 (q7.S.Ranges.map (ah4 .i64))) rfl rfl s7 rfl) ?_
  rintro v_75 ⟨r_76,f_77⟩
  obtain rfl : w7_13 = v_75:=Option.some.inj (f7_13.symm.trans f_77)
  refine af5 (cl0 (es':=List.map (ah4 .i64) [0]) rfl (.cons (Xs:=[.int .i64 0]) rfl (b29 _ _) rfl .nil) rfl) ?_
  rintro v_78 ⟨r_79,k_80⟩
  obtain ⟨x_81,e_82,h⟩:=ac8 h
  refine cI3 (i:=2) (c:=(ah4 .i64)) rfl rfl rfl rfl r_76 r_79 rfl rfl e_82 fun v_83 r_84=>?_
  refine o6 (s_fa rfl rfl) (o6 (s_fa rfl rfl) ?_)
  refine g_st (Xs:=[.sl 1 (x_81.map (ah4 .i64))]) (M':=ac2 { q7 with S:={ q7.S with Ranges:=x_81 } }) rfl rfl rfl rfl s7 (relSL1 r_84) rfl rfl rfl fun d_85 s_86 q_87=>?_
  have f_88 : d_85[5]? = some w7_5:=by rw [q_87]; exact cc0 f7_5
  have f_89 : d_85[13]? = some v_83:=by rw [q_87]; exact cs8 r_84.cells (by rw [s7.length]; exact of_blt rfl)
  refine aa3 (ak4 (y7 (aa2 (o6 (s_ib rfl rfl rfl) (o6 (s_mv rfl) (aa3 ?_))))))
  obtain rfl:=Option.some.inj h
  exact fun T S hT hS=>⟨rfl,⟨d_85,w7_5,v_83,s_86,f_88,f_89,hT.sub (subE.cons rfl (subE.cons rfl (subE.cons rfl (subE.cons rfl (subE.nil _))))),hS.sub (.cons (i:=0) rfl .rfl (.cons (i:=1) rfl .rfl (.cons (i:=2) rfl .rfl (.cons (i:=3) rfl .rfl .nil)))) rfl⟩⟩
 ·replace h:=iteF h h_74
  refine g_cF rfl (decide_eq_false h_74) (aA5 (aA3 ?_))
  obtain rfl:=Option.some.inj h
  exact fun T S hT hS=>⟨rfl,⟨d7,w7_5,w7_13,s7,f7_5,f7_13,hT.sub (subE.cons rfl (subE.cons rfl (subE.nil _))),hS.sub (.cons (i:=0) rfl .rfl (.cons (i:=1) rfl .rfl (.cons (i:=2) rfl .rfl (.cons (i:=3) rfl .rfl .nil)))) rfl⟩⟩
theorem cq0 {P : Program} [hc : ae4 P] : S.ad9 P (ad9):=by
 intro a0 a1 a2 r h k0 args ha
 refine al5 (b:=K.ad9) rfl hc.ad9 (fun _=>rfl) rfl rfl ?_ ha
 rintro L _ ⟨_,_,rfl,⟨ac0,rfl,ar0⟩,av1,_,rfl,ar1,av2,_,rfl,ar2,rfl⟩
 unfold ad9 at h
 show GC P _ L F.ad9 [(0,.agg ac0),(1,av1),(2,av2)] [] (ab1 L K.ad9.res [.agg (ac2 r)])
 refine aa1 (aa2 ?_)
 refine g_bx rfl rfl rfl fun g_1=>?_
 refine g_al rfl fun g_2=>?_
 refine aa3 (y7 (aa1 (au7 (af5 (ci5 (off:=0) (N:=ax5 a0) rfl rfl ar0 rfl rfl) ?_))))
 rintro _ ⟨c_3,rfl,r_4⟩
 refine o6 (s_mv rfl) ?_
 obtain ⟨x_5,e_6,h⟩:=ac8 h
 refine af5 (bI8 (rs:=[.sl 2 (a2.map ah3)]) (fun _=>rfl) rfl (RVL.toN (L:=L + 1) ⟨_,_,rfl,ar2.toS,rfl⟩) ((cs6) _ _ e_6 (L + 1) _)) ?_
 rintro v_7 r_8
 replace r_8:=ResC.one r_8
 refine af5 (s_bdC (M':=ac2 (D.aa9.mk a0 [] x_5 [] (D.al8.mk 0 [] [] false 0 [] [] false))) aN8 (.cons (Xs:=ax5 a0) rfl r_4 rfl rfl (.cons (Xs:=[.sl 2 (x_5.map ah3)]) rfl (relCL1 r_8) rfl rfl (.nil _))) rfl) ?_
 rintro _ ⟨c_9,rfl,r_10,kf_11⟩
 refine g_al rfl fun g_12=>?_
 refine g_add (ks:=[27]) (n:=1) (e:=9) (x:=(.lit (.slice none 0 0))) (.inl ⟨_,rfl⟩) (g_add (ks:=[71]) (n:=1) (e:=3) (x:=(.lit (.slice none 0 0))) (.inl ⟨_,rfl⟩) ?_)
 refine bV8 (Xs:=ac2 (D.aa9.mk a0 [] x_5 [] (D.al8.mk 0 [] [] false 0 [] [] false))) (M':=ac2 (D.aa9.mk a0 [] x_5 [] (D.al8.mk 0 [] [] false 0 [] [] false))) rfl rfl rfl rfl aN8 r_10 rfl rfl rfl fun d_15 s_16 q_17=>?_
 have f_18 : d_15[5]? = some ((((.lit (.slice none 0 0))))):=by rw [q_17]; exact co2 (off:=0) (j:=5) (kf_11 5 rfl) (Nat.zero_le _)
 have f_19 : d_15[13]? = some (((((.lit (.slice none 0 0)))))):=by rw [q_17]; exact co2 (off:=0) (j:=13) (kf_11 13 rfl) (Nat.zero_le _)
 refine aC8 rfl (y7 (aa1 (aa1 (aa2 (o6 (s_mv rfl) (o6 (ba7 (c:=aa6) rfl ar1) (o6 (s_mv rfl) ?_)))))))
 refine aa3 (y7 (ag3 ?_))
 obtain ⟨o_41,e_42,h⟩:=ac8 h
 refine aA8 (IN:=aM6 L a1 (a1.length : Int) a0 (D.aa9.mk (D.ai2.mk false [] [] [] 0) [] [] [] (D.al8.mk 0 [] [] false 0 [] [] false)) av1 g_1 ac0 g_2 [.lit (.bool false),.lit (.slice none 0 0),.lit (.slice none 0 0),.lit (.slice none 0 0),.lit (.int .i64 0),.lit (.slice none 0 0),.lit (.slice none 0 0),.lit (.string (bs [])),.lit (.int .i64 0),.lit (.string (bs [])),.lit (.string (bs [])),.lit (.bool false),.lit (.int .i64 0),.lit (.slice none 0 0),.lit (.slice none 0 0),.lit (.bool false)] g_12) (IB:=aV7 L a1 (a1.length : Int) a0 (D.aa9.mk (D.ai2.mk false [] [] [] 0) [] [] [] (D.al8.mk 0 [] [] false 0 [] [] false)) av1 g_1 ac0 g_2 [.lit (.bool false),.lit (.slice none 0 0),.lit (.slice none 0 0),.lit (.slice none 0 0),.lit (.int .i64 0),.lit (.slice none 0 0),.lit (.slice none 0 0),.lit (.string (bs [])),.lit (.int .i64 0),.lit (.string (bs [])),.lit (.string (bs [])),.lit (.bool false),.lit (.int .i64 0),.lit (.slice none 0 0),.lit (.slice none 0 0),.lit (.bool false)] g_12) (IR:=fun r=>ab1 L K.ad9.res [.agg (ac2 r)]) e_42 (b53 a1 (a1.length : Int) a0 (D.aa9.mk (D.ai2.mk false [] [] [] 0) [] [] [] (D.al8.mk 0 [] [] false 0 [] [] false)) (v1:=av1) (g3:=g_1) (d3:=ac0) (g6:=g_2) (d6:=[.lit (.bool false),.lit (.slice none 0 0),.lit (.slice none 0 0),.lit (.slice none 0 0),.lit (.int .i64 0),.lit (.slice none 0 0),.lit (.slice none 0 0),.lit (.string (bs [])),.lit (.int .i64 0),.lit (.string (bs [])),.lit (.string (bs [])),.lit (.bool false),.lit (.int .i64 0),.lit (.slice none 0 0),.lit (.slice none 0 0),.lit (.bool false)]) (g7:=g_12) ar1 ar0 aN8) (fun T S hT hS=>⟨d_15,((((.lit (.slice none 0 0))))),(((((.lit (.slice none 0 0)))))),s_16.toS,f_18,f_19,hT.sub (subE.cons rfl (subE.cons rfl (subE.cons rfl (subE.cons rfl (subE.cons rfl (subE.cons rfl (subE.nil _))))))),hS.sub (.cons (i:=2) rfl .rfl (.cons (i:=3) rfl .rfl (.cons (i:=4) rfl .rfl (.cons (i:=0) rfl .rfl (.cons (i:=1) rfl .rfl .nil))))) rfl⟩) ?_
 rintro x T S hO
 cases o_41 with
 | brk q7b_43 =>
  obtain ⟨rfl,d7b_43,w7_5b_43,w7_13b_43,s7b_43,f7_5b_43,f7_13b_43,hT,hS⟩:=hO
  refine (show G (.exit 0) L F.ad9 [(3,.ptr ⟨L + 1,3,0⟩ g_1 0 0),(6,.ptr ⟨L + 1,6,0⟩ g_2 0 0),(7,.ptr ⟨L + 1,7,0⟩ g_12 0 0)] [.obj 3 g_1 30 ac0,.obj 6 g_2 43 [.lit (.bool false),.lit (.slice none 0 0),.lit (.slice none 0 0),.lit (.slice none 0 0),.lit (.int .i64 0),.lit (.slice none 0 0),.lit (.slice none 0 0),.lit (.string (bs [])),.lit (.int .i64 0),.lit (.string (bs [])),.lit (.string (bs [])),.lit (.bool false),.lit (.int .i64 0),.lit (.slice none 0 0),.lit (.slice none 0 0),.lit (.bool false)],.obj 7 g_12 43 d7b_43,.tok [71] 1 3 w7_13b_43,.tok [27] 1 9 w7_5b_43] (Blk 0 (Thn P K.bL7 (ab1 L K.ad9.res [.agg (ac2 r)]))) from ?_) T S hT hS
  refine ay3 (y7 (aa1 (aa1 (aa2 (o6 (s_fa rfl rfl) (af5 (cJ3 (off:=1) (v:=.sl 50 (a0.Ops.map ax6)) rfl rfl ar0 rfl) ?_))))))
  rintro v_44 r_45
  refine o6 (ba7 (c:=ax6) rfl r_45) (o6 (s_mv rfl) (aa3 (y7 (ag3 ?_))))
  obtain ⟨o_71,e_72,h⟩:=ac8 h
  refine aA8 (IN:=aA4 L (a0.Ops.length : Int) a0 (D.aa9.mk (D.ai2.mk false [] [] [] 0) [] [] [] (D.al8.mk 0 [] [] false 0 [] [] false)) g_1 ac0 g_2 [.lit (.bool false),.lit (.slice none 0 0),.lit (.slice none 0 0),.lit (.slice none 0 0),.lit (.int .i64 0),.lit (.slice none 0 0),.lit (.slice none 0 0),.lit (.string (bs [])),.lit (.int .i64 0),.lit (.string (bs [])),.lit (.string (bs [])),.lit (.bool false),.lit (.int .i64 0),.lit (.slice none 0 0),.lit (.slice none 0 0),.lit (.bool false)] g_12) (IB:=aN0 L (a0.Ops.length : Int) a0 (D.aa9.mk (D.ai2.mk false [] [] [] 0) [] [] [] (D.al8.mk 0 [] [] false 0 [] [] false)) g_1 ac0 g_2 [.lit (.bool false),.lit (.slice none 0 0),.lit (.slice none 0 0),.lit (.slice none 0 0),.lit (.int .i64 0),.lit (.slice none 0 0),.lit (.slice none 0 0),.lit (.string (bs [])),.lit (.int .i64 0),.lit (.string (bs [])),.lit (.string (bs [])),.lit (.bool false),.lit (.int .i64 0),.lit (.slice none 0 0),.lit (.slice none 0 0),.lit (.bool false)] g_12) (IR:=fun r=>ab1 L K.ad9.res [.agg (ac2 r)]) e_72 (b31 (a0.Ops.length : Int) a0 (D.aa9.mk (D.ai2.mk false [] [] [] 0) [] [] [] (D.al8.mk 0 [] [] false 0 [] [] false)) (g3:=g_1) (d3:=ac0) (g6:=g_2) (d6:=[.lit (.bool false),.lit (.slice none 0 0),.lit (.slice none 0 0),.lit (.slice none 0 0),.lit (.int .i64 0),.lit (.slice none 0 0),.lit (.slice none 0 0),.lit (.string (bs [])),.lit (.int .i64 0),.lit (.string (bs [])),.lit (.string (bs [])),.lit (.bool false),.lit (.int .i64 0),.lit (.slice none 0 0),.lit (.slice none 0 0),.lit (.bool false)]) (g7:=g_12) ar0 aN8) (fun T S hT hS=>⟨d7b_43,w7_5b_43,w7_13b_43,s7b_43,f7_5b_43,f7_13b_43,hT.sub (subE.cons rfl (subE.cons rfl (subE.cons rfl (subE.cons rfl (subE.cons rfl (subE.nil _)))))),hS.sub (.cons (i:=0) rfl .rfl (.cons (i:=1) rfl .rfl (.cons (i:=2) rfl .rfl (.cons (i:=3) rfl .rfl (.cons (i:=4) rfl .rfl .nil))))) rfl⟩) ?_
  rintro x T S hO
  cases o_71 with
  | brk q7b_73 =>
   obtain ⟨rfl,d7b_73,w7_5b_73,w7_13b_73,s7b_73,f7_5b_73,f7_13b_73,hT,hS⟩:=hO
   refine (show G (.exit 2) L F.ad9 [(3,.ptr ⟨L + 1,3,0⟩ g_1 0 0),(6,.ptr ⟨L + 1,6,0⟩ g_2 0 0),(7,.ptr ⟨L + 1,7,0⟩ g_12 0 0)] [.obj 3 g_1 30 ac0,.obj 6 g_2 43 [.lit (.bool false),.lit (.slice none 0 0),.lit (.slice none 0 0),.lit (.slice none 0 0),.lit (.int .i64 0),.lit (.slice none 0 0),.lit (.slice none 0 0),.lit (.string (bs [])),.lit (.int .i64 0),.lit (.string (bs [])),.lit (.string (bs [])),.lit (.bool false),.lit (.int .i64 0),.lit (.slice none 0 0),.lit (.slice none 0 0),.lit (.bool false)],.obj 7 g_12 43 d7b_73,.tok [71] 1 3 w7_13b_73,.tok [27] 1 9 w7_5b_73] (Blk 2 (Thn P K.bH2 (ab1 L K.ad9.res [.agg (ac2 r)]))) from ?_) T S hT hS
   refine ay3 (y7 (aa1 (aa1 (aa2 (o6 (s_fa rfl rfl) (o6 (ba2 (off:=4) (v:=.int .i64 a0.Ranges) (a:=.lit (.int .i64 a0.Ranges)) rfl rfl (ar0).toS rfl (fun _=>bt8)) (o6 (s_mv rfl) ?_)))))))
   refine aa3 (y7 (ag3 ?_))
   obtain ⟨o_90,e_91,h⟩:=ac8 h
   refine aA8 (IN:=aM4 L a0.Ranges (D.aa9.mk (D.ai2.mk false [] [] [] 0) [] [] [] (D.al8.mk 0 [] [] false 0 [] [] false)) g_2 [.lit (.bool false),.lit (.slice none 0 0),.lit (.slice none 0 0),.lit (.slice none 0 0),.lit (.int .i64 0),.lit (.slice none 0 0),.lit (.slice none 0 0),.lit (.string (bs [])),.lit (.int .i64 0),.lit (.string (bs [])),.lit (.string (bs [])),.lit (.bool false),.lit (.int .i64 0),.lit (.slice none 0 0),.lit (.slice none 0 0),.lit (.bool false)] g_12) (IB:=aW2 L a0.Ranges (D.aa9.mk (D.ai2.mk false [] [] [] 0) [] [] [] (D.al8.mk 0 [] [] false 0 [] [] false)) g_2 [.lit (.bool false),.lit (.slice none 0 0),.lit (.slice none 0 0),.lit (.slice none 0 0),.lit (.int .i64 0),.lit (.slice none 0 0),.lit (.slice none 0 0),.lit (.string (bs [])),.lit (.int .i64 0),.lit (.string (bs [])),.lit (.string (bs [])),.lit (.bool false),.lit (.int .i64 0),.lit (.slice none 0 0),.lit (.slice none 0 0),.lit (.bool false)] g_12) (IR:=fun r=>ab1 L K.ad9.res [.agg (ac2 r)]) e_91 (bY9 a0.Ranges (D.aa9.mk (D.ai2.mk false [] [] [] 0) [] [] [] (D.al8.mk 0 [] [] false 0 [] [] false)) (g6:=g_2) (d6:=[.lit (.bool false),.lit (.slice none 0 0),.lit (.slice none 0 0),.lit (.slice none 0 0),.lit (.int .i64 0),.lit (.slice none 0 0),.lit (.slice none 0 0),.lit (.string (bs [])),.lit (.int .i64 0),.lit (.string (bs [])),.lit (.string (bs [])),.lit (.bool false),.lit (.int .i64 0),.lit (.slice none 0 0),.lit (.slice none 0 0),.lit (.bool false)]) (g7:=g_12) aN8) (fun T S hT hS=>⟨d7b_73,w7_5b_73,w7_13b_73,s7b_73,f7_5b_73,f7_13b_73,hT.sub (subE.cons rfl (subE.cons rfl (subE.cons rfl (subE.cons rfl (subE.nil _))))),hS.sub (.cons (i:=1) rfl .rfl (.cons (i:=2) rfl .rfl (.cons (i:=3) rfl .rfl (.cons (i:=4) rfl .rfl .nil)))) rfl⟩) ?_
   rintro x T S hO
   cases o_90 with
   | brk q7b_92 =>
    obtain ⟨rfl,d7b_92,w7_5b_92,w7_13b_92,s7b_92,f7_5b_92,f7_13b_92,hT,hS⟩:=hO
    refine (show G (.exit 4) L F.ad9 [(6,.ptr ⟨L + 1,6,0⟩ g_2 0 0),(7,.ptr ⟨L + 1,7,0⟩ g_12 0 0)] [.obj 6 g_2 43 [.lit (.bool false),.lit (.slice none 0 0),.lit (.slice none 0 0),.lit (.slice none 0 0),.lit (.int .i64 0),.lit (.slice none 0 0),.lit (.slice none 0 0),.lit (.string (bs [])),.lit (.int .i64 0),.lit (.string (bs [])),.lit (.string (bs [])),.lit (.bool false),.lit (.int .i64 0),.lit (.slice none 0 0),.lit (.slice none 0 0),.lit (.bool false)],.obj 7 g_12 43 d7b_92,.tok [71] 1 3 w7_13b_92,.tok [27] 1 9 w7_5b_92] (Blk 4 (Thn P K.bM3 (ab1 L K.ad9.res [.agg (ac2 r)]))) from ?_) T S hT hS
    refine ay3 (y7 (aa1 (aa2 (af5 (s_ldno (off:=0) (N:=ac2 q7b_92) rfl rfl s7b_92 rfl rfl) ?_))))
    rintro _ ⟨c_93,rfl,r_94,_⟩
    obtain ⟨x_95,e_96,h⟩:=ac8 h
    refine af5 (bI8 (rs:=[.agg (ac2 q7b_92)]) (fun _=>rfl) rfl (RVL.toN (L:=L + 1) ⟨_,_,rfl,⟨_,rfl,r_94⟩,rfl⟩) ((b60) _ _ e_96 (L + 1) _)) ?_
    rintro _ ⟨c_97,rfl,r_98⟩
    refine bV8 (Xs:=ac2 x_95) (M':=ac2 x_95) rfl rfl rfl rfl aN8 r_98 rfl rfl rfl fun d_99 s_100 q_101=>?_
    refine aa3 (y7 (ap6 ?_))
    obtain rfl:=Option.some.inj h
    exact ba8 (.cn rfl rfl s_100.toS rfl .nil)
   | ret r =>
    obtain rfl:=Option.some.inj h
    obtain ⟨rfl,hO⟩:=hO
    exact hO
  | ret r =>
   obtain rfl:=Option.some.inj h
   obtain ⟨rfl,hO⟩:=hO
   exact hO
 | ret r =>
  obtain rfl:=Option.some.inj h
  obtain ⟨rfl,hO⟩:=hO
  exact hO
end Go.Proofs.YtbinfgmdamlkbaaGreatDoor
