/-
  A part of the proof: packed by a program.
-/
import Derived.Test.YtdcfkmgnkhkoeaaGreatDoorQM2
import Derived.ChangeArms
import Derived.DataReads
import Derived.Deep.Slices
import Derived.MapKept
set_option maxRecDepth 100000
set_option maxHeartbeats 4000000
set_option linter.unusedVariables false
set_option linter.unusedSimpArgs false
namespace Go.Proofs.YtdcfkmgnkhkoeaaGreatDoor
open Go.RowKit Go.Deep
def slV (sz : Nat) : List (List AV) → Option (Option Addr) → AV
 | [],some a=>.lit (.slice a 0 0)
 | es,_=>.list .no sz es
theorem slV_cons {sz : Nat} {es : List (List AV)} {k : Option (Option Addr)} (h : es ≠ []) : slV sz es k = .list .no sz es:=by
 unfold slV
 split
 ·exact absurd rfl h
 ·rfl
theorem slV_none {sz : Nat} {es : List (List AV)} : slV sz es none = .list .no sz es:=by cases es <;> rfl
inductive Sh where
 | bool | int (k : IntKind) | str | seq (s : Sh) | nil | cons (s r : Sh)
def Sh.cells : Sh → Nat
 | .nil=>0
 | .cons s r=>s.cells + r.cells
 | _=>1
def Sh.Ty : Sh → Type
 | .bool=>Bool
 | .int _=>Int
 | .str=>List UInt8
 | .seq s=>List s.Ty × Option (Option Addr)
 | .nil=>Unit
 | .cons s r=>s.Ty × r.Ty
def Sh.avs : (s : Sh) → s.Ty → List AV
 | .bool,b=>[.lit (.bool b)]
 | .int k,n=>[.lit (.int k n)]
 | .str,l=>[.lit (.string (bs l))]
 | .seq s,x=>[slV s.cells (x.1.map s.avs) x.2]
 | .nil,_=>[]
 | .cons s r,x=>s.avs x.1 ++ r.avs x.2
def Sh.wf : (s : Sh) → s.Ty → Prop
 | .bool,_=>True
 | .int k,n=>(Lit.int k n).wf = true
 | .str,l=>l.length ≤ maxLen
 | .seq s,x=>x.1.length ≤ maxLen ∧ ∀ y ∈ x.1,s.wf y
 | .nil,_=>True
 | .cons s r,x=>s.wf x.1 ∧ r.wf x.2
mutual
def Sh.ok (P : Program) : Sh → TypeId → Bool
 | .bool,t=>(match P.underlying t with | some .bool=>true | _=>false)
 | .int k,t=>(match P.underlying t with | some (.int k')=>k' == k | _=>false)
 | .str,t=>(match P.underlying t with | some .string=>true | _=>false)
 | .seq s,t=>(match P.underlying t with | some (.slice e)=>s.ok P e && P.cellsOf e == s.cells && decide (0 < s.cells) | _=>false)
 | .nil,t=>(match P.underlying t with | some (.struct fs)=>fs.toList.isEmpty && P.cellsOf t == 0 | _=>false)
 | .cons s r,t=>(match P.underlying t with
  | some (.struct fs)=>(match fs.toList with
   | f :: l=>s.ok P f.type && P.cellsOf f.type == s.cells && f.offset == 0 && r.okF P l s.cells && P.cellsOf t == s.cells + r.cells
   | []=>false)
  | _=>false)
def Sh.okF (P : Program) : Sh → List Field → Nat → Bool
 | .nil,[],_=>true
 | .cons s r,f :: l,off=>s.ok P f.type && P.cellsOf f.type == s.cells && f.offset == off && r.okF P l (off + s.cells)
 | _,_,_=>false
end
theorem Sh.ba3 : (s : Sh) → (x : s.Ty) → (s.avs x).length = s.cells
 | .bool,_=>rfl
 | .int _,_=>rfl
 | .str,_=>rfl
 | .seq _,_=>rfl
 | .nil,_=>rfl
 | .cons s r,x=>by
  show (s.avs x.1 ++ r.avs x.2).length = s.cells + r.cells
  rw [List.length_append,s.ba3,r.ba3]
theorem cr8 {w : World} {a : Addr} {v : Value} (h : w.cell? a = some v) : ∃ b off,a = ⟨b,off,none⟩:=by
 obtain ⟨b,off,s⟩:=a
 cases s with
 | none=>exact ⟨b,off,rfl⟩
 | some s =>
  unfold World.cell? at h
  split at h
  ·simp at h
  ·cases h
section
variable {P : Program} {w : World} {H : Type} {enc : TypeId × Value → H} {held : Bool}
theorem bq7 {v : Value} : CRel (Gh.start w) [.lit v] [v]:=CRel.cons (.lit v) (CRel.nil _)
theorem pick_lt {α : Type} {n : Nat} {p : Nat → α → Prop} (h : ∀ i,i < n → ∃ x,p i x) : ∃ l : List α,l.length = n ∧ ∀ (i : Nat) x,l[i]? = some x → p i x:=by
 induction n with
 | zero=>exact ⟨[],rfl,fun i x hx=>by simp at hx⟩
 | succ n ih =>
  obtain ⟨l,hl,hp⟩:=ih fun i hi=>h i (by omega)
  obtain ⟨x,hx⟩:=h n (by omega)
  refine ⟨l ++ [x],by simp [hl],fun i y hy=>?_⟩
  by_cases hi : i < l.length
  ·rw [List.getElem?_append_left hi] at hy
   exact hp i y hy
  ·rw [List.getElem?_append_right (by omega)] at hy
   have : i - l.length = 0:=by
    have:=(List.getElem?_eq_some_iff.1 hy).1
    simp at this
    omega
   rw [this] at hy
   simp at hy
   subst hy
   obtain rfl : i = n:=by omega
   exact hx
mutual
theorem Sh.open : (s : Sh) → {t : TypeId} → {n : Nat} → {cs : List Value} → {x : DataW H × List MemPlace} → s.ok P t = true → DataW.trod enc P w 0 (fun _=>true) held n t cs = some x →
  ∃ y : s.Ty,CRel (Gh.start w) (s.avs y) cs ∧ s.wf y
 | .bool,t,n,cs,x,hs,h=>by
  unfold Sh.ok at hs
  split at hs
  ·rename_i hu
   obtain ⟨b,rfl,_⟩:=DataW.trod_bool hu h
   exact ⟨b,bq7,trivial⟩
  ·cases hs
 | .int k,t,n,cs,x,hs,h=>by
  unfold Sh.ok at hs
  split at hs
  ·rename_i hu
   obtain rfl:=eq_of_beq hs
   obtain ⟨b,rfl,_,hw⟩:=DataW.trod_int hu h
   exact ⟨b,bq7,hw⟩
  ·cases hs
 | .str,t,n,cs,x,hs,h=>by
  unfold Sh.ok at hs
  split at hs
  ·rename_i hu
   obtain ⟨b,rfl,_,hw⟩:=DataW.trod_string hu h
   refine ⟨toL b,?_,?_⟩
   ·show CRel _ [.lit (.string (bs (toL b)))] _
    rw [ca6]
    exact bq7
   ·show (toL b).length ≤ maxLen
    simpa [toL] using hw
  ·cases hs
 | .seq s,t,n,cs,x,hs,h=>by
  unfold Sh.ok at hs
  split at hs
  case h_2=>cases hs
  rename_i e hu
  simp only [Bool.and_eq_true,beq_iff_eq,decide_eq_true_eq] at hs
  obtain ⟨⟨hs,hc⟩,hpos⟩:=hs
  rcases open_slice hu h with ⟨h1,_⟩ | ⟨a,len,cap,m,n',D,Pl,h1,_,h3,h4,h5,_,h7⟩
  ·subst h1
   exact ⟨([],some none),bq7,Nat.zero_le _,fun y hy=>by cases hy⟩
  ·subst h1
   have hm : m = cap:=by rw [h5]; rfl
   subst hm
   rw [hc] at h7
   by_cases h0 : m = 0
   ·subst h0
    obtain rfl : len = 0:=by omega
    exact ⟨([],some (some a)),bq7,Nat.zero_le _,fun y hy=>by cases hy⟩
   ·obtain ⟨b,off,rfl⟩ : ∃ b off,a = ⟨b,off,none⟩:=by
     obtain ⟨cs',k1,_⟩:=h7 0 (by omega)
     obtain ⟨_,kl,k2⟩:=World.cells?_some k1
     have:=k2 0 hpos
     rw [List.getElem?_eq_getElem (by omega)] at this
     have e : (a.add (0 * s.cells)).add 0 = a:=by simp [Addr.add]
     rw [e] at this
     exact cr8 this
    obtain ⟨l,hl,hp⟩:=pick_lt (α:=s.Ty) (n:=len) (p:=fun i y=>∃ vs : List Value,CRel (Gh.start w) (s.avs y) vs ∧ s.wf y ∧ ∀ (j : Nat) v,vs[j]? = some v → w.cell? ⟨b,off + (i * s.cells + j),none⟩ = some v) fun i hi=>by
     obtain ⟨cs',k1,k2⟩:=h7 i (by omega)
     obtain ⟨y,k3,k4⟩:=s.open hs k2
     obtain ⟨_,kl,k5⟩:=World.cells?_some k1
     refine ⟨y,cs',k3,k4,fun j v hv=>?_⟩
     have hj : j < s.cells:=by rw [← kl]; exact (List.getElem?_eq_some_iff.1 hv).1
     have:=k5 j hj
     rw [hv,ah1,ah1] at this
     rw [← Nat.add_assoc]
     exact this
    refine ⟨(l,none),CRel.cons ?_ (CRel.nil _),?_,fun y hy=>?_⟩
    ·have hsl : slV s.cells (l.map s.avs) none = .list .no s.cells (l.map s.avs):=slV_none
     show VRel _ (slV s.cells (l.map s.avs) none) _
     rw [hsl]
     have hlm : (l.map s.avs).length = len:=by simp [hl]
     have:=VRel.list (G:=Gh.start w) .no s.cells (l.map s.avs) b off m (fun i j=>(w.cell? ⟨b,off + (i * s.cells + j),none⟩).getD undef) (by omega) h4 (fun e he=>by
      obtain ⟨y,_,rfl⟩:=List.mem_map.1 he
      exact s.ba3 y) (fun i j hi hj=>?_) (fun i j e a he ha=>?_) trivial
     ·rw [hlm] at this
      exact this
     ·rw [hlm] at hi
      obtain ⟨vs,q1,_,q3⟩:=hp i l[i] (List.getElem?_eq_getElem (by omega))
      have hlt : j < vs.length:=by rw [← q1.1,s.ba3]; exact hj
      have:=q3 j vs[j] (List.getElem?_eq_getElem hlt)
      show w.cell? _ = some ((w.cell? _).getD undef)
      rw [this]
      rfl
     ·rw [List.getElem?_map] at he
      obtain ⟨y,hy,rfl⟩:=Option.map_eq_some_iff.1 he
      obtain ⟨vs,q1,_,q3⟩:=hp i y hy
      obtain ⟨v,hv,hr⟩:=q1.get ha
      rw [q3 j v hv]
      exact hr
    ·show l.length ≤ maxLen
     omega
    ·obtain ⟨i,hi⟩:=List.getElem?_of_mem hy
     exact (hp i y hi).choose_spec.2.1
 | .nil,t,n,cs,x,hs,h=>by
  unfold Sh.ok at hs
  split at hs
  case h_2=>cases hs
  rename_i fs hu
  simp only [Bool.and_eq_true,beq_iff_eq] at hs
  obtain ⟨xs,n',_,_,hl,_⟩:=DataW.trod_struct hu h
  refine ⟨(),?_,trivial⟩
  obtain rfl : cs = []:=List.length_eq_zero_iff.1 (by omega)
  exact CRel.nil _
 | .cons s r,t,n,cs,x,hs,h=>by
  unfold Sh.ok at hs
  split at hs
  case h_2=>cases hs
  rename_i fs hu
  split at hs
  case h_2=>cases hs
  rename_i f l hfs
  simp only [Bool.and_eq_true,beq_iff_eq] at hs
  obtain ⟨⟨⟨⟨h1,h2⟩,h3⟩,h4⟩,h5⟩:=hs
  obtain ⟨xs,n',_,_,hl,hlen,hf⟩:=DataW.trod_struct hu h
  have hget : ∀ (i : Nat) g,(f :: l)[i]? = some g → ∃ z,DataW.trod enc P w 0 (fun _=>true) held n' g.type ((cs.drop g.offset).take (P.cellsOf g.type)) = some z:=by
   intro i g hg
   rw [← hfs] at hg
   have hg' : fs[i]? = some g:=by simpa using hg
   have hi : i < fs.size:=(Array.getElem?_eq_some_iff.1 hg').1
   refine ⟨xs[i]'(by omega),?_⟩
   rw [hf i g hg',List.getElem?_eq_getElem (by omega)]
  obtain ⟨z,hz⟩:=hget 0 f rfl
  rw [h3,h2,List.drop_zero] at hz
  obtain ⟨y,k1,k2⟩:=s.open h1 hz
  obtain ⟨y',k3,k4⟩:=r.openF (cs:=cs) h4 fun i g hg=>⟨n',hget (i + 1) g (by simpa using hg)⟩
  refine ⟨(y,y'),?_,k2,k4⟩
  have e : cs = cs.take s.cells ++ (cs.drop s.cells).take r.cells:=by
   rw [List.take_of_length_le (l:=cs.drop s.cells) (by simp; omega),List.take_append_drop]
  rw [e]
  exact k1.append k3
theorem Sh.openF : (s : Sh) → {l : List Field} → {off : Nat} → {cs : List Value} → s.okF P l off = true →
  (∀ (i : Nat) g,l[i]? = some g → ∃ n z,DataW.trod enc P w 0 (fun _=>true) held n g.type ((cs.drop g.offset).take (P.cellsOf g.type)) = some (z : DataW H × List MemPlace)) →
  ∃ y : s.Ty,CRel (Gh.start w) (s.avs y) ((cs.drop off).take s.cells) ∧ s.wf y
 | .nil,[],off,cs,_,_=>⟨(),by rw [show Sh.nil.cells = 0 from rfl,List.take_zero]; exact CRel.nil _,trivial⟩
 | .cons s r,f :: l,off,cs,hs,h=>by
  unfold Sh.okF at hs
  simp only [Bool.and_eq_true,beq_iff_eq] at hs
  obtain ⟨⟨⟨h1,h2⟩,h3⟩,h4⟩:=hs
  obtain ⟨n,z,hz⟩:=h 0 f rfl
  rw [h3,h2] at hz
  obtain ⟨y,k1,k2⟩:=s.open h1 hz
  obtain ⟨y',k3,k4⟩:=r.openF (cs:=cs) h4 fun i g hg=>h (i + 1) g (by simpa using hg)
  refine ⟨(y,y'),?_,k2,k4⟩
  have e : (cs.drop off).take (s.cells + r.cells) = (cs.drop off).take s.cells ++ (cs.drop (off + s.cells)).take r.cells:=by
   rw [List.take_add,List.drop_drop]
  show CRel _ (s.avs y ++ r.avs y') ((cs.drop off).take (s.cells + r.cells))
  rw [e]
  exact k1.append k3
 | .nil,_ :: _,_,_,hs,_=>by cases hs
 | .cons _ _,[],_,_,hs,_=>by cases hs
 | .bool,[],_,_,hs,_=>by cases hs
 | .bool,_ :: _,_,_,hs,_=>by cases hs
 | .int _,[],_,_,hs,_=>by cases hs
 | .int _,_ :: _,_,_,hs,_=>by cases hs
 | .str,[],_,_,hs,_=>by cases hs
 | .str,_ :: _,_,_,hs,_=>by cases hs
 | .seq _,[],_,_,hs,_=>by cases hs
 | .seq _,_ :: _,_,_,hs,_=>by cases hs
end
end
open Go.RowKit
section
variable {sz : Nat} {es : List (List AV)} {k : Option (Option Addr)} {S : AS}
theorem aH4 (sz : Nat) (es : List (List AV)) (k : Option (Option Addr)) : slV sz es k = .list .no sz es ∨ es = [] ∧ ∃ a,slV sz es k = .lit (.slice a 0 0):=by
 unfold slV
 split
 ·exact .inr ⟨rfl,_,rfl⟩
 ·exact .inl rfl
theorem llV_sl : llV (slV sz es k) = some (.lit (.int .i64 es.length)):=by
 rcases aH4 sz es k with h | ⟨rfl,a,h⟩ <;> rw [h] <;> rfl
theorem cA0 : al2 S sz (slV sz es k) = some es:=by
 rcases aH4 sz es k with h | ⟨rfl,a,h⟩ <;> rw [h]
 ·exact aK4 _ _ _
 ·rfl
theorem iaV_sl (kk : IntKind) (i : Int) (h : 0 ≤ i) (hi : i.toNat < es.length) : iaV sz (slV sz es k) (.lit (.int kk i)) = (es[i.toNat]?).map .cref:=by
 rw [slV_cons (by intro e; subst e; exact absurd hi (Nat.not_lt_zero _))]
 exact co4 _ _ _ _ _ h
theorem cells_sl : AV.cells (slV sz es k) = [slV sz es k]:=by
 rcases aH4 sz es k with h | ⟨rfl,a,h⟩ <;> rw [h] <;> rfl
theorem norm1_sl : AV.as6 (slV sz es k) = slV sz es k:=by
 rcases aH4 sz es k with h | ⟨rfl,a,h⟩ <;> rw [h] <;> rfl
theorem normA_sl : AV.ac1 (slV sz es k) = slV sz es k:=by
 rcases aH4 sz es k with h | ⟨rfl,a,h⟩ <;> rw [h] <;> rfl
theorem one_sl : AV.one (slV sz es k) = true:=by
 rcases aH4 sz es k with h | ⟨rfl,a,h⟩ <;> rw [h] <;> rfl
end
theorem bare_lvl : AS.bare.lvl = 0:=rfl
def cq7 : Option ab3 → Nat
 | none=>0
 | some s=>s.gen + 1
theorem fresh_of (S : AS) (p : Loc) : S.fresh p = cq7 (S.get p):=by
 unfold AS.fresh cq7
 split <;> simp_all
theorem ci9 : cq7 none = 0:=rfl
theorem cl0 (s : ab3) : cq7 (some s) = s.gen + 1:=rfl
def bD5 (g n : Nat) : Option ab3 → Option (List AV)
 | some (.obj g' _ cs)=>if g' = g ∧ n = 0 then some cs else none
 | some (.row g' n' _ _ cs)=>if g' = g ∧ n' = n then some cs else none
 | _=>none
theorem b57 (g : Nat) (t : TypeId) (cs : List AV) : bD5 g 0 (some (.obj g t cs)) = some cs:=by simp [bD5]
theorem b96 (g n sz : Nat) (t : TypeId) (cs : List AV) : bD5 g n (some (.row g n sz t cs)) = some cs:=by simp [bD5]
def ld1O (off : Nat) : Option (List AV) → Option AV
 | some cs=>(cs.drop off).head?
 | none=>none
theorem cA5 (off : Nat) (cs : List AV) : ld1O off (some cs) = (cs.drop off).head?:=rfl
theorem ld1V_ptr (S : AS) (p : Loc) (g n off : Nat) : ld1V S (.ptr p g n off) = ld1O off (bD5 g n (S.get p)):=by
 have : S.ai0 p g n = bD5 g n (S.get p):=rfl
 simp only [ld1V,bg7,this]
 cases bD5 g n (S.get p) <;> rfl
def ldnO (m off : Nat) : Option (List AV) → Option AV
 | some cs=>if m ≤ (cs.drop off).length then some (.agg ((cs.drop off).take m)) else none
 | none=>none
theorem cB5 (m off : Nat) (cs : List AV) (h : off + m ≤ cs.length) : ldnO m off (some cs) = some (.agg ((cs.drop off).take m)):=by
 unfold ldnO
 exact if_pos (by rw [List.length_drop]; omega)
theorem ldnV_ptr (S : AS) (m : Nat) (p : Loc) (g n off : Nat) : ldnV m S (.ptr p g n off) = ldnO m off (bD5 g n (S.get p)):=by
 have : S.ai0 p g n = bD5 g n (S.get p):=rfl
 simp only [ldnV,bg7,this]
 cases bD5 g n (S.get p) <;> rfl
def stO (p : Loc) (g n off : Nat) (xs : List AV) (o : Option ab3) : Option (Loc × ab3):=match bD5 g n o,o with
 | some cs,some s=>if off + xs.length ≤ cs.length ∧ xs.all AV.one = true then some (p,s.aF7 (splice cs off xs)) else none
 | _,_=>none
theorem stV_ptr (S : AS) (m : Nat) (xs : List AV) (p : Loc) (g n off : Nat) (h : xs.length = m) : stV m S xs (.ptr p g n off) = stO p g n off xs (S.get p):=by
 simp only [stV,AS.write]
 rw [if_pos h]
 rfl
theorem stO_obj (p : Loc) (g off : Nat) (xs : List AV) (t : TypeId) (cs : List AV) (h1 : off + xs.length ≤ cs.length) (h2 : xs.all AV.one = true) : stO p g 0 off xs (some (.obj g t cs)) = some (p,.obj g t (splice cs off xs)):=by
 simp only [stO,b57]
 rw [if_pos ⟨h1,h2⟩]
 rfl
theorem stO_row (p : Loc) (g n sz off : Nat) (xs : List AV) (t : TypeId) (cs : List AV) (h1 : off + xs.length ≤ cs.length) (h2 : xs.all AV.one = true) : stO p g n off xs (some (.row g n sz t cs)) = some (p,.row g n sz t (splice cs off xs)):=by
 simp only [stO,b96]
 rw [if_pos ⟨h1,h2⟩]
 rfl
theorem bbV_lit (ne a b : Bool) : bbV ne (.lit (.bool a)) (.lit (.bool b)) = some (.lit (.bool (decide (a = b) != ne))):=rfl
theorem toVL_nil : AV.toVL [] = some []:=rfl
theorem toVL_lit (v : Value) (r : List AV) : AV.toVL (.lit v :: r) = (AV.toVL r).map (v :: ·):=by
 show (match AV.toV (.lit v),AV.toVL r with | some a,some b=>some (a :: b) | _,_=>none) = _
 show (match some v,AV.toVL r with | some a,some b=>some (a :: b) | _,_=>none) = _
 cases AV.toVL r <;> rfl
theorem toV_agg (cs : List AV) : AV.toV (.agg cs) = (AV.toVL cs).map fun vs=>.agg vs.toArray:=rfl
attribute [-go_sem] bS0 ba9 bu8
attribute [go_sem] b57 b96 cA5 ld1V_ptr cB5 ldnV_ptr stV_ptr stO_obj stO_row bare_lvl bu6 fresh_of ci9 cl0 llV_sl cA0 iaV_sl cells_sl norm1_sl normA_sl one_sl bbV_lit toVL_nil toVL_lit toV_agg
open Go.RowKit
section
variable {l n : Nat} {S : AS}
theorem frz_lit (v : Value) : frz l S (n + 1) (.lit v) = some (.lit v):=ad1 rfl
theorem br1 : ∀ {n : Nat} {cs : List AV},AV.lvL l cs = true → cs.length < n → frzL l S n cs = some cs
 | 0,_,_,h=>absurd h (Nat.not_lt_zero _)
 | n + 1,[],_,_=>rfl
 | n + 1,a :: r,h,hn=>by
  simp only [AV.lvL,Bool.and_eq_true] at h
  simp only [List.length_cons] at hn
  have h1:=br1 (n:=n) (cs:=r) h.2 (by omega)
  obtain ⟨m,rfl⟩ : ∃ m,n = m + 1:=⟨n - 1,by omega⟩
  unfold frzL
  rw [ad1 h.1,h1]
theorem cI6 (cs : List AV) (hn : cs.length < n) : frz l S (n + 1) (.agg cs) = (frzL l S n cs).map .agg:=by
 conv=>lhs; unfold frz
 split
 ·rename_i h
  rw [br1 h hn]
  rfl
 ·rfl
theorem cy1 (cs : List AV) (hn : cs.length < n) : frz l S (n + 1) (.tup cs) = (frzL l S n cs).map .tup:=by
 conv=>lhs; unfold frz
 split
 ·rename_i h
  rw [br1 h hn]
  rfl
 ·rfl
theorem frz_cref (cs : List AV) (hn : cs.length < n) : frz l S (n + 1) (.cref cs) = (frzL l S n cs).map .cref:=by
 conv=>lhs; unfold frz
 split
 ·rename_i h
  rw [br1 h hn]
  rfl
 ·rfl
theorem cz2 (t : TypeId) (a : AV) : frz l S (n + 2) (.iface t a) = (frz l S (n + 1) a).map (.iface t):=by
 conv=>lhs; unfold frz
 split
 ·rename_i h
  have h' : a.lv l = true:=h
  rw [ad1 h']
  rfl
 ·rfl
def consK {α : Type} : Option α → Option (List α) → Option (List α)
 | some x,some y=>some (x :: y)
 | _,_=>none
theorem cr9 {α : Type} (x : α) (y : List α) : consK (some x) (some y) = some (x :: y):=rfl
theorem frzL_nil : frzL l S (n + 1) [] = some []:=rfl
theorem bG1 (a : AV) (r : List AV) : frzL l S (n + 1) (a :: r) = consK (frz l S n a) (frzL l S n r):=by
 conv=>lhs; unfold frzL
 unfold consK
 cases frz l S n a <;> cases frzL l S n r <;> rfl
theorem cv9 {es : List (List AV)} (h : AV.lvLL l es = true) : br5 l S (n + 1) es = some es:=by
 unfold br5
 cases es with
 | nil=>rfl
 | cons a r=>simp [h]
theorem cf1 (sz : Nat) (es : List (List AV)) (h : AV.lvLL l es = true) : frz l S (n + 1) (.list .no sz es) = some (.list .no sz es):=ad1 (by simp [AV.lv,ap1.lv,h])
theorem bS5 (sz : Nat) (es : List (List AV)) (h : AV.lvLL l es = true) : frz l S (n + 1) (.list .full sz es) = some (.list .full sz es):=ad1 (by simp [AV.lv,ap1.lv,h])
theorem bw2 (p : Loc) (g sz : Nat) (es : List (List AV)) (h : AV.lvLL l es = true) (hp : l < p.l) : frz l S (n + 2) (.list (.own p g) sz es) = some (.list .no sz es):=by
 conv=>lhs; unfold frz
 have : (AV.list (.own p g) sz es).lv l = false:=by simp [AV.lv,ap1.lv,Nat.not_le.2 hp]
 rw [this]
 simp only [Bool.false_eq_true,if_false]
 rw [cv9 h]
 have : (ap1.own p g).lv l = false:=by simp [ap1.lv,Nat.not_le.2 hp]
 rw [this]
 rfl
theorem lv_sl {sz : Nat} {es : List (List AV)} {k : Option (Option Addr)} (h : AV.lvLL l es = true) : AV.lv l (slV sz es k) = true:=by
 rcases aH4 sz es k with h' | ⟨rfl,a,h'⟩ <;> rw [h']
 ·simp [AV.lv,ap1.lv,h]
 ·rfl
theorem frz_sl (sz : Nat) (es : List (List AV)) (k : Option (Option Addr)) (h : AV.lvLL l es = true) : frz l S (n + 1) (slV sz es k) = some (slV sz es k):=ad1 (lv_sl h)
end
def bslK (lv : Bool) (p : Loc) (g : Nat) (e : TypeId) (n : Nat) (es : List (List AV)) : Option AR :=
 if es.all (fun x=>x.length == n) = true ∧ es.all (fun x=>x.all AV.one) = true then
  (if lv then some (.chg (.row .room p g es.length 0 es.length n) p (.row g es.length n e es.flatten)) else some (.val (.list .full n es))) else none
theorem bop_bsl [Cfg] {P : Program} {S : AS} {T : BT} (d0 : Nat) (e : TypeId) (n : Nat) (xs : List X) : bop P S T (some d0) (.bsl e n xs) = bslK (Cfg.live S.fn d0) (S.here d0) (S.fresh (S.here d0)) e n (xs.map fun x=>(x.at T).cells):=by
 simp only [bop,bslK,List.all_map,Function.comp_def,List.length_map,List.flatMap]
theorem cy5 (p : Loc) (g : Nat) (e : TypeId) (n : Nat) (es : List (List AV)) (h1 : es.all (fun x=>x.length == n) = true) (h2 : es.all (fun x=>x.all AV.one) = true) : bslK false p g e n es = some (.val (.list .full n es)):=by
 unfold bslK
 rw [if_pos ⟨h1,h2⟩]
 rfl
theorem cE7 (p : Loc) (g : Nat) (e : TypeId) (n : Nat) (es : List (List AV)) (h1 : es.all (fun x=>x.length == n) = true) (h2 : es.all (fun x=>x.all AV.one) = true) :
  bslK true p g e n es = some (.chg (.row .room p g es.length 0 es.length n) p (.row g es.length n e es.flatten)):=by
 unfold bslK
 rw [if_pos ⟨h1,h2⟩]
 rfl
def fillK (T : BT) (l : List (Nat × Nat × X)) (cs : List AV) (off size : Nat) (ys : List AV) : Option (List AV):=if ys.length = size ∧ off + size ≤ cs.length then aK6 T (splice cs off ys) l else none
theorem cv1 (T : BT) (cs : List AV) (off size : Nat) (x : X) (l : List (Nat × Nat × X)) : aK6 T cs ((off,size,x) :: l) = fillK T l cs off size (x.at T).cells:=by
 conv=>lhs; unfold aK6
 rfl
theorem fillK_ok (T : BT) (l : List (Nat × Nat × X)) (cs : List AV) (off size : Nat) (ys : List AV) (h : ys.length = size) (h2 : off + size ≤ cs.length) : fillK T l cs off size ys = aK6 T (splice cs off ys) l:=if_pos ⟨h,h2⟩
theorem cA2 (S : AS) (T : BT) (d : Option Nat) : BF.foot S T d .none = .none:=rfl
theorem foot_all (S : AS) (T : BT) (d : Option Nat) : BF.foot S T d .all = .all:=rfl
theorem cz6 (S : AS) (T : BT) (d : Nat) : BF.foot S T (some d) .here = .slots [S.here d]:=rfl
theorem foot_at (S : AS) (T : BT) (d : Option Nat) (x : X) : BF.foot S T d (.at x) = ae8 (x.at T):=rfl
theorem foot_app (S : AS) (T : BT) (d : Option Nat) (s x : X) : BF.foot S T d (.app s x) = aC9 S d [s.at T,x.at T]:=rfl
theorem cg7 (p : Loc) (g n o : Nat) : ae8 (.ptr p g n o) = .slots [p]:=rfl
theorem cd4 (p : Loc) (g : Nat) : ae8 (.mref p g) = .slots [p]:=rfl
theorem ck9 (r : Room) (p : Loc) (a b c d e : Nat) : ae8 (.row r p a b c d e) = .slots [p]:=rfl
theorem cj0 (v : Value) : ae8 (.lit v) = .none:=rfl
theorem ch7 (cs : List AV) : ae8 (.agg cs) = .none:=rfl
theorem b65 (cs : List AV) : ae8 (.cref cs) = .none:=rfl
theorem ct3 (sz : Nat) (es : List (List AV)) : ae8 (.list .no sz es) = .none:=rfl
theorem b85 (sz : Nat) (es : List (List AV)) : ae8 (.list .full sz es) = .none:=rfl
theorem ck6 (p : Loc) (g sz : Nat) (es : List (List AV)) : ae8 (.list (.own p g) sz es) = .slots [p]:=rfl
theorem cu5 (sz : Nat) (es : List (List AV)) (k : Option (Option Addr)) : ae8 (slV sz es k) = .none:=by
 rcases aH4 sz es k with h | ⟨rfl,a,h⟩ <;> rw [h] <;> rfl
theorem cA7 (a : FK) : a.with .none = a:=by cases a <;> rfl
theorem cv6 (a : FK) : FK.with .none a = a:=by cases a <;> rfl
theorem ct6 (a b : List Loc) : FK.with (.slots a) (.slots b) = .slots (a ++ b):=rfl
theorem cd6 (S : AS) (d : Option Tmp) (p : Loc) (g sz : Nat) (es : List (List AV)) (x : AV) : aC9 S d [.list (.own p g) sz es,x] = (FK.slots [p]).with (ae8 x):=rfl
theorem cb4 (S : AS) (d : Nat) (sz : Nat) (es : List (List AV)) (x : AV) : aC9 S (some d) [.list .full sz es,x] = (FK.slots [S.here d]).with (ae8 x):=rfl
theorem cu4 (S : AS) (d : Nat) (sz : Nat) (es : List (List AV)) (x : AV) : aC9 S (some d) [.list .no sz es,x] = (FK.slots [S.here d]).with (ae8 x):=rfl
theorem cg6 (S : AS) (d : Nat) (v : Value) (x : AV) : aC9 S (some d) [.lit v,x] = (FK.slots [S.here d]).with (ae8 x):=rfl
theorem b97 (S : AS) (d : Option Tmp) (p : Loc) (a b c e f : Nat) (x : AV) : aC9 S d [.row .room p a b c e f,x] = (FK.slots [p]).with (ae8 x):=rfl
attribute [go_sem] cA2 foot_all cz6 foot_at foot_app cg7 cd4 ck9 cj0 ch7 b65 ct3 b85 ck6 cu5 cA7 cv6 ct6 cd6 cb4 cu4 cg6 b97
attribute [-go_sem] bw1 br9
attribute [go_sem] cv1 fillK_ok bop_bsl cy5 cE7
attribute [go_sem] frz_lit cI6 cy1 frz_cref cz2 cr9 frzL_nil bG1 cf1 bS5 bw2 frz_sl
open Go.RowKit
theorem bC1 : ∀ {xs ys : List AV},AV.ac4 (xs ++ ys) = (AV.ac4 xs && AV.ac4 ys)
 | [],ys=>by simp [AV.ac4]
 | x :: r,ys=>by simp [AV.ac4,bC1 (xs:=r),Bool.and_assoc]
theorem ap1.av6 {sp : ap1} {l : Nat} (h : sp.closed = true) : sp.lv l = true:=by cases sp <;> first | rfl | cases h
mutual
theorem av6 : ∀ {a : AV},a.closed = true → ∀ l,a.lv l = true
 | .lit _,_,_=>rfl
 | .agg cs,h,l=>by simp only [AV.closed] at h; simp only [AV.lv]; exact aF0 h l
 | .tup cs,h,l=>by simp only [AV.closed] at h; simp only [AV.lv]; exact aF0 h l
 | .cref cs,h,l=>by simp only [AV.closed] at h; simp only [AV.lv]; exact aF0 h l
 | .fn _ cs,h,l=>by simp only [AV.closed] at h; simp only [AV.lv]; exact aF0 h l
 | .iface _ a,h,l=>by simp only [AV.closed] at h; simp only [AV.lv]; exact av6 h l
 | .list sp _ es,h,l=>by
  simp only [AV.closed,Bool.and_eq_true] at h
  simp only [AV.lv,Bool.and_eq_true]
  exact ⟨ap1.av6 h.1,aK7 h.2 l⟩
 | .ptr ..,h,_=>by cases h
 | .row ..,h,_=>by cases h
 | .mref ..,h,_=>by cases h
theorem aF0 : ∀ {cs : List AV},AV.ac4 cs = true → ∀ l,AV.lvL l cs = true
 | [],_,_=>rfl
 | a :: r,h,l=>by
  simp only [AV.ac4,Bool.and_eq_true] at h
  simp only [AV.lvL,Bool.and_eq_true]
  exact ⟨av6 h.1 l,aF0 h.2 l⟩
theorem aK7 : ∀ {es : List (List AV)},AV.ah3 es = true → ∀ l,AV.lvLL l es = true
 | [],_,_=>rfl
 | a :: r,h,l=>by
  simp only [AV.ah3,Bool.and_eq_true] at h
  simp only [AV.lvLL,Bool.and_eq_true]
  exact ⟨aF0 h.1 l,aK7 h.2 l⟩
end
inductive V where
 | int (k : IntKind) (n : Int)
 | bool (b : Bool)
 | str (l : List UInt8)
 | sl (sz : Nat) (es : List (List V))
 | nilp
 | ref (cs : List V)
 | nili
 | ifc (t : TypeId) (agg : Bool) (cs : List V)
 | nilf
 | fnv (f : FuncId) (cs : List V)
def fnC (f : FuncId) (ys : List AV) (a : AV) : Prop:=a = .fn f ys ∨ (ys = [] ∧ a = .lit (.func (.func f) #[] #[]))
mutual
def RelC : V → AV → Prop
 | .int k n,a=>a = .lit (.int k n)
 | .bool b,a=>a = .lit (.bool b)
 | .str l,a=>a = .lit (.string (bs l))
 | .sl sz es,a=>(es = [] ∧ ∃ p,a = .lit (.slice p 0 0)) ∨ ∃ sp ys,a = .list sp sz ys ∧ ap1.closed sp = true ∧ ab8 es ys
 | .nilp,a=>a = .lit (.pointer none)
 | .ref cs,a=>∃ ys zs,a = .cref (ys ++ zs) ∧ ab1 cs ys ∧ AV.ac4 zs = true
 | .nili,a=>a = .lit .nilIface
 | .ifc t b cs,a=>∃ ys,ab1 cs ys ∧ ((b = true ∧ a = .iface t (.agg ys)) ∨ (b = false ∧ ∃ y,ys = [y] ∧ a = .iface t y))
 | .nilf,a=>a = .lit .nilFunc
 | .fnv f cs,a=>∃ ys,ab1 cs ys ∧ fnC f ys a
def ab1 : List V → List AV → Prop
 | [],l=>l = []
 | v :: r,l=>∃ a t,l = a :: t ∧ RelC v a ∧ ab1 r t
def ab8 : List (List V) → List (List AV) → Prop
 | [],l=>l = []
 | v :: r,l=>∃ a t,l = a :: t ∧ ab1 v a ∧ ab8 r t
end
def ap1.at (L : Nat) (sp : ap1) : Prop:=sp.closed = true ∨ ∃ p g,sp = .own p g ∧ p.l = L
def RelS (L : Nat) : V → AV → Prop
 | .int k n,a=>a = .lit (.int k n)
 | .bool b,a=>a = .lit (.bool b)
 | .str l,a=>a = .lit (.string (bs l))
 | .sl sz es,a=>(es = [] ∧ ∃ p,a = .lit (.slice p 0 0)) ∨ ∃ sp ys,a = .list sp sz ys ∧ sp.at L ∧ ab8 es ys
 | .nilp,a=>a = .lit (.pointer none)
 | .ref cs,a=>∃ ys zs,a = .cref (ys ++ zs) ∧ ab1 cs ys ∧ AV.ac4 zs = true
 | .nili,a=>a = .lit .nilIface
 | .ifc t b cs,a=>∃ ys,ab1 cs ys ∧ ((b = true ∧ a = .iface t (.agg ys)) ∨ (b = false ∧ ∃ y,ys = [y] ∧ a = .iface t y))
 | .nilf,a=>a = .lit .nilFunc
 | .fnv f cs,a=>∃ ys,ab1 cs ys ∧ fnC f ys a
def aF4 (L : Nat) : List V → List AV → Prop
 | [],l=>l = []
 | v :: r,l=>∃ a t,l = a :: t ∧ RelS L v a ∧ aF4 L r t
theorem RelC.toS {L : Nat} {v : V} {a : AV} (h : RelC v a) : RelS L v a:=by
 cases v with
 | sl sz es =>
  unfold RelC at h
  rcases h with h | ⟨sp,ys,h,hc,h'⟩
  ·exact .inl h
  ·exact .inr ⟨sp,ys,h,.inl hc,h'⟩
 | _=>unfold RelC at h; exact h
theorem ab1.toS {L : Nat} : ∀ {vs : List V} {ys : List AV},ab1 vs ys → aF4 L vs ys
 | [],ys,h=>by unfold ab1 at h; exact h
 | v :: r,ys,h=>by
  unfold ab1 at h
  obtain ⟨a,t,rfl,h1,h2⟩:=h
  exact ⟨a,t,rfl,h1.toS,h2.toS⟩
mutual
theorem RelC.closed : ∀ {v : V} {a : AV},RelC v a → a.closed = true
 | .nilp,a,h=>by unfold RelC at h; subst h; rfl
 | .nili,a,h=>by unfold RelC at h; subst h; rfl
 | .ref cs,a,h=>by
  unfold RelC at h
  obtain ⟨ys,zs,rfl,h,hz⟩:=h
  simp [AV.closed,bC1,ab1.closed h,hz]
 | .nilf,a,h=>by unfold RelC at h; subst h; rfl
 | .fnv f cs,a,h=>by
  unfold RelC at h
  obtain ⟨ys,h,rfl | ⟨_,rfl⟩⟩:=h
  ·simp [AV.closed,ab1.closed h]
  ·rfl
 | .ifc t b cs,a,h=>by
  unfold RelC at h
  obtain ⟨ys,h,⟨_,rfl⟩ | ⟨_,y,rfl,rfl⟩⟩:=h
  ·simp [AV.closed,ab1.closed h]
  ·have:=ab1.closed h
   simp only [AV.ac4,Bool.and_true] at this
   simp [AV.closed,this]
 | .int _ _,a,h=>by unfold RelC at h; subst h; rfl
 | .bool _,a,h=>by unfold RelC at h; subst h; rfl
 | .str _,a,h=>by unfold RelC at h; subst h; rfl
 | .sl sz es,a,h=>by
  unfold RelC at h
  rcases h with ⟨_,p,rfl⟩ | ⟨sp,ys,rfl,h1,h2⟩
  ·rfl
  ·simp [AV.closed,h1,ab8.closed h2]
theorem ab1.closed : ∀ {vs : List V} {ys : List AV},ab1 vs ys → AV.ac4 ys = true
 | [],ys,h=>by unfold ab1 at h; subst h; rfl
 | v :: r,ys,h=>by
  unfold ab1 at h
  obtain ⟨a,t,rfl,h1,h2⟩:=h
  simp [AV.ac4,RelC.closed h1,ab1.closed h2]
theorem ab8.closed : ∀ {vs : List (List V)} {ys : List (List AV)},ab8 vs ys → AV.ah3 ys = true
 | [],ys,h=>by unfold ab8 at h; subst h; rfl
 | v :: r,ys,h=>by
  unfold ab8 at h
  obtain ⟨a,t,rfl,h1,h2⟩:=h
  simp [AV.ah3,ab1.closed h1,ab8.closed h2]
end
mutual
theorem RelC.lv : ∀ {v : V} {a : AV},RelC v a → ∀ l,a.lv l = true
 | .nilp,a,h,l=>by unfold RelC at h; subst h; rfl
 | .nili,a,h,l=>by unfold RelC at h; subst h; rfl
 | .ref cs,a,h,l=>av6 (RelC.closed h) l
 | .nilf,a,h,l=>av6 (RelC.closed h) l
 | .fnv f cs,a,h,l=>av6 (RelC.closed h) l
 | .ifc t b cs,a,h,l=>by
  unfold RelC at h
  obtain ⟨ys,h,⟨_,rfl⟩ | ⟨_,y,rfl,rfl⟩⟩:=h
  ·simp [AV.lv,ab1.lv h]
  ·have:=ab1.lv h l
   simp only [AV.lvL,Bool.and_true] at this
   simp [AV.lv,this]
 | .int _ _,a,h,l=>by unfold RelC at h; subst h; rfl
 | .bool _,a,h,l=>by unfold RelC at h; subst h; rfl
 | .str _,a,h,l=>by unfold RelC at h; subst h; rfl
 | .sl sz es,a,h,l=>by
  unfold RelC at h
  rcases h with ⟨_,p,rfl⟩ | ⟨sp,ys,rfl,h1,h2⟩
  ·rfl
  ·simp [AV.lv,ap1.av6 h1,ab8.lv h2]
theorem ab1.lv : ∀ {vs : List V} {ys : List AV},ab1 vs ys → ∀ l,AV.lvL l ys = true
 | [],ys,h,l=>by unfold ab1 at h; subst h; rfl
 | v :: r,ys,h,l=>by
  unfold ab1 at h
  obtain ⟨a,t,rfl,h1,h2⟩:=h
  simp [AV.lvL,RelC.lv h1,ab1.lv h2]
theorem ab8.lv : ∀ {vs : List (List V)} {ys : List (List AV)},ab8 vs ys → ∀ l,AV.lvLL l ys = true
 | [],ys,h,l=>by unfold ab8 at h; subst h; rfl
 | v :: r,ys,h,l=>by
  unfold ab8 at h
  obtain ⟨a,t,rfl,h1,h2⟩:=h
  simp [AV.lvLL,ab1.lv h1,ab8.lv h2]
end
theorem RelS.cells {L : Nat} {v : V} {a : AV} (h : RelS L v a) : a.cells = [a]:=by
 cases v with
 | sl sz es =>
  rcases h with ⟨_,p,rfl⟩ | ⟨sp,ys,rfl,_,h2⟩ <;> rfl
 | ref cs=>obtain ⟨ys,zs,rfl,_⟩:=h; rfl
 | ifc t b cs=>obtain ⟨ys,_,⟨_,rfl⟩ | ⟨_,y,rfl,rfl⟩⟩:=h <;> rfl
 | fnv f cs=>obtain ⟨ys,_,rfl | ⟨_,rfl⟩⟩:=h <;> rfl
 | _=>cases h; rfl
theorem RelS.one {L : Nat} {v : V} {a : AV} (h : RelS L v a) : a.one = true:=by
 cases v with
 | sl sz es =>
  rcases h with ⟨_,p,rfl⟩ | ⟨sp,ys,rfl,_,h2⟩ <;> rfl
 | ref cs=>obtain ⟨ys,zs,rfl,_⟩:=h; rfl
 | ifc t b cs=>obtain ⟨ys,_,⟨_,rfl⟩ | ⟨_,y,rfl,rfl⟩⟩:=h <;> rfl
 | fnv f cs=>obtain ⟨ys,_,rfl | ⟨_,rfl⟩⟩:=h <;> rfl
 | _=>cases h; rfl
theorem aF4.ones {L : Nat} : ∀ {vs : List V} {ys : List AV},aF4 L vs ys → ys.all AV.one = true
 | [],ys,h=>by cases h; rfl
 | v :: r,ys,h=>by
  obtain ⟨a,t,rfl,h1,h2⟩:=h
  simp [RelS.one h1]
  simpa using h2.ones
theorem aF4.length {L : Nat} : ∀ {vs : List V} {ys : List AV},aF4 L vs ys → ys.length = vs.length
 | [],ys,h=>by cases h; rfl
 | v :: r,ys,h=>by
  obtain ⟨a,t,rfl,h1,h2⟩:=h
  simp [h2.length]
theorem ab8.length : ∀ {vs : List (List V)} {ys : List (List AV)},ab8 vs ys → ys.length = vs.length
 | [],ys,h=>by unfold ab8 at h; cases h; rfl
 | v :: r,ys,h=>by
  unfold ab8 at h
  obtain ⟨a,t,rfl,h1,h2⟩:=h
  simp [h2.length]
theorem ab8.append : ∀ {vs us : List (List V)} {ys cs : List (List AV)},ab8 vs ys → ab8 us cs → ab8 (vs ++ us) (ys ++ cs)
 | [],us,ys,cs,h,h'=>by unfold ab8 at h; subst h; exact h'
 | v :: r,us,ys,cs,h,h'=>by
  unfold ab8 at h
  obtain ⟨a,t,rfl,h1,h2⟩:=h
  show ab8 (v :: (r ++ us)) _
  unfold ab8
  exact ⟨a,t ++ cs,rfl,h1,h2.append h'⟩
theorem ab8.get : ∀ {vs : List (List V)} {ys : List (List AV)} {i : Nat} {v : List V},ab8 vs ys → vs[i]? = some v → ∃ a,ys[i]? = some a ∧ ab1 v a
 | [],_,_,_,_,h=>by cases h
 | u :: r,ys,0,v,h,hi=>by
  unfold ab8 at h
  obtain ⟨a,t,rfl,h1,h2⟩:=h
  simp only [List.getElem?_cons_zero,Option.some.injEq] at hi
  subst hi
  exact ⟨a,rfl,h1⟩
 | u :: r,ys,i + 1,v,h,hi=>by
  unfold ab8 at h
  obtain ⟨a,t,rfl,h1,h2⟩:=h
  simp only [List.getElem?_cons_succ] at hi ⊢
  exact h2.get hi
theorem ab1.drop : ∀ {vs : List V} {ys : List AV} (n : Nat),ab1 vs ys → ab1 (vs.drop n) (ys.drop n)
 | vs,ys,0,h=>h
 | [],ys,n + 1,h=>by unfold ab1 at h; cases h; simp [ab1]
 | v :: r,ys,n + 1,h=>by
  unfold ab1 at h
  obtain ⟨a,t,rfl,h1,h2⟩:=h
  exact h2.drop n
theorem ab1.take : ∀ {vs : List V} {ys : List AV} (n : Nat),ab1 vs ys → ab1 (vs.take n) (ys.take n)
 | vs,ys,0,h=>by simp [ab1]
 | [],ys,n + 1,h=>by unfold ab1 at h; cases h; simp [ab1]
 | v :: r,ys,n + 1,h=>by
  unfold ab1 at h
  obtain ⟨a,t,rfl,h1,h2⟩:=h
  simp only [List.take_succ_cons]
  unfold ab1
  exact ⟨a,_,rfl,h1,h2.take n⟩
def RelP (M : List V) (ws : List AV) : Prop:=∃ ys zs,ws = ys ++ zs ∧ ab1 M ys ∧ AV.ac4 zs = true
theorem ab1.getC : ∀ {M : List V} {ys : List AV} {i : Nat} {v : V},ab1 M ys → M[i]? = some v → ∃ c,ys[i]? = some c ∧ RelC v c
 | [],_,_,_,_,h=>by cases h
 | u :: r,ys,0,v,h,hi=>by
  unfold ab1 at h
  obtain ⟨a,t,rfl,h1,_⟩:=h
  simp only [List.getElem?_cons_zero,Option.some.injEq] at hi
  subst hi
  exact ⟨a,rfl,h1⟩
 | u :: r,ys,i + 1,v,h,hi=>by
  unfold ab1 at h
  obtain ⟨a,t,rfl,_,h2⟩:=h
  simp only [List.getElem?_cons_succ] at hi ⊢
  exact h2.getC hi
theorem RelP.get {M : List V} {ws : List AV} {i : Nat} {v : V} (h : RelP M ws) (hv : M[i]? = some v) : ∃ c,ws[i]? = some c ∧ RelC v c:=by
 obtain ⟨ys,zs,rfl,h,_⟩:=h
 obtain ⟨c,h1,h2⟩:=h.getC hv
 exact ⟨c,by rw [List.getElem?_append_left (List.getElem?_eq_some_iff.1 h1).1]; exact h1,h2⟩
theorem bw0 : ∀ {zs : List AV} (n : Nat),AV.ac4 zs = true → AV.ac4 (zs.drop n) = true
 | _,0,h=>h
 | [],_ + 1,h=>h
 | a :: r,n + 1,h=>by
  simp only [AV.ac4,Bool.and_eq_true] at h
  exact bw0 n h.2
theorem RelP.drop {M : List V} {ws : List AV} (n : Nat) (h : RelP M ws) : RelP (M.drop n) (ws.drop n):=by
 obtain ⟨ys,zs,rfl,h,hz⟩:=h
 rw [List.drop_append]
 exact ⟨ys.drop n,zs.drop (n - ys.length),rfl,h.drop n,bw0 _ hz⟩
theorem RelP.take {M : List V} {ws : List AV} {n : Nat} (h : RelP M ws) (hn : n ≤ M.length) : ab1 (M.take n) (ws.take n) ∧ n ≤ ws.length:=by
 obtain ⟨ys,zs,rfl,h,hz⟩:=h
 have hl : ys.length = M.length:=(h.toS (L:=0)).length
 rw [List.take_append_of_le_length (by omega),List.length_append]
 exact ⟨h.take n,by omega⟩
theorem ab1.toP {M : List V} {ws : List AV} (h : ab1 M ws) : RelP M ws:=⟨ws,[],by simp,h,rfl⟩
def bR7 (cs : List V) (off : Nat) (xs : List V) : List V:=cs.take off ++ xs ++ cs.drop (off + xs.length)
theorem RelC.nil (sz : Nat) (p : Option Addr) : RelC (.sl sz []) (.lit (.slice p 0 0)):=by unfold RelC; exact .inl ⟨rfl,p,rfl⟩
theorem RelC.list {sz : Nat} {es : List (List V)} {ys : List (List AV)} {sp : ap1} (hs : sp.closed = true) (h : ab8 es ys) : RelC (.sl sz es) (.list sp sz ys):=by unfold RelC; exact .inr ⟨sp,ys,rfl,hs,h⟩
theorem RelS.len {L : Nat} {sz : Nat} {es : List (List V)} {a : AV} (h : RelS L (.sl sz es) a) : llV a = some (.lit (.int .i64 es.length)):=by
 rcases h with ⟨rfl,p,rfl⟩ | ⟨sp,ys,rfl,hat,h⟩
 ·rfl
 ·show some _ = _
  rw [h.length]
theorem RelS.norm {L : Nat} {v : V} {a : AV} (h : RelS L v a) : RelC v a.as6:=by
 cases v with
 | sl sz es =>
  rcases h with ⟨rfl,p,rfl⟩ | ⟨sp,ys,rfl,hat,h⟩
  ·exact RelC.nil sz p
  ·exact RelC.list rfl h
 | int k n=>cases h; unfold RelC; rfl
 | bool b=>cases h; unfold RelC; rfl
 | str l=>cases h; unfold RelC; rfl
 | nilp=>cases h; unfold RelC; rfl
 | nili=>cases h; unfold RelC; rfl
 | ref cs =>
  obtain ⟨ys,zs,rfl,h⟩:=h
  unfold RelC
  exact ⟨ys,zs,rfl,h⟩
 | nilf=>cases h; unfold RelC; rfl
 | fnv f cs =>
  obtain ⟨ys,h,rfl | ⟨h',rfl⟩⟩:=h
  ·unfold RelC; exact ⟨ys,h,.inl rfl⟩
  ·unfold RelC; exact ⟨ys,h,.inr ⟨h',rfl⟩⟩
 | ifc t b cs =>
  obtain ⟨ys,h,⟨hb,rfl⟩ | ⟨hb,y,rfl,rfl⟩⟩:=h
  ·unfold RelC; exact ⟨ys,h,.inl ⟨hb,rfl⟩⟩
  ·unfold RelC; exact ⟨_,h,.inr ⟨hb,y,rfl,rfl⟩⟩
theorem aF4.norm {L : Nat} : ∀ {vs : List V} {ys : List AV},aF4 L vs ys → ab1 vs (ys.map AV.as6)
 | [],ys,h=>by cases h; unfold ab1; rfl
 | v :: r,ys,h=>by
  obtain ⟨a,t,rfl,h1,h2⟩:=h
  unfold ab1
  exact ⟨_,_,rfl,h1.norm,h2.norm⟩
theorem RelS.frz {l : Nat} {v : V} {a : AV} (h : RelS (l + 1) v a) (S : AS) (n : Nat) : ∃ b,frz l S (n + 2) a = some b ∧ RelC v b:=by
 cases v with
 | sl sz es =>
  rcases h with ⟨rfl,p,rfl⟩ | ⟨sp,ys,rfl,hat,h⟩
  ·exact ⟨_,ad1 rfl,RelC.nil sz p⟩
  ·rcases hat with hc | ⟨p,g,rfl,hp⟩
   ·exact ⟨_,ad1 (by simp [AV.lv,ap1.av6 hc,h.lv]),RelC.list hc h⟩
   ·exact ⟨_,bw2 p g sz ys (h.lv l) (by omega),RelC.list rfl h⟩
 | int k n=>cases h; exact ⟨_,ad1 rfl,by unfold RelC; rfl⟩
 | bool b=>cases h; exact ⟨_,ad1 rfl,by unfold RelC; rfl⟩
 | str l=>cases h; exact ⟨_,ad1 rfl,by unfold RelC; rfl⟩
 | nilp=>cases h; exact ⟨_,ad1 rfl,by unfold RelC; rfl⟩
 | nili=>cases h; exact ⟨_,ad1 rfl,by unfold RelC; rfl⟩
 | ref cs =>
  have hc : RelC (.ref cs) a:=by unfold RelC; exact h
  exact ⟨_,ad1 (hc.lv l),hc⟩
 | nilf =>
  have hc : RelC .nilf a:=by unfold RelC; exact h
  exact ⟨_,ad1 (hc.lv l),hc⟩
 | fnv f cs =>
  have hc : RelC (.fnv f cs) a:=by unfold RelC; exact h
  exact ⟨_,ad1 (hc.lv l),hc⟩
 | ifc t b cs =>
  have hc : RelC (.ifc t b cs) a:=by unfold RelC; exact h
  exact ⟨_,ad1 (hc.lv l),hc⟩
theorem aF4.frz {l : Nat} (S : AS) : ∀ {vs : List V} {ys : List AV} (n : Nat),aF4 (l + 1) vs ys → vs.length + 2 ≤ n → ∃ bs,frzL l S n ys = some bs ∧ ab1 vs bs
 | [],ys,n,h,hn=>by
  cases h
  obtain ⟨m,rfl⟩ : ∃ m,n = m + 1:=⟨n - 1,by omega⟩
  exact ⟨[],rfl,by unfold ab1; rfl⟩
 | v :: r,ys,n,h,hn=>by
  obtain ⟨a,t,rfl,h1,h2⟩:=h
  simp only [List.length_cons] at hn
  obtain ⟨m,rfl⟩ : ∃ m,n = m + 3:=⟨n - 3,by omega⟩
  obtain ⟨b,k1,k2⟩:=h1.frz S m
  obtain ⟨bs,k3,k4⟩:=aF4.frz S (m + 2) h2 (by omega)
  refine ⟨b :: bs,?_,?_⟩
  ·rw [bG1,k1,k3]
   rfl
  ·unfold ab1
   exact ⟨b,bs,rfl,k2,k4⟩
inductive RV where
 | int (k : IntKind) (n : Int)
 | bool (b : Bool)
 | str (l : List UInt8)
 | sl (sz : Nat) (es : List (List V))
 | agg (M : List V)
 | v (x : V)
def RV.S (L : Nat) : RV → AV → Prop
 | .int k n,a=>a = .lit (.int k n)
 | .bool b,a=>a = .lit (.bool b)
 | .str l,a=>a = .lit (.string (bs l))
 | .sl sz es,a=>RelS L (.sl sz es) a
 | .agg M,a=>∃ cs,a = .agg cs ∧ aF4 L M cs
 | .v x,a=>RelC x a
def RV.C : RV → AV → Prop
 | .int k n,a=>a = .lit (.int k n)
 | .bool b,a=>a = .lit (.bool b)
 | .str l,a=>a = .lit (.string (bs l))
 | .sl sz es,a=>RelC (.sl sz es) a
 | .agg M,a=>∃ cs,a = .agg cs ∧ ab1 M cs
 | .v x,a=>RelC x a
def RVL (L : Nat) : List RV → List AV → Prop
 | [],l=>l = []
 | r :: rs,l=>∃ a t,l = a :: t ∧ r.S L a ∧ RVL L rs t
def RVLC : List RV → List AV → Prop
 | [],l=>l = []
 | r :: rs,l=>∃ a t,l = a :: t ∧ r.C a ∧ RVLC rs t
def ResC : List RV → AV → Prop
 | [r],v=>r.C v
 | rs,v=>∃ l,v = .tup l ∧ RVLC rs l
theorem RV.C.toS {L : Nat} {r : RV} {a : AV} (h : r.C a) : r.S L a:=by
 cases r with
 | sl sz es=>exact RelC.toS h
 | agg M =>
  obtain ⟨cs,rfl,h⟩:=h
  exact ⟨cs,rfl,h.toS⟩
 | _=>exact h
theorem RV.S.norm {L : Nat} {r : RV} {a : AV} (h : r.S L a) : r.C a.ac1:=by
 cases r with
 | sl sz es =>
  have h1 : a.ac1 = a.as6:=by rcases h with ⟨_,p,rfl⟩ | ⟨sp,ys,rfl,_,h2⟩ <;> rfl
  show RelC (.sl sz es) a.ac1
  rw [h1]
  exact RelS.norm h
 | int k n=>cases h; rfl
 | bool b=>cases h; rfl
 | str l=>cases h; rfl
 | agg M =>
  obtain ⟨cs,rfl,h⟩:=h
  exact ⟨_,rfl,aF4.norm h⟩
 | v x =>
  have h1 : a.ac1 = a.as6:=by
   have:=(RelC.toS (L:=0) h).one
   cases a with
   | agg=>cases this
   | _=>rfl
  show RelC x a.ac1
  rw [h1]
  exact (RelC.toS (L:=0) h).norm
theorem RVL.length {L : Nat} : ∀ {rs : List RV} {ys : List AV},RVL L rs ys → ys.length = rs.length
 | [],ys,h=>by cases h; rfl
 | r :: rs,ys,h=>by
  obtain ⟨a,t,rfl,h1,h2⟩:=h
  simp [h2.length]
def RV.size : RV → Nat
 | .agg M=>M.length
 | _=>0
theorem RV.S.frz {l : Nat} {r : RV} {a : AV} (h : r.S (l + 1) a) (S : AS) (n : Nat) (hn : r.size + 3 ≤ n) : ∃ b,frz l S n a = some b ∧ r.C b:=by
 obtain ⟨m,rfl⟩ : ∃ m,n = m + 2:=⟨n - 2,by omega⟩
 cases r with
 | int k n=>cases h; exact ⟨_,ad1 rfl,rfl⟩
 | bool b=>cases h; exact ⟨_,ad1 rfl,rfl⟩
 | str t=>cases h; exact ⟨_,ad1 rfl,rfl⟩
 | sl sz es=>exact RelS.frz (l:=l) (v:=.sl sz es) h S m
 | v x=>exact ⟨_,ad1 (RelC.lv h l),h⟩
 | agg M =>
  obtain ⟨cs,rfl,h⟩:=h
  simp only [RV.size] at hn
  obtain ⟨bs,k1,k2⟩:=aF4.frz S (m + 1) h (by omega)
  refine ⟨.agg bs,?_,bs,rfl,k2⟩
  rw [cI6 cs (by have:=h.length; omega),k1]
  rfl
theorem RVL.frz {l : Nat} (S : AS) : ∀ {rs : List RV} {ys : List AV} (n : Nat),RVL (l + 1) rs ys → rs.length + (rs.map RV.size).sum + 4 ≤ n → ∃ bs,frzL l S n ys = some bs ∧ RVLC rs bs
 | [],ys,n,h,hn=>by
  cases h
  obtain ⟨m,rfl⟩ : ∃ m,n = m + 1:=⟨n - 1,by omega⟩
  exact ⟨[],rfl,rfl⟩
 | r :: rs,ys,n,h,hn=>by
  obtain ⟨a,t,rfl,h1,h2⟩:=h
  simp only [List.length_cons,List.map_cons,List.sum_cons] at hn
  obtain ⟨m,rfl⟩ : ∃ m,n = m + 1:=⟨n - 1,by omega⟩
  obtain ⟨b,k1,k2⟩:=h1.frz S m (by omega)
  obtain ⟨bs,k3,k4⟩:=RVL.frz S m h2 (by omega)
  refine ⟨b :: bs,?_,b,bs,rfl,k2,k4⟩
  rw [bG1,k1,k3]
  rfl
theorem cD1 {l : Nat} (S : AS) {rs : List RV} {ys : List AV} (h : RVL (l + 1) rs ys) (hn : rs.length + (rs.map RV.size).sum + 5 ≤ 100000) : ∃ v,frz l S 100000 (ao0 ys) = some v ∧ ResC rs v:=by
 have tup : ∀ {rs : List RV} {ys : List AV},RVL (l + 1) rs ys → rs.length + (rs.map RV.size).sum + 5 ≤ 100000 → ∃ v,YtdcfkmgnkhkoeaaGreatDoor.frz l S 100000 (.tup ys) = some v ∧ ∃ l,v = .tup l ∧ RVLC rs l:=by
  intro rs ys h hn
  obtain ⟨bs,k1,k2⟩:=RVL.frz S 99999 h (by omega)
  refine ⟨.tup bs,?_,bs,rfl,k2⟩
  rw [show (100000 : Nat) = 99999 + 1 from rfl,cy1 ys (by have:=h.length; omega),k1]
  rfl
 match rs,h,hn with
 | [],h,hn =>
  cases h
  exact tup (rs:=[]) (ys:=[]) rfl hn
 | [r],h,hn =>
  obtain ⟨a,t,rfl,h1,h2⟩:=h
  cases h2
  exact h1.frz S 100000 (by simp at hn; omega)
 | r :: r' :: rs,h,hn =>
  obtain ⟨a,t,rfl,h1,a',t',rfl,h2⟩:=h
  exact tup (rs:=r :: r' :: rs) (ys:=a :: a' :: t') ⟨a,_,rfl,h1,a',t',rfl,h2⟩ hn
open Go.RowKit
inductive Co (l : Nat) : AV → Prop
 | c {a : AV} : a.closed = true → Co l a
 | p {p : Loc} {g n o : Nat} : p.l ≤ l → Co l (.ptr p g n o)
 | t {q : Loc} {h sz : Nat} {ys : List (List AV)} : AV.ah3 ys = true → q.l ≤ l → Co l (.list (.own q h) sz ys)
 | r {sp : Room} {p : Loc} {g n o len sz : Nat} : p.l ≤ l → Co l (.row sp p g n o len sz)
 | m {p : Loc} {g : Nat} : p.l ≤ l → Co l (.mref p g)
theorem bj7 {S : AS} {p : Loc} {g off : Nat} {t : TypeId} {cs : List AV} {v : AV} (h : S.get p = some (.obj g t cs)) (hv : cs[off]? = some v) : ld1V S (.ptr p g 0 off) = some v:=by
 rw [bS0 h,List.head?_drop,hv]
def ulog (u : Upd) : List Loc:=(u.getD ([],[])).2
theorem cA8 (S : AS) (u : Upd) : (S.after u).log = aH7 S.log (ulog u):=by
 cases u with
 | none=>rfl
 | some x=>rfl
theorem u8s_len (l : List UInt8) : (u8s l).length = l.length:=by simp [u8s]
section
variable [Cfg] {P : Program} {tp tb tu tz te fne fcc fws fwb : Nat}
variable {S : AS} {T : BT} {p : Loc} {g off : Nat} {t : TypeId} {cs : List AV}
structure BLD (te : TypeId) (S : AS) (p : Loc) (g : Nat) (t : TypeId) (off : Nat) (cs : List AV) (l : List UInt8) (q : Option Loc) : Prop where
 get : S.get p = some (.obj g t cs)
 co : ∀ a ∈ cs,Co S.lvl a
 len : cs.length ≤ 1000
 lv : p.l ≤ S.lvl
 addr : cs[off]? = some (.lit (.pointer none)) ∨ cs[off]? = some (.ptr p g 0 off)
 buf : (l = [] ∧ q = none ∧ cs[off + 1]? = some (.lit (.slice none 0 0))) ∨ ∃ q' h,l ≠ [] ∧ q = some q' ∧ cs[off + 1]? = some (.list (.own q' h) 1 (u8s l)) ∧ S.get q' = some (.tok h l.length 1 te) ∧ q'.l ≤ S.lvl
theorem cH6 {f h : FuncId} (_hup : Cfg.up f h = true) (args : List AV) : aE8 f h args = args.map AV.ac1:=rfl
theorem b40 {f : FuncId} {S S' : AS} {v x : AV} {u : Upd} (h : ak3 f S S' v = some (x,u)) : ∀ r,r ∉ ulog u → (S.after u).get r = S.get r:=by
 cases u with
 | none=>exact fun _ _=>rfl
 | some y=>exact fun r hr=>aW6 h r hr
end
open Go.RowKit
inductive Cx (S : AS) (l : Nat) : AV → Prop
 | c {a : AV} : a.closed = true → Cx S l a
 | p {p : Loc} {g n o : Nat} : p.l ≤ l → Cx S l (.ptr p g n o)
 | pd {p : Loc} {g n o : Nat} {s : ab3} : l < p.l → S.get p = some s → s.live = true → s.gen = g → s.ext = n → Cx S l (.ptr p g n o)
 | m {p : Loc} {g : Nat} : p.l ≤ l → Cx S l (.mref p g)
 | md {p : Loc} {g : Nat} {s : ab3} : l < p.l → S.get p = some s → s.live = true → s.gen = g → s.ext = 0 → Cx S l (.mref p g)
 | r {sp : Room} {p : Loc} {g n o len sz : Nat} : p.l ≤ l → Cx S l (.row sp p g n o len sz)
 | rd {sp : Room} {p : Loc} {g n o len sz : Nat} {s : ab3} : l < p.l → S.get p = some s → s.live = true → s.gen = g → s.ext = n → Cx S l (.row sp p g n o len sz)
 | t {q : Loc} {h sz : Nat} {ys : List (List AV)} : AV.ah3 ys = true → q.l ≤ l → Cx S l (.list (.own q h) sz ys)
 | d {q : Loc} {h sz e : Nat} {ys : List (List AV)} : AV.ah3 ys = true → l < q.l → S.get q = some (.tok h ys.length sz e) → Cx S l (.list (.own q h) sz ys)
def Cy (S : AS) (l : Nat) (a : AV) : Prop:=Cx S l a ∨ ∃ cs,a = .agg cs ∧ ∀ x ∈ cs,Cx S l x
def aA1 (l : Nat) (ρ : Loc → Loc) : AV → AV
 | .list (.own q h) sz ys=>if q.l ≤ l then .list (.own q h) sz ys else .list (.own (ρ q) 0) sz ys
 | .ptr p g n o=>if p.l ≤ l then .ptr p g n o else .ptr (ρ p) 0 n o
 | .mref p g=>if p.l ≤ l then .mref p g else .mref (ρ p) 0
 | .row sp p g n o len sz=>if p.l ≤ l then .row sp p g n o len sz else .row sp (ρ p) 0 n o len sz
 | a=>a
def renX (l : Nat) (ρ : Loc → Loc) : AV → AV
 | .agg cs=>.agg (cs.map (aA1 l ρ))
 | a=>aA1 l ρ a
theorem aV3 {l : Nat} {ρ : Loc → Loc} {a : AV} (h : a.closed = true) : aA1 l ρ a = a:=by
 cases a with
 | list sp sz ys =>
  cases sp with
  | own p g=>cases h
  | _=>rfl
 | ptr=>cases h
 | mref=>cases h
 | row=>cases h
 | _=>rfl
theorem az5 : ∀ {cs : List AV},AV.ac4 cs = true → ∀ a ∈ cs,a.closed = true
 | [],_,a,h=>by cases h
 | c :: r,h,a,hm=>by
  simp only [AV.ac4,Bool.and_eq_true] at h
  rcases List.mem_cons.1 hm with rfl | hm
  ·exact h.1
  ·exact az5 h.2 a hm
theorem as7 {l : Nat} {ρ : Loc → Loc} {a : AV} (h : a.closed = true) : renX l ρ a = a:=by
 cases a with
 | agg cs =>
  simp only [AV.closed] at h
  simp only [renX]
  congr 1
  refine Eq.trans (List.map_congr_left fun x hx=>aV3 (az5 h x hx)) (List.map_id' cs)
 | _=>exact aV3 (l:=l) (ρ:=ρ) h
theorem Cx.rx {S : AS} {l : Nat} {ρ : Loc → Loc} {a : AV} (h : Cx S l a) : renX l ρ a = aA1 l ρ a:=by
 cases h with
 | c h=>rw [as7 h,aV3 h]
 | _=>rfl
theorem Cx.ren {S : AS} {l : Nat} {N : Names} {ρ : Loc → Loc} {a : AV} (h : Cx S l a) (hN : ∀ d ∈ AV.deep l a,N.get d = some (ρ d,0)) : ren l S N a = some (renX l ρ a):=by
 cases h with
 | c h=>rw [bu2 h,as7 h]
 | p h=>simp only [YtdcfkmgnkhkoeaaGreatDoor.ren,renX,aA1,if_pos h]
 | @pd p g n o s h hs hl hg hn =>
  have hm : p ∈ AV.deep l (.ptr p g n o):=by simp only [AV.deep,if_neg (Nat.not_le.2 h),List.mem_singleton]
  simp only [YtdcfkmgnkhkoeaaGreatDoor.ren,renX,aA1,if_neg (Nat.not_le.2 h),hN p hm,hs,hl,hg,hn,beq_self_eq_true,Bool.and_self,if_true]
 | m h=>simp only [YtdcfkmgnkhkoeaaGreatDoor.ren,renX,aA1,if_pos h]
 | @md p g s h hs hl hg hn =>
  have hm : p ∈ AV.deep l (.mref p g):=by simp only [AV.deep,if_neg (Nat.not_le.2 h),List.mem_singleton]
  simp only [YtdcfkmgnkhkoeaaGreatDoor.ren,renX,aA1,if_neg (Nat.not_le.2 h),hN p hm,hs,hl,hg,hn,beq_self_eq_true,Bool.and_self,if_true]
 | r h=>simp only [YtdcfkmgnkhkoeaaGreatDoor.ren,renX,aA1,if_pos h]
 | @rd sp p g n o len sz s h hs hl hg hn =>
  have hm : p ∈ AV.deep l (.row sp p g n o len sz):=by simp only [AV.deep,if_neg (Nat.not_le.2 h),List.mem_singleton]
  simp only [YtdcfkmgnkhkoeaaGreatDoor.ren,renX,aA1,if_neg (Nat.not_le.2 h),hN p hm,hs,hl,hg,hn,beq_self_eq_true,Bool.and_self,if_true]
 | t h h'=>simp only [YtdcfkmgnkhkoeaaGreatDoor.ren,aG2 h,Option.map_some,renX,aA1,if_pos h']
 | @d q g sz e ys h h' hs =>
  have hm : q ∈ AV.deep l (.list (.own q g) sz ys):=by
   simp only [AV.deep,if_neg (Nat.not_le.2 h'),au0 h,List.append_nil,List.mem_singleton]
  have:=hN q hm
  simp only [YtdcfkmgnkhkoeaaGreatDoor.ren,aG2 h,Option.map_some,renX,aA1,if_neg (Nat.not_le.2 h'),this,hs,and_self,if_true]
theorem bD6 {S : AS} {l : Nat} {N : Names} {ρ : Loc → Loc} : ∀ {cs : List AV},(∀ a ∈ cs,Cx S l a) → (∀ d ∈ AV.am4 l cs,N.get d = some (ρ d,0)) → renL l S N cs = some (cs.map (renX l ρ))
 | [],_,_=>by simp only [renL,List.map_nil]
 | a :: r,h,hN=>by
  have k1:=(h a (List.mem_cons_self ..)).ren (N:=N) (ρ:=ρ) fun d hd=>hN d (by simp only [AV.am4,List.mem_append]; exact .inl hd)
  have k2:=bD6 (cs:=r) (fun x hx=>h x (List.mem_cons_of_mem _ hx)) fun d hd=>hN d (by simp only [AV.am4,List.mem_append]; exact .inr hd)
  simp only [renL,k1,k2,List.map_cons]
theorem Cy.ren {S : AS} {l : Nat} {N : Names} {ρ : Loc → Loc} {a : AV} (h : Cy S l a) (hN : ∀ d ∈ AV.deep l a,N.get d = some (ρ d,0)) : YtdcfkmgnkhkoeaaGreatDoor.ren l S N a = some (renX l ρ a):=by
 rcases h with h | ⟨cs,rfl,h⟩
 ·exact h.ren hN
 ·simp only [AV.deep] at hN
  simp only [YtdcfkmgnkhkoeaaGreatDoor.ren,bD6 h hN,Option.map_some]
  show some (AV.agg _) = some (AV.agg _)
  congr 2
  exact List.map_congr_left fun x hx=>(h x hx).rx
theorem cE6 {S : AS} {l : Nat} {N : Names} {ρ : Loc → Loc} : ∀ {cs : List AV},(∀ a ∈ cs,Cy S l a) → (∀ d ∈ AV.am4 l cs,N.get d = some (ρ d,0)) → renL l S N cs = some (cs.map (renX l ρ))
 | [],_,_=>by simp only [renL,List.map_nil]
 | a :: r,h,hN=>by
  have k1:=(h a (List.mem_cons_self ..)).ren (N:=N) (ρ:=ρ) fun d hd=>hN d (by simp only [AV.am4,List.mem_append]; exact .inl hd)
  have k2:=cE6 (cs:=r) (fun x hx=>h x (List.mem_cons_of_mem _ hx)) fun d hd=>hN d (by simp only [AV.am4,List.mem_append]; exact .inr hd)
  simp only [renL,k1,k2,List.map_cons]
inductive Vx (S : AS) (l : Nat) : AV → Prop
 | one {a : AV} : Cy S l a → Vx S l a
 | tup {cs : List AV} : (∀ a ∈ cs,Cy S l a) → Vx S l (.tup cs)
def b79 (l : Nat) (ρ : Loc → Loc) : AV → AV
 | .tup cs=>.tup (cs.map (renX l ρ))
 | a=>renX l ρ a
theorem Vx.ren {S : AS} {l : Nat} {N : Names} {ρ : Loc → Loc} {a : AV} (h : Vx S l a) (hN : ∀ d ∈ AV.deep l a,N.get d = some (ρ d,0)) : ren l S N a = some (b79 l ρ a):=by
 cases h with
 | one h =>
  rcases h with h | ⟨cs,rfl,h⟩
  case inr =>
   simp only [AV.deep] at hN
   simp only [YtdcfkmgnkhkoeaaGreatDoor.ren,bD6 h hN,Option.map_some]
   show some (AV.agg _) = some (AV.agg _)
   congr 2
   exact List.map_congr_left fun x hx=>(h x hx).rx
  rw [h.ren hN]
  cases a with
  | tup cs =>
   cases h with
   | c h =>
    simp only [renX,aA1,b79]
    congr 2
    refine (List.map_id' cs).symm.trans ?_
    exact List.map_congr_left fun x hx=>(as7 (az5 (by simpa only [AV.closed] using h) x hx)).symm
  | _=>rfl
 | tup h =>
  simp only [AV.deep] at hN
  simp only [YtdcfkmgnkhkoeaaGreatDoor.ren,cE6 h hN,Option.map_some,b79]
inductive bd1 (S : AS) (l : Nat) : ab3 → Prop
 | obj {g : Nat} {t : TypeId} {cs : List AV} : (∀ a ∈ cs,Cx S l a) → bd1 S l (.obj g t cs)
 | tok {g n sz : Nat} {e : TypeId} : bd1 S l (.tok g n sz e)
 | map {g ck : Nat} {es : List ah8} : (∀ e ∈ es,Cx S l e.val) → bd1 S l (.map g es ck)
 | row {g n sz : Nat} {e : TypeId} {cs : List AV} : (∀ a ∈ cs,Cx S l a) → bd1 S l (.row g n sz e cs)
 | itr {g pos : Nat} {s : ByteArray} : bd1 S l (.iter g s pos)
def cf9 (l : Nat) (ρ : Loc → Loc) (e : ah8) : ah8:=⟨e.key,renX l ρ e.val,e.born⟩
def aR7 (l : Nat) (ρ : Loc → Loc) (h : Nat) : ab3 → ab3
 | .obj _ t cs=>.obj h t (cs.map (renX l ρ))
 | .tok _ n sz e=>.tok h n sz e
 | .map _ es ck=>.map h (es.map (cf9 l ρ)) ck
 | .row _ n sz e cs=>.row h n sz e (cs.map (renX l ρ))
 | .iter _ s pos=>.iter h s pos
 | s=>s
theorem bd1.live {S : AS} {l : Nat} {s : ab3} (h : bd1 S l s) : s.live = true:=by cases h <;> rfl
theorem co6 {l : Nat} {S : AS} {N : Names} {ρ : Loc → Loc} : ∀ {es : List ah8},(∀ e ∈ es,Cx S l e.val) → (∀ d ∈ (es.flatMap fun e=>AV.deep l e.val),N.get d = some (ρ d,0)) → renE l S N es = some (es.map (cf9 l ρ))
 | [],_,_=>rfl
 | e :: r,h,hN=>by
  have k1:=(h e (List.mem_cons_self ..)).ren (N:=N) (ρ:=ρ) fun d hd=>hN d (by rw [List.flatMap_cons]; exact List.mem_append.2 (.inl hd))
  have k2:=co6 (N:=N) (ρ:=ρ) (fun x hx=>h x (List.mem_cons_of_mem _ hx)) fun d hd=>hN d (by rw [List.flatMap_cons]; exact List.mem_append.2 (.inr hd))
  simp only [renE,k1,k2,List.map_cons,cf9]
theorem bd1.ren {S : AS} {l : Nat} {N : Names} {ρ : Loc → Loc} {s : ab3} (h : bd1 S l s) (k : Nat) (hN : ∀ d ∈ s.deep l,N.get d = some (ρ d,0)) : renS l S N k s = some (aR7 l ρ k s):=by
 cases h with
 | obj h=>simp only [renS,bD6 h hN,Option.map_some,aR7]
 | tok=>rfl
 | map h=>simp only [renS,co6 h hN,Option.map_some,aR7]
 | row h=>simp only [renS,bD6 h hN,Option.map_some,aR7]
 | itr=>rfl
def uw (l : Nat) (seen : List Loc) (t : Tab) : Nat:=(t.map fun x=>if seen.contains x.1 then 0 else (x.2.deep l).length).sum
theorem uw_nil (l : Nat) (t : Tab) : uw l [] t = t.weight l:=by
 unfold uw Tab.weight
 simp
theorem cy3 {l : Nat} {seen seen' : List Loc} (h : ∀ x ∈ seen,x ∈ seen') : ∀ t : Tab,uw l seen' t ≤ uw l seen t
 | []=>Nat.le_refl _
 | (q,s) :: r=>by
  have ih:=cy3 (l:=l) h r
  unfold uw at ih ⊢
  simp only [List.map_cons,List.sum_cons]
  cases hq : seen.contains q with
  | true=>rw [List.contains_iff_mem.2 (h _ (List.contains_iff_mem.1 hq))]; simp only [if_true]; omega
  | false =>
   cases hq' : seen'.contains q with
   | true=>simp only [if_true,Bool.false_eq_true,if_false]; omega
   | false=>simp only [Bool.false_eq_true,if_false]; omega
theorem uw_put {l : Nat} {seen : List Loc} {d : Loc} {s : ab3} (hd : seen.contains d = false) : ∀ {t : Tab},t.get d = some s → uw l (ap9 seen d) t + (s.deep l).length ≤ uw l seen t
 | [],h=>by cases h
 | (q,s') :: r,h=>by
  have hm:=cy3 (l:=l) (seen:=seen) (seen':=ap9 seen d) (fun x hx=>ae5.2 (.inl hx)) r
  unfold Tab.get at h
  unfold uw at hm ⊢
  simp only [List.map_cons,List.sum_cons]
  by_cases e : q = d
  ·subst e
   rw [if_pos rfl] at h
   cases h
   rw [hd,List.contains_iff_mem.2 (ae5.2 (.inr rfl))]
   simp only [if_true,Bool.false_eq_true,if_false]
   omega
  ·rw [if_neg e] at h
   have ih:=uw_put (l:=l) hd h
   unfold uw at ih
   cases hq : seen.contains q with
   | true=>rw [List.contains_iff_mem.2 (ae5.2 (.inl (List.contains_iff_mem.1 hq)))]; simp only [if_true]; omega
   | false =>
    have : (ap9 seen d).contains q = false:=by
     cases hc : (ap9 seen d).contains q with
     | false=>rfl
     | true =>
      rcases ae5.1 (List.contains_iff_mem.1 hc) with h1 | h1
      ·rw [List.contains_iff_mem.2 h1] at hq; cases hq
      ·exact absurd h1 e
    rw [this]
    simp only [Bool.false_eq_true,if_false]
    omega
theorem bt1 {l : Nat} {S : AS} {W : List Loc} (hW : ∀ d ∈ W,∃ s,S.get d = some s ∧ ∀ x ∈ s.deep l,x ∈ W) : ∀ (n : Nat) (D seen : List Loc),(∀ d ∈ D,d ∈ W) → (∀ d ∈ seen,d ∈ W) → ay4 seen →
  uw l seen S.tab + D.length < n → (∀ p ∈ seen,∀ s,S.get p = some s → ∀ x ∈ s.deep l,x ∈ seen ∨ x ∈ D) →
  (∀ p ∈ reached l S n D seen,p ∈ W) ∧ ay4 (reached l S n D seen) ∧ (∀ p ∈ D,p ∈ reached l S n D seen) ∧ (∀ p ∈ seen,p ∈ reached l S n D seen) ∧ ∀ p ∈ reached l S n D seen,∀ s,S.get p = some s → ∀ x ∈ s.deep l,x ∈ reached l S n D seen
 | 0,D,seen,_,_,_,h,_=>by omega
 | n + 1,[],seen,_,hs,hso,_,hc=>by
  unfold reached
  exact ⟨hs,hso,fun p h=>(nomatch h),fun p h=>h,fun p hp s hps x hx=>(hc p hp s hps x hx).resolve_right fun h=>(nomatch h)⟩
 | n + 1,d :: r,seen,hD,hs,hso,h,hc=>by
  simp only [List.length_cons] at h
  have hr:=fun x hx=>hD x (List.mem_cons_of_mem _ hx)
  have hd:=hD d (List.mem_cons_self ..)
  unfold reached
  split
  ·rename_i hcon
   have hds:=List.contains_iff_mem.1 hcon
   obtain ⟨k1,k2,k3,k4,k5⟩:=bt1 hW n r seen hr hs hso (by omega) fun p hp s hps x hx=>by
    rcases hc p hp s hps x hx with k | k
    ·exact .inl k
    ·rcases List.mem_cons.1 k with rfl | k
     ·exact .inl hds
     ·exact .inr k
   refine ⟨k1,k2,fun p hp=>?_,k4,k5⟩
   rcases List.mem_cons.1 hp with rfl | hp
   ·exact k4 _ hds
   ·exact k3 p hp
  ·rename_i hcon
   have hcon : seen.contains d = false:=by simpa using hcon
   obtain ⟨s,hg,hsub⟩:=hW d hd
   simp only [hg]
   have hlt:=uw_put (l:=l) hcon (show S.tab.get d = some s from hg)
   obtain ⟨k1,k2,k3,k4,k5⟩:=bt1 hW n (s.deep l ++ r) (ap9 seen d) (fun x hx=>by
     rcases List.mem_append.1 hx with hx | hx
     ·exact hsub x hx
     ·exact hr x hx) (fun x hx=>by
     rcases ae5.1 hx with hx | rfl
     ·exact hs x hx
     ·exact hd) hso.put (by
     simp only [List.length_append]
     omega) fun p hp s' hps x hx=>by
     rcases ae5.1 hp with hp | rfl
     ·rcases hc p hp s' hps x hx with k | k
      ·exact .inl (ae5.2 (.inl k))
      ·rcases List.mem_cons.1 k with rfl | k
       ·exact .inl (ae5.2 (.inr rfl))
       ·exact .inr (List.mem_append.2 (.inr k))
     ·rw [hg] at hps; cases hps
      exact .inr (List.mem_append.2 (.inl hx))
   refine ⟨k1,k2,fun p hp=>?_,fun p hp=>k4 p (ae5.2 (.inl hp)),k5⟩
   rcases List.mem_cons.1 hp with rfl | hp
   ·exact k4 _ (ae5.2 (.inr rfl))
   ·exact k3 p (List.mem_append.2 (.inr hp))
theorem bD1 {α β : Type} {f : α → β} : ∀ {l : List α},(l.map f).Nodup → ∀ a ∈ l,∀ b ∈ l,f a = f b → a = b
 | [],_,a,h,_,_,_=>by cases h
 | c :: r,hn,a,ha,b,hb,e=>by
  simp only [List.map_cons] at hn
  have hn:=List.nodup_cons.1 hn
  rcases List.mem_cons.1 ha with ea | ha1
  ·rcases List.mem_cons.1 hb with eb | hb1
   ·rw [ea,eb]
   ·exact absurd (List.mem_map.2 ⟨b,hb1,by rw [← ea]; exact e.symm⟩) hn.1
  ·rcases List.mem_cons.1 hb with eb | hb1
   ·exact absurd (List.mem_map.2 ⟨a,ha1,by rw [← eb]; exact e⟩) hn.1
   ·exact bD1 hn.2 a ha1 b hb1 e
theorem bi0 {l : Nat} {S' : AS} {N : Names} : ∀ {M : Names} {t : Tab},(∀ p q g,(p,q,g) ∈ M → ∃ s s',S'.get p = some s ∧ renS l S' N g s = some s') → ∃ t',aD8 l S' N M t = some t'
 | [],t,_=>⟨t,rfl⟩
 | (p,q,g) :: r,t,h=>by
  obtain ⟨s,s',h1,h2⟩:=h p q g (List.mem_cons_self ..)
  unfold aD8
  simp only [h1,h2]
  exact bi0 fun p q g hx=>h p q g (List.mem_cons_of_mem _ hx)
structure Handed (S S' : AS) (v : AV) (u : Upd) (ρ : Loc → Loc) (R : List Loc) : Prop where
 lvl : (S.after u).lvl = S.lvl
 fn : (S.after u).fn = S.fn
 dfr : (S.after u).dfr = S.dfr
 outs : ∀ q s,q ∈ S'.outs S.lvl → S'.get q = some s → (S.after u).get q = some (aR7 S.lvl ρ s.gen s)
 frame : ∀ q,q ∉ S'.outs S.lvl → q ∉ (u.getD ([],[])).2 → (S.after u).get q = S.get q
 log : ∀ q ∈ (u.getD ([],[])).2,q ∈ S'.outs S.lvl ∨ ∃ p ∈ R,q = ρ p
 new : ∀ p ∈ R,(ρ p).l = S.lvl ∧ (ρ p).k = 0 ∧ (ρ p).i ≠ 0 ∧ S.get (ρ p) = none ∧ ∀ s,S'.get p = some s → (S.after u).get (ρ p) = some (aR7 S.lvl ρ 0 s)
 val : ∀ d ∈ AV.deep S.lvl v,d ∈ R
 out : ∀ p ∈ S'.outs S.lvl,∀ s,S'.get p = some s → ∀ d ∈ s.deep S.lvl,d ∈ R
 own : ∀ p ∈ R,∀ s,S'.get p = some s → ∀ d ∈ s.deep S.lvl,d ∈ R
 inj : ∀ p ∈ R,∀ p' ∈ R,ρ p = ρ p' → p = p'
theorem handUp_x [Cfg] {f : FuncId} {S S' : AS} {v : AV} (hup : Cfg.up f S.fn = true) (hv : Vx S' S.lvl v)
  (hs : ∀ p ∈ S'.outs S.lvl,∃ s,S'.get p = some s ∧ bd1 S' S.lvl s) (hun : ∀ p,p.l ≤ S.lvl → p ∉ S'.outs S.lvl → S'.get p = S.get p)
  {D : List Loc} (hD : ∀ d ∈ D,S.lvl < d.l ∧ ∃ s,S'.get d = some s ∧ bd1 S' S.lvl s ∧ ∀ x ∈ s.deep S.lvl,x ∈ D) (hvD : ∀ d ∈ AV.deep S.lvl v,d ∈ D) (hoD : ∀ p ∈ S'.outs S.lvl,∀ s,S'.get p = some s → ∀ d ∈ s.deep S.lvl,d ∈ D) :
  ∃ (u : Upd) (ρ : Loc → Loc) (R : List Loc),ak3 f S S' v = some (b79 S.lvl ρ v,u) ∧ (∀ p ∈ R,p ∈ D) ∧ Handed S S' v u ρ R:=by
 obtain ⟨D0,hD0⟩ : ∃ D0,D0 = v.deep S.lvl ++ (S'.outs S.lvl).flatMap fun p=>match S'.get p with
  | some s=>s.deep S.lvl
  | none=>[]:=⟨_,rfl⟩
 have hD0d : ∀ d ∈ D0,d ∈ D:=by
  intro d hd
  rw [hD0] at hd
  rcases List.mem_append.1 hd with hd | hd
  ·exact hvD d hd
  ·obtain ⟨p,hp,hd⟩:=List.mem_flatMap.1 hd
   obtain ⟨s,h1,h2⟩:=hs p hp
   simp only [h1] at hd
   exact hoD p hp s h1 d hd
 have hDc : ∀ d ∈ D,∃ s,S'.get d = some s ∧ ∀ x ∈ s.deep S.lvl,x ∈ D:=fun d hd=>by
  obtain ⟨_,s,h1,h2,h3⟩:=hD d hd
  exact ⟨s,h1,h3⟩
 obtain ⟨R,hR⟩ : ∃ R,R = reached S.lvl S' (D0.length + S'.tab.weight S.lvl + 1) D0 []:=⟨_,rfl⟩
 obtain ⟨r1,r2,r3,_,r5⟩:=bt1 (l:=S.lvl) (S:=S') (W:=D) hDc (D0.length + S'.tab.weight S.lvl + 1) D0 [] hD0d (fun _ h=>(nomatch h)) List.Pairwise.nil (by
  rw [uw_nil]
  omega) (fun _ h=>(nomatch h))
 rw [← hR] at r1 r2 r3 r5
 obtain ⟨N,hN⟩ : ∃ N,N = aC7 S.lvl (aG8 S.lvl (S'.tab.cut S.lvl)) R:=⟨_,rfl⟩
 have hfst : N.map (·.1) = R:=by rw [hN]; exact bG7
 have hsnd : (N.map (·.2.1)).Nodup:=by rw [hN]; exact bC0
 have hmem : ∀ p q g,(p,q,g) ∈ N → p ∈ R ∧ g = 0 ∧ q.l = S.lvl ∧ q.k = 0 ∧ q.i ≠ 0 ∧ S'.get q = none:=by
  intro p q g h
  rw [hN] at h
  obtain ⟨h1,h2,i,h3,rfl⟩:=bj5 h
  have hp:=aW1 S.lvl (S'.tab.cut S.lvl)
  exact ⟨h1,h2,rfl,rfl,by simp only; omega,aE0 h3⟩
 have hok : aM0 S.lvl S' N = true:=by
  unfold aM0
  simp only [Bool.and_eq_true]
  refine ⟨⟨List.all_eq_true.2 fun x hx=>?_,?_⟩,bF7 hsnd⟩
  ·obtain ⟨p,q,g⟩:=x
   obtain ⟨h1,h2,h3,_,_,h4⟩:=hmem p q g hx
   obtain ⟨k1,s,k2,k3,_⟩:=hD p (r1 p h1)
   simp [k1,h2,h3,h4,k2,k3.live]
  ·rw [hfst]; exact bF7 r2.nodup
 obtain ⟨ρ,hρ⟩ : ∃ ρ : Loc → Loc,∀ d ∈ R,N.get d = some (ρ d,0):=by
  refine ⟨fun d=>((N.get d).getD (d,0)).1,fun d hd=>?_⟩
  obtain ⟨q,g,h⟩:=Names.get_of (N:=N) (p:=d) (by rw [hfst]; exact hd)
  obtain ⟨_,h2,_⟩:=hmem _ _ _ (Names.get_mem h)
  subst h2
  simp [h]
 have hsubv : ∀ d ∈ AV.deep S.lvl v,d ∈ R:=fun d hd=>r3 d (by rw [hD0]; exact List.mem_append.2 (.inl hd))
 have hsubo : ∀ p ∈ S'.outs S.lvl,∀ s,S'.get p = some s → ∀ d ∈ s.deep S.lvl,d ∈ R:=fun p hp s h1 d hd=>r3 d (by
  rw [hD0]
  exact List.mem_append.2 (.inr (List.mem_flatMap.2 ⟨p,hp,by simp only [h1]; exact hd⟩)))
 have hturn : ∀ p s,p ∈ S'.outs S.lvl → S'.get p = some s → renS S.lvl S' N s.gen s = some (aR7 S.lvl ρ s.gen s):=by
  intro p s hp h1
  obtain ⟨s',h1',h2⟩:=hs p hp
  rw [h1] at h1'; cases h1'
  exact h2.ren _ fun d hd=>hρ d (hsubo p hp s h1 d hd)
 have hraise : ∀ p s,p ∈ R → S'.get p = some s → renS S.lvl S' N 0 s = some (aR7 S.lvl ρ 0 s):=by
  intro p s hp h1
  obtain ⟨_,s',h1',h2,_⟩:=hD p (r1 p hp)
  rw [h1] at h1'; cases h1'
  exact h2.ren _ fun d hd=>hρ d (r5 p hp s h1 d hd)
 obtain ⟨t,ht⟩:=bx7 (f:=fun _ s=>renS S.lvl S' N s.gen s) (S':=S') (ps:=S'.outs S.lvl) (t:=S.tab) fun p hp=>by
  obtain ⟨s,h1,_⟩:=hs p hp
  exact ⟨s,_,h1,hturn p s hp h1⟩
 obtain ⟨t2,ht2⟩:=bi0 (l:=S.lvl) (S':=S') (N:=N) (M:=N) (t:=t) fun p q g h=>by
  obtain ⟨h1,rfl,_⟩:=hmem p q g h
  obtain ⟨_,s,k1,_⟩:=hD p (r1 p h1)
  exact ⟨s,_,k1,hraise p s h1 k1⟩
 have hT:=az7 ht
 have hRs:=aG7 ht2 hsnd
 have hhu : ak3 f S S' v = some (b79 S.lvl ρ v,if S'.outs S.lvl = [] ∧ N = [] then none else some (t2,S'.outs S.lvl ++ N.map fun x=>x.2.1)):=by
  unfold ak3
  simp only [hup,if_true]
  generalize hD' : AV.deep S.lvl v ++ List.flatMap _ _ = D'
  have eD : D' = D0:=by rw [← hD',hD0]; rfl
  subst eD
  rw [← hR,← hN,hok,hv.ren fun d hd=>hρ d (hsubv d hd)]
  simp only [Bool.not_true,Bool.false_eq_true,if_false]
  cases ho : S'.outs S.lvl with
  | nil =>
   cases hn : N with
   | nil=>simp
   | cons x r =>
    rw [ho] at ht
    rw [hn] at ht2
    simp only [ax8,Option.some.injEq] at ht
    subst ht
    simp only [hn] at ht2 ⊢
    simp [ax8,ht2]
  | cons p ps =>
   rw [ho] at ht
   simp only [ht,ht2]
   simp
 have hnone : ∀ p q g,(p,q,g) ∈ N → S.get q = none:=fun p q g h=>by
  obtain ⟨_,_,h3,_,_,h4⟩:=hmem p q g h
  have : q ∉ S'.outs S.lvl:=fun hq=>by
   obtain ⟨s,h5,_⟩:=hs q hq
   rw [h4] at h5; cases h5
  rw [← hun q (Nat.le_of_eq h3) this]
  exact h4
 have hinj : ∀ p ∈ R,∀ p' ∈ R,ρ p = ρ p' → p = p':=fun p hp p' hp' e=>by
  have h1:=Names.get_mem (hρ p hp)
  have h2:=Names.get_mem (hρ p' hp')
  have:=bD1 hsnd _ h1 _ h2 e
  exact (Prod.mk.inj this).1
 have hkey : ∀ p q g,(p,q,g) ∈ N → q = ρ p:=fun p q g h=>by
  obtain ⟨h1,_⟩:=hmem p q g h
  have h2:=Names.get_mem (hρ p h1)
  have:=bD1 (f:=fun x : Loc × Loc × Nat=>x.1) (by rw [hfst]; exact r2.nodup) _ h _ h2 rfl
  exact (Prod.mk.inj (Prod.mk.inj this).2).1
 refine ⟨_,ρ,R,hhu,r1,?_⟩
 by_cases hem : S'.outs S.lvl = [] ∧ N = []
 ·rw [if_pos hem]
  have hR0 : R = []:=by rw [← hfst,hem.2]; rfl
  refine ⟨rfl,rfl,rfl,?_,fun _ _ _=>rfl,?_,?_,hsubv,hsubo,r5,hinj⟩
  ·intro q s hq; rw [hem.1] at hq; cases hq
  ·intro q hq; cases hq
  ·intro p hp; rw [hR0] at hp; cases hp
 ·rw [if_neg hem]
  refine ⟨rfl,rfl,rfl,?_,?_,?_,?_,hsubv,hsubo,r5,hinj⟩
  ·intro q s hq hqs
   show t2.get q = _
   rw [hRs.1 q fun p0 g0 hm=>by
    obtain ⟨_,_,_,_,_,h4⟩:=hmem _ _ _ hm
    rw [hqs] at h4; cases h4]
   obtain ⟨s1,s2,h1,h2,h3⟩:=(hT q).2 hq
   rw [hqs] at h1; cases h1
   rw [hturn q s hq hqs] at h2; cases h2
   exact h3
  ·intro q hq hq2
   show t2.get q = S.tab.get q
   simp only [Option.getD_some,List.mem_append,not_or] at hq2
   rw [hRs.1 q fun p0 g0 hm=>hq2.2 (List.mem_map.2 ⟨_,hm,rfl⟩)]
   exact (hT q).1 hq
  ·intro q hq
   simp only [Option.getD_some,List.mem_append] at hq
   rcases hq with hq | hq
   ·exact .inl hq
   ·obtain ⟨⟨p,q',g⟩,h1,h2⟩:=List.mem_map.1 hq
    simp only at h2
    subst h2
    exact .inr ⟨p,(hmem _ _ _ h1).1,hkey _ _ _ h1⟩
  ·intro p hp
   have hm:=Names.get_mem (hρ p hp)
   obtain ⟨_,_,h3,h4,h5,h6⟩:=hmem _ _ _ hm
   refine ⟨h3,h4,h5,hnone _ _ _ hm,fun s hps=>?_⟩
   obtain ⟨s',k1,k2⟩:=hRs.2 _ _ _ hm _ hps
   rw [hraise p s hp hps] at k1
   cases k1
   exact k2
open Go.RowKit
inductive OV where
 | c (v : V)
 | self
 | bb (te : TypeId) (l : List UInt8)
 | gs (n : Nat) (e : TypeId) (es : List (List V))
 | li (n : Nat) (e : TypeId) (es : List (List V))
 | rw (x : Bool) (n : Nat) (e : TypeId) (es : List (List V))
 | it (s : List UInt8) (pos : Nat)
 | ptr (t : TypeId) (os : List OV)
 | mp (ks : List Value) (vs : List OV)
def Gs (S : AS) (n : Nat) (e : TypeId) (es : List (List V)) (a : AV) (F : List Loc) : Prop :=
 (es = [] ∧ (∃ p,a = .lit (.slice p 0 0)) ∧ F = []) ∨ (∃ ys,a = .list .full n ys ∧ ab8 es ys ∧ F = []) ∨
  ∃ q h ys,a = .list (.own q h) n ys ∧ ab8 es ys ∧ S.get q = some (.tok h ys.length n e) ∧ F = [q]
def Li (S : AS) (n : Nat) (e : TypeId) (es : List (List V)) (a : AV) (F : List Loc) : Prop :=
 Gs S n e es a F ∨ ∃ ys,a = .list .no n ys ∧ ab8 es ys ∧ F = []
def Bb (S : AS) (te : TypeId) (l : List UInt8) (a : AV) (F : List Loc) : Prop :=
 (l = [] ∧ a = .lit (.slice none 0 0) ∧ F = []) ∨ ∃ q h,(l ≠ [] ∧ l.length ≤ 1000000000) ∧ a = .list (.own q h) 1 (u8s l) ∧ S.get q = some (.tok h l.length 1 te) ∧ F = [q]
def c_u8 (b : UInt8) : List V:=[.int .u8 b.toNat]
theorem relU8 : ∀ l : List UInt8,ab8 (l.map c_u8) (u8s l)
 | []=>by unfold ab8; rfl
 | b :: r=>by
  rw [List.map_cons]
  unfold ab8
  exact ⟨[.lit (.int .u8 b.toNat)],u8s r,rfl,by unfold c_u8 ab1; exact ⟨_,[],rfl,by unfold RelC; rfl,by unfold ab1; rfl⟩,relU8 r⟩
theorem Bb.gs {S : AS} {te : TypeId} {l : List UInt8} {a : AV} {F : List Loc} (h : Bb S te l a F) : Gs S 1 te (l.map c_u8) a F:=by
 rcases h with ⟨rfl,rfl,rfl⟩ | ⟨q,k,_,rfl,h2,rfl⟩
 ·exact .inl ⟨rfl,⟨none,rfl⟩,rfl⟩
 ·exact .inr (.inr ⟨q,k,u8s l,rfl,relU8 l,by rw [u8s_len]; exact h2,rfl⟩)
def Rw (S : AS) (x : Bool) (n : Nat) (e : TypeId) (es : List (List V)) (a : AV) (F : List Loc) : Prop :=
 (es = [] ∧ Gs S n e [] a F) ∨
  ∃ q h ys zs,a = .row .room q h (ys.length + zs.length) 0 ys.length n ∧ (ab8 es ys ∧ (∀ y ∈ es,y.length = n) ∧ AV.ah3 zs = true ∧ (∀ z ∈ zs,z.length = n) ∧ (x = false → zs = []) ∧ es ≠ []) ∧ S.get q = some (.row h (ys.length + zs.length) n e (ys ++ zs).flatten) ∧ F = [q]
mutual
def AtO (S : AS) (p : Loc) (g i : Nat) : OV → AV → List Loc → Prop
 | .c v,a,F=>RelC v a ∧ F = []
 | .self,a,F=>(a = .lit (.pointer none) ∨ a = .ptr p g 0 i) ∧ F = []
 | .bb te l,a,F=>Bb S te l a F
 | .gs n e es,a,F=>Gs S n e es a F
 | .li n e es,a,F=>Li S n e es a F
 | .rw x n e es,a,F=>Rw S x n e es a F
 | .it s pos,a,F=>∃ q h,a = .ptr q h 0 0 ∧ F = [q] ∧ S.get q = some (.iter h (bs s) pos)
 | .ptr t os,a,F=>∃ q h cs F',a = .ptr q h 0 0 ∧ F = q :: F' ∧ S.get q = some (.obj h t cs) ∧ AtL S q h 0 os cs F'
 | .mp ks vs,a,F=>∃ q h es ck F',a = .mref q h ∧ F = q :: F' ∧ S.get q = some (.map h es ck) ∧ es.map (·.key) = ks ∧ (es.map (·.born)).Nodup ∧ (∀ e ∈ es,e.born < ck) ∧ AtL S q h 0 vs (es.map (·.val)) F'
def AtL (S : AS) (p : Loc) (g i : Nat) : List OV → List AV → List Loc → Prop
 | [],cs,F=>cs = [] ∧ F = []
 | o :: r,cs,F=>∃ a t F1 F2,cs = a :: t ∧ F = F1 ++ F2 ∧ AtO S p g i o a F1 ∧ AtL S p g (i + 1) r t F2
end
theorem Gs.local {S S' : AS} {n : Nat} {e : TypeId} {es : List (List V)} {a : AV} {F : List Loc} (h : Gs S n e es a F) (hF : ∀ q ∈ F,S'.get q = S.get q) : Gs S' n e es a F:=by
 rcases h with h | h | ⟨q,k,ys,h1,h2,h3,rfl⟩
 ·exact .inl h
 ·exact .inr (.inl h)
 ·exact .inr (.inr ⟨q,k,ys,h1,h2,by rw [hF q (List.mem_singleton.2 rfl)]; exact h3,rfl⟩)
theorem Bb.local {S S' : AS} {te : TypeId} {l : List UInt8} {a : AV} {F : List Loc} (h : Bb S te l a F) (hF : ∀ q ∈ F,S'.get q = S.get q) : Bb S' te l a F:=by
 rcases h with h | ⟨q,k,h1,h2,h3,rfl⟩
 ·exact .inl h
 ·exact .inr ⟨q,k,h1,h2,by rw [hF q (List.mem_singleton.2 rfl)]; exact h3,rfl⟩
theorem Li.local {S S' : AS} {n : Nat} {e : TypeId} {es : List (List V)} {a : AV} {F : List Loc} (h : Li S n e es a F) (hF : ∀ q ∈ F,S'.get q = S.get q) : Li S' n e es a F:=by
 rcases h with h | h
 ·exact .inl (h.local hF)
 ·exact .inr h
theorem Rw.local {S S' : AS} {x : Bool} {n : Nat} {e : TypeId} {es : List (List V)} {a : AV} {F : List Loc} (h : Rw S x n e es a F) (hF : ∀ q ∈ F,S'.get q = S.get q) : Rw S' x n e es a F:=by
 rcases h with ⟨h0,h⟩ | ⟨q,k,ys,zs,h1,h2,h3,rfl⟩
 ·exact .inl ⟨h0,h.local hF⟩
 ·exact .inr ⟨q,k,ys,zs,h1,h2,by rw [hF q (List.mem_singleton.2 rfl)]; exact h3,rfl⟩
mutual
theorem AtO.local {S S' : AS} {p : Loc} {g i : Nat} : ∀ {o : OV} {a : AV} {F : List Loc},AtO S p g i o a F → (∀ q ∈ F,S'.get q = S.get q) → AtO S' p g i o a F
 | .c v,a,F,h,_=>by unfold AtO at h ⊢; exact h
 | .self,a,F,h,_=>by unfold AtO at h ⊢; exact h
 | .bb te l,a,F,h,hF=>by unfold AtO at h ⊢; exact h.local hF
 | .gs n e es,a,F,h,hF=>by unfold AtO at h ⊢; exact h.local hF
 | .li n e es,a,F,h,hF=>by unfold AtO at h ⊢; exact h.local hF
 | .rw x n e es,a,F,h,hF=>by unfold AtO at h ⊢; exact h.local hF
 | .it s pos,a,F,h,hF=>by
  unfold AtO at h ⊢
  obtain ⟨q,k,h1,rfl,h2⟩:=h
  exact ⟨q,k,h1,rfl,by rw [hF q (List.mem_cons_self ..)]; exact h2⟩
 | .ptr t os,a,F,h,hF=>by
  unfold AtO at h ⊢
  obtain ⟨q,k,cs,F',h1,rfl,h2,h3⟩:=h
  exact ⟨q,k,cs,F',h1,rfl,by rw [hF q (List.mem_cons_self ..)]; exact h2,AtL.local h3 fun x hx=>hF x (List.mem_cons_of_mem _ hx)⟩
 | .mp ks vs,a,F,h,hF=>by
  unfold AtO at h ⊢
  obtain ⟨q,k,es,ck,F',h1,rfl,h2,h3,h4,h5,h6⟩:=h
  exact ⟨q,k,es,ck,F',h1,rfl,by rw [hF q (List.mem_cons_self ..)]; exact h2,h3,h4,h5,AtL.local h6 fun x hx=>hF x (List.mem_cons_of_mem _ hx)⟩
theorem AtL.local {S S' : AS} {p : Loc} {g : Nat} : ∀ {os : List OV} {i : Nat} {cs : List AV} {F : List Loc},AtL S p g i os cs F → (∀ q ∈ F,S'.get q = S.get q) → AtL S' p g i os cs F
 | [],i,cs,F,h,_=>by unfold AtL at h ⊢; exact h
 | o :: r,i,cs,F,h,hF=>by
  unfold AtL at h ⊢
  obtain ⟨a,t,F1,F2,h1,rfl,h2,h3⟩:=h
  exact ⟨a,t,F1,F2,h1,rfl,AtO.local h2 fun x hx=>hF x (List.mem_append.2 (.inl hx)),AtL.local h3 fun x hx=>hF x (List.mem_append.2 (.inr hx))⟩
end
def OV.sel : OV → Bool
 | .self=>false
 | _=>true
theorem AtO.place {S : AS} {p p' : Loc} {g g' i i' : Nat} {o : OV} {a : AV} {F : List Loc} (h : AtO S p g i o a F) (ho : o.sel = true) : AtO S p' g' i' o a F:=by
 cases o with
 | self=>cases ho
 | _=>unfold AtO at h ⊢; exact h
theorem Cx.gt {S : AS} {l : Nat} {a : AV} (h : Cx S l a) : ∀ x ∈ AV.deep l a,l < x.l:=by
 intro x hx
 cases h with
 | c h=>rw [ar9 h] at hx; cases hx
 | p h=>simp only [AV.deep,if_pos h] at hx; cases hx
 | pd h=>simp only [AV.deep,if_neg (Nat.not_le.2 h),List.mem_singleton] at hx; subst hx; exact h
 | m h=>simp only [AV.deep,if_pos h] at hx; cases hx
 | md h=>simp only [AV.deep,if_neg (Nat.not_le.2 h),List.mem_singleton] at hx; subst hx; exact h
 | r h=>simp only [AV.deep,if_pos h] at hx; cases hx
 | rd h=>simp only [AV.deep,if_neg (Nat.not_le.2 h),List.mem_singleton] at hx; subst hx; exact h
 | t h h'=>simp only [AV.deep,if_pos h',au0 h,List.append_nil] at hx; cases hx
 | d h h'=>simp only [AV.deep,if_neg (Nat.not_le.2 h'),au0 h,List.append_nil,List.mem_singleton] at hx; subst hx; exact h'
theorem bR8 {S : AS} {l : Nat} : ∀ {cs : List AV},(∀ a ∈ cs,Cx S l a) → ∀ x ∈ AV.am4 l cs,l < x.l
 | [],_,x,hx=>by cases hx
 | a :: r,h,x,hx=>by
  simp only [AV.am4,List.mem_append] at hx
  rcases hx with hx | hx
  ·exact (h a (List.mem_cons_self ..)).gt x hx
  ·exact bR8 (fun y hy=>h y (List.mem_cons_of_mem _ hy)) x hx
theorem Cy.gt {S : AS} {l : Nat} {a : AV} (h : Cy S l a) : ∀ x ∈ AV.deep l a,l < x.l:=by
 rcases h with h | ⟨cs,rfl,h⟩
 ·exact h.gt
 ·simp only [AV.deep]
  exact bR8 h
theorem bo0 {S : AS} {l : Nat} : ∀ {cs : List AV},(∀ a ∈ cs,Cy S l a) → ∀ x ∈ AV.am4 l cs,l < x.l
 | [],_,x,hx=>by cases hx
 | a :: r,h,x,hx=>by
  simp only [AV.am4,List.mem_append] at hx
  rcases hx with hx | hx
  ·exact (h a (List.mem_cons_self ..)).gt x hx
  ·exact bo0 (fun y hy=>h y (List.mem_cons_of_mem _ hy)) x hx
def bn6 (S : AS) (l : Nat) (F : List Loc) (q : Loc) : Prop:=∃ s,S.get q = some s ∧ bd1 S l s ∧ ∀ x ∈ s.deep l,x ∈ F
theorem bn6.mono {S : AS} {l : Nat} {F F' : List Loc} {q : Loc} (h : bn6 S l F q) (hs : ∀ x ∈ F,x ∈ F') : bn6 S l F' q:=by
 obtain ⟨s,h1,h2,h3⟩:=h
 exact ⟨s,h1,h2,fun x hx=>hs x (h3 x hx)⟩
theorem Gs.reg {S : AS} {l n : Nat} {e : TypeId} {es : List (List V)} {a : AV} {F : List Loc} (h : Gs S n e es a F) : Cx S l a ∧ (∀ x ∈ AV.deep l a,x ∈ F) ∧ ∀ q ∈ F,bn6 S l F q:=by
 rcases h with ⟨_,⟨p,rfl⟩,rfl⟩ | ⟨ys,rfl,h2,rfl⟩ | ⟨q,k,ys,rfl,h2,h3,rfl⟩
 ·exact ⟨.c rfl,fun x hx=>(nomatch hx),fun q hq=>(nomatch hq)⟩
 ·have hc : AV.closed (.list .full n ys) = true:=by simp [AV.closed,ap1.closed,h2.closed]
  exact ⟨.c hc,fun x hx=>(by rw [ar9 hc] at hx; cases hx),fun q hq=>(nomatch hq)⟩
 ·refine ⟨?_,fun x hx=>?_,fun x hx=>?_⟩
  ·rcases Nat.lt_or_ge l q.l with hl | hl
   ·exact .d h2.closed hl h3
   ·exact .t h2.closed hl
  ·simp only [AV.deep,au0 h2.closed,List.append_nil] at hx
   split at hx
   ·cases hx
   ·exact hx
  ·rw [List.mem_singleton] at hx
   subst hx
   exact ⟨_,h3,.tok,fun y hy=>(nomatch hy)⟩
theorem Li.reg {S : AS} {l n : Nat} {e : TypeId} {es : List (List V)} {a : AV} {F : List Loc} (h : Li S n e es a F) : Cx S l a ∧ (∀ x ∈ AV.deep l a,x ∈ F) ∧ ∀ q ∈ F,bn6 S l F q:=by
 rcases h with h | ⟨ys,rfl,h2,rfl⟩
 ·exact h.reg
 ·have hc : AV.closed (.list .no n ys) = true:=by simp [AV.closed,ap1.closed,h2.closed]
  exact ⟨.c hc,fun x hx=>(by rw [ar9 hc] at hx; cases hx),fun q hq=>(nomatch hq)⟩
theorem aE2 : ∀ {ys : List (List AV)},AV.ah3 ys = true → ∀ a ∈ ys.flatten,a.closed = true
 | [],_,a,h=>by cases h
 | y :: r,h,a,ha=>by
  simp only [AV.ah3,Bool.and_eq_true] at h
  simp only [List.flatten_cons,List.mem_append] at ha
  rcases ha with ha | ha
  ·exact az5 h.1 a ha
  ·exact aE2 h.2 a ha
theorem aG0 {l : Nat} {cs : List AV} (h : ∀ a ∈ cs,a.closed = true) : AV.am4 l cs = []:=by
 induction cs with
 | nil=>rfl
 | cons a r ih =>
  simp only [AV.am4,ar9 (h a (List.mem_cons_self ..)),List.nil_append]
  exact ih fun x hx=>h x (List.mem_cons_of_mem _ hx)
theorem aG9 : ∀ {xs ys : List (List AV)},AV.ah3 xs = true → AV.ah3 ys = true → AV.ah3 (xs ++ ys) = true
 | [],ys,_,h=>h
 | x :: r,ys,h,h'=>by
  simp only [AV.ah3,Bool.and_eq_true] at h
  simp only [List.cons_append,AV.ah3,h.1,aG9 h.2 h',Bool.and_self]
theorem Rw.reg {S : AS} {x0 : Bool} {l n : Nat} {e : TypeId} {es : List (List V)} {a : AV} {F : List Loc} (h : Rw S x0 n e es a F) : Cx S l a ∧ (∀ x ∈ AV.deep l a,x ∈ F) ∧ ∀ q ∈ F,bn6 S l F q:=by
 rcases h with ⟨_,h⟩ | ⟨q,k,ys,zs,rfl,h2,h3,rfl⟩
 ·exact h.reg
 ·have hcl:=aE2 (aG9 h2.1.closed h2.2.2.1)
  refine ⟨?_,fun x hx=>?_,fun x hx=>?_⟩
  ·rcases Nat.lt_or_ge l q.l with hl | hl
   ·exact .rd hl h3 rfl rfl rfl
   ·exact .r hl
  ·simp only [AV.deep] at hx
   split at hx
   ·cases hx
   ·exact hx
  ·rw [List.mem_singleton] at hx
   subst hx
   exact ⟨_,h3,.row fun a ha=>.c (hcl a ha),fun y hy=>by
    simp only [ab3.deep,aG0 hcl] at hy
    cases hy⟩
theorem bo5 {l : Nat} : ∀ {es : List ah8},(es.flatMap fun e=>AV.deep l e.val) = AV.am4 l (es.map (·.val))
 | []=>rfl
 | e :: r=>by
  simp only [List.flatMap_cons,List.map_cons,AV.am4]
  rw [bo5 (es:=r)]
mutual
theorem AtO.reg {S : AS} {p : Loc} {g i l : Nat} (hp : p.l ≤ l ∨ ∃ s,S.get p = some s ∧ s.live = true ∧ s.gen = g ∧ s.ext = 0) : ∀ {o : OV} {a : AV} {F : List Loc},AtO S p g i o a F → Cx S l a ∧ (∀ x ∈ AV.deep l a,x ∈ F ∨ x = p) ∧ ∀ q ∈ F,bn6 S l F q
 | .c v,a,F,h=>by
  unfold AtO at h
  obtain ⟨h,rfl⟩:=h
  exact ⟨.c h.closed,fun x hx=>(by rw [ar9 h.closed] at hx; cases hx),fun q hq=>(nomatch hq)⟩
 | .self,a,F,h=>by
  unfold AtO at h
  obtain ⟨rfl | rfl,rfl⟩:=h
  ·exact ⟨.c rfl,fun x hx=>(nomatch hx),fun q hq=>(nomatch hq)⟩
  ·refine ⟨?_,fun x hx=>?_,fun q hq=>(nomatch hq)⟩
   ·rcases Nat.lt_or_ge l p.l with hl | hl
    ·rcases hp with hp | ⟨s,h1,h2,h3,h4⟩
     ·omega
     ·exact .pd hl h1 h2 h3 h4
    ·exact .p hl
   ·simp only [AV.deep] at hx
    split at hx
    ·cases hx
    ·exact .inr (List.mem_singleton.1 hx)
 | .bb te l,a,F,h=>by
  unfold AtO at h
  exact ⟨h.gs.reg.1,fun x hx=>.inl (h.gs.reg.2.1 x hx),h.gs.reg.2.2⟩
 | .gs n e es,a,F,h=>by
  unfold AtO at h
  exact ⟨h.reg.1,fun x hx=>.inl (h.reg.2.1 x hx),h.reg.2.2⟩
 | .li n e es,a,F,h=>by
  unfold AtO at h
  exact ⟨h.reg.1,fun x hx=>.inl (h.reg.2.1 x hx),h.reg.2.2⟩
 | .rw x0 n e es,a,F,h=>by
  unfold AtO at h
  exact ⟨h.reg.1,fun x hx=>.inl (h.reg.2.1 x hx),h.reg.2.2⟩
 | .it s pos,a,F,h=>by
  unfold AtO at h
  obtain ⟨q,k,rfl,rfl,h2⟩:=h
  refine ⟨?_,fun x hx=>?_,fun x hx=>?_⟩
  ·rcases Nat.lt_or_ge l q.l with hl | hl
   ·exact .pd hl h2 rfl rfl rfl
   ·exact .p hl
  ·simp only [AV.deep] at hx
   split at hx
   ·cases hx
   ·exact .inl hx
  ·rw [List.mem_singleton] at hx
   subst hx
   exact ⟨_,h2,.itr,fun y hy=>(nomatch hy)⟩
 | .ptr t os,a,F,h=>by
  unfold AtO at h
  obtain ⟨q,k,cs,F',rfl,rfl,h2,h3⟩:=h
  obtain ⟨k1,k2,k3⟩:=AtL.reg (l:=l) (.inr ⟨_,h2,rfl,rfl,rfl⟩) h3
  refine ⟨?_,fun x hx=>?_,fun x hx=>?_⟩
  ·rcases Nat.lt_or_ge l q.l with hl | hl
   ·exact .pd hl h2 rfl rfl rfl
   ·exact .p hl
  ·simp only [AV.deep] at hx
   split at hx
   ·cases hx
   ·rw [List.mem_singleton.1 hx]; exact .inl (List.mem_cons_self ..)
  ·rcases List.mem_cons.1 hx with rfl | hx
   ·refine ⟨_,h2,.obj k1,fun y hy=>?_⟩
    rcases k2 y hy with h | rfl
    ·exact List.mem_cons_of_mem _ h
    ·exact List.mem_cons_self ..
   ·exact (k3 x hx).mono fun y hy=>List.mem_cons_of_mem _ hy
 | .mp ks vs,a,F,h=>by
  unfold AtO at h
  obtain ⟨q,k,es,ck,F',rfl,rfl,h2,h3,h4,h5,h6⟩:=h
  obtain ⟨k1,k2,k3⟩:=AtL.reg (l:=l) (.inr ⟨_,h2,rfl,rfl,rfl⟩) h6
  refine ⟨?_,fun x hx=>?_,fun x hx=>?_⟩
  ·rcases Nat.lt_or_ge l q.l with hl | hl
   ·exact .md hl h2 rfl rfl rfl
   ·exact .m hl
  ·simp only [AV.deep] at hx
   split at hx
   ·cases hx
   ·rw [List.mem_singleton.1 hx]; exact .inl (List.mem_cons_self ..)
  ·rcases List.mem_cons.1 hx with rfl | hx
   ·refine ⟨_,h2,.map fun e he=>k1 _ (List.mem_map.2 ⟨e,he,rfl⟩),fun y hy=>?_⟩
    simp only [ab3.deep,bo5] at hy
    rcases k2 y hy with h | rfl
    ·exact List.mem_cons_of_mem _ h
    ·exact List.mem_cons_self ..
   ·exact (k3 x hx).mono fun y hy=>List.mem_cons_of_mem _ hy
theorem AtL.reg {S : AS} {p : Loc} {g l : Nat} (hp : p.l ≤ l ∨ ∃ s,S.get p = some s ∧ s.live = true ∧ s.gen = g ∧ s.ext = 0) : ∀ {os : List OV} {i : Nat} {cs : List AV} {F : List Loc},AtL S p g i os cs F → (∀ a ∈ cs,Cx S l a) ∧ (∀ x ∈ AV.am4 l cs,x ∈ F ∨ x = p) ∧ ∀ q ∈ F,bn6 S l F q
 | [],i,cs,F,h=>by
  unfold AtL at h
  obtain ⟨rfl,rfl⟩:=h
  exact ⟨fun a ha=>(nomatch ha),fun x hx=>(nomatch hx),fun q hq=>(nomatch hq)⟩
 | o :: r,i,cs,F,h=>by
  unfold AtL at h
  obtain ⟨a,t,F1,F2,rfl,rfl,h2,h3⟩:=h
  obtain ⟨a1,a2,a3⟩:=AtO.reg (l:=l) hp h2
  obtain ⟨b1,b2,b3⟩:=AtL.reg (l:=l) hp h3
  refine ⟨fun x hx=>?_,fun x hx=>?_,fun x hx=>?_⟩
  ·rcases List.mem_cons.1 hx with rfl | hx
   ·exact a1
   ·exact b1 x hx
  ·simp only [AV.am4,List.mem_append] at hx
   rcases hx with hx | hx
   ·exact (a2 x hx).imp (fun h=>List.mem_append.2 (.inl h)) id
   ·exact (b2 x hx).imp (fun h=>List.mem_append.2 (.inr h)) id
  ·rcases List.mem_append.1 hx with hx | hx
   ·exact (a3 x hx).mono fun y hy=>List.mem_append.2 (.inl hy)
   ·exact (b3 x hx).mono fun y hy=>List.mem_append.2 (.inr hy)
end
def rL (l : Nat) (ρ : Loc → Loc) (q : Loc) : Loc:=if q.l ≤ l then q else ρ q
def rG (l : Nat) (q : Loc) (g : Nat) : Nat:=if q.l ≤ l then g else 0
def Turned (l : Nat) (ρ : Loc → Loc) (S S' : AS) (F : List Loc) : Prop:=∀ q ∈ F,∀ s,S.get q = some s → S'.get (rL l ρ q) = some (aR7 l ρ (rG l q s.gen) s)
theorem Turned.sub {l : Nat} {ρ : Loc → Loc} {S S' : AS} {F F' : List Loc} (h : Turned l ρ S S' F) (hs : ∀ x ∈ F',x ∈ F) : Turned l ρ S S' F':=fun q hq=>h q (hs q hq)
theorem Gs.ren {l : Nat} {ρ : Loc → Loc} {S S' : AS} {n : Nat} {e : TypeId} {es : List (List V)} {a : AV} {F : List Loc} (h : Gs S n e es a F) (ht : Turned l ρ S S' F) : Gs S' n e es (renX l ρ a) (F.map (rL l ρ)):=by
 rcases h with ⟨h0,⟨p,rfl⟩,rfl⟩ | ⟨ys,rfl,h2,rfl⟩ | ⟨q,k,ys,rfl,h2,h3,rfl⟩
 ·exact .inl ⟨h0,⟨p,rfl⟩,rfl⟩
 ·exact .inr (.inl ⟨ys,rfl,h2,rfl⟩)
 ·refine .inr (.inr ⟨rL l ρ q,rG l q k,ys,?_,h2,?_,rfl⟩)
  ·unfold renX aA1 rL rG
   simp only
   by_cases hl : q.l ≤ l <;> simp [hl]
  ·exact ht q (List.mem_singleton.2 rfl) _ h3
theorem Bb.ren {l : Nat} {ρ : Loc → Loc} {S S' : AS} {te : TypeId} {t : List UInt8} {a : AV} {F : List Loc} (h : Bb S te t a F) (ht : Turned l ρ S S' F) : Bb S' te t (renX l ρ a) (F.map (rL l ρ)):=by
 rcases h with ⟨rfl,rfl,rfl⟩ | ⟨q,k,h1,rfl,h3,rfl⟩
 ·exact .inl ⟨rfl,rfl,rfl⟩
 ·refine .inr ⟨rL l ρ q,rG l q k,h1,?_,?_,rfl⟩
  ·unfold renX aA1 rL rG
   simp only
   by_cases hl : q.l ≤ l <;> simp [hl]
  ·exact ht q (List.mem_singleton.2 rfl) _ h3
theorem Li.ren {l : Nat} {ρ : Loc → Loc} {S S' : AS} {n : Nat} {e : TypeId} {es : List (List V)} {a : AV} {F : List Loc} (h : Li S n e es a F) (ht : Turned l ρ S S' F) : Li S' n e es (renX l ρ a) (F.map (rL l ρ)):=by
 rcases h with h | ⟨ys,rfl,h2,rfl⟩
 ·exact .inl (h.ren ht)
 ·exact .inr ⟨ys,rfl,h2,rfl⟩
theorem ay6 {l : Nat} {ρ : Loc → Loc} {cs : List AV} (h : ∀ a ∈ cs,a.closed = true) : cs.map (renX l ρ) = cs:=by
 induction cs with
 | nil=>rfl
 | cons a r ih=>rw [List.map_cons,as7 (h a (List.mem_cons_self ..)),ih fun x hx=>h x (List.mem_cons_of_mem _ hx)]
theorem Rw.ren {l : Nat} {ρ : Loc → Loc} {S S' : AS} {x0 : Bool} {n : Nat} {e : TypeId} {es : List (List V)} {a : AV} {F : List Loc} (h : Rw S x0 n e es a F) (ht : Turned l ρ S S' F) : Rw S' x0 n e es (renX l ρ a) (F.map (rL l ρ)):=by
 rcases h with ⟨h0,h⟩ | ⟨q,k,ys,zs,rfl,h2,h3,rfl⟩
 ·exact .inl ⟨h0,h.ren ht⟩
 ·refine .inr ⟨rL l ρ q,rG l q k,ys,zs,?_,h2,?_,rfl⟩
  ·unfold renX aA1 rL rG
   simp only
   by_cases hl : q.l ≤ l <;> simp [hl]
  ·have:=ht q (List.mem_singleton.2 rfl) _ h3
   simp only [aR7,ay6 (aE2 (aG9 h2.1.closed h2.2.2.1))] at this
   exact this
mutual
theorem AtO.ren {l : Nat} {ρ : Loc → Loc} {S S' : AS} {p : Loc} {g i : Nat} : ∀ {o : OV} {a : AV} {F : List Loc},AtO S p g i o a F → Turned l ρ S S' F → AtO S' (rL l ρ p) (rG l p g) i o (renX l ρ a) (F.map (rL l ρ))
 | .c v,a,F,h,_=>by
  unfold AtO at h ⊢
  obtain ⟨h,rfl⟩:=h
  rw [as7 h.closed]
  exact ⟨h,rfl⟩
 | .self,a,F,h,_=>by
  unfold AtO at h ⊢
  obtain ⟨rfl | rfl,rfl⟩:=h
  ·exact ⟨.inl rfl,rfl⟩
  ·refine ⟨.inr ?_,rfl⟩
   unfold renX aA1 rL rG
   simp only
   by_cases hl : p.l ≤ l <;> simp [hl]
 | .bb te t,a,F,h,ht=>by unfold AtO at h ⊢; exact h.ren ht
 | .gs n e es,a,F,h,ht=>by unfold AtO at h ⊢; exact h.ren ht
 | .li n e es,a,F,h,ht=>by unfold AtO at h ⊢; exact h.ren ht
 | .rw x0 n e es,a,F,h,ht=>by unfold AtO at h ⊢; exact h.ren ht
 | .it s pos,a,F,h,ht=>by
  unfold AtO at h ⊢
  obtain ⟨q,k,rfl,rfl,h2⟩:=h
  refine ⟨rL l ρ q,rG l q k,?_,rfl,ht q (List.mem_cons_self ..) _ h2⟩
  unfold renX aA1 rL rG
  simp only
  by_cases hl : q.l ≤ l <;> simp [hl]
 | .ptr t os,a,F,h,ht=>by
  unfold AtO at h ⊢
  obtain ⟨q,k,cs,F',rfl,rfl,h2,h3⟩:=h
  refine ⟨rL l ρ q,rG l q k,cs.map (renX l ρ),F'.map (rL l ρ),?_,rfl,ht q (List.mem_cons_self ..) _ h2,AtL.ren h3 (ht.sub fun x hx=>List.mem_cons_of_mem _ hx)⟩
  unfold renX aA1 rL rG
  simp only
  by_cases hl : q.l ≤ l <;> simp [hl]
 | .mp ks vs,a,F,h,ht=>by
  unfold AtO at h ⊢
  obtain ⟨q,k,es,ck,F',rfl,rfl,h2,h3,h4,h5,h6⟩:=h
  refine ⟨rL l ρ q,rG l q k,es.map (cf9 l ρ),ck,F'.map (rL l ρ),?_,rfl,ht q (List.mem_cons_self ..) _ h2,?_,?_,?_,?_⟩
  ·unfold renX aA1 rL rG
   simp only
   by_cases hl : q.l ≤ l <;> simp [hl]
  ·rw [List.map_map]; exact h3
  ·rw [List.map_map]; exact h4
  ·intro e he
   obtain ⟨e',he',rfl⟩:=List.mem_map.1 he
   exact h5 e' he'
  ·have:=AtL.ren h6 (ht.sub fun x hx=>List.mem_cons_of_mem _ hx)
   rw [List.map_map] at this ⊢
   exact this
theorem AtL.ren {l : Nat} {ρ : Loc → Loc} {S S' : AS} {p : Loc} {g : Nat} : ∀ {os : List OV} {i : Nat} {cs : List AV} {F : List Loc},AtL S p g i os cs F → Turned l ρ S S' F → AtL S' (rL l ρ p) (rG l p g) i os (cs.map (renX l ρ)) (F.map (rL l ρ))
 | [],i,cs,F,h,_=>by
  unfold AtL at h ⊢
  obtain ⟨rfl,rfl⟩:=h
  exact ⟨rfl,rfl⟩
 | o :: r,i,cs,F,h,ht=>by
  unfold AtL at h ⊢
  obtain ⟨a,t,F1,F2,rfl,rfl,h2,h3⟩:=h
  exact ⟨_,_,_,_,rfl,by rw [List.map_append],AtO.ren h2 (ht.sub fun x hx=>List.mem_append.2 (.inl hx)),AtL.ren h3 (ht.sub fun x hx=>List.mem_append.2 (.inr hx))⟩
end
inductive OA where
 | r (v : RV)
 | o (v : OV)
 | x
 | ag (os : List OV)
def OA.keep : OA → Bool
 | .x=>false
 | _=>true
abbrev aO6 : Loc:=⟨0,0,0⟩
def AtA (S : AS) : OA → AV → List Loc → Prop
 | .r v,a,F=>v.C a ∧ F = []
 | .o v,a,F=>AtO S aO6 0 0 v a F
 | .x,_,F=>F = []
 | .ag os,a,F=>∃ cs,a = .agg cs ∧ AtL S aO6 0 0 os cs F
def AtAs (S : AS) : List OA → List AV → List Loc → Prop
 | [],l,F=>l = [] ∧ F = []
 | o :: r,l,F=>∃ a t F1 F2,l = a :: t ∧ F = F1 ++ F2 ∧ AtA S o a F1 ∧ AtAs S r t F2
inductive Leaf : ab3 → Prop
 | tok {g n sz : Nat} {e : TypeId} : Leaf (.tok g n sz e)
 | row {g n sz : Nat} {e : TypeId} {cs : List AV} : (∀ a ∈ cs,a.closed = true) → Leaf (.row g n sz e cs)
 | map {g ck : Nat} {es : List ah8} : (∀ e ∈ es,e.val.closed = true) → Leaf (.map g es ck)
 | itr {g pos : Nat} {s : ByteArray} : Leaf (.iter g s pos)
 | obj {g : Nat} {t : TypeId} {cs : List AV} : (∀ a ∈ cs,a.closed = true) → Leaf (.obj g t cs)
def av7 (S : AS) (J : List Loc) : Prop:=∀ q ∈ J,∃ s,S.get q = some s ∧ Leaf s
theorem Leaf.x {s : ab3} (h : Leaf s) (S : AS) (l : Nat) : bd1 S l s ∧ s.deep l = []:=by
 cases h with
 | tok=>exact ⟨.tok,rfl⟩
 | row h=>exact ⟨.row fun a ha=>.c (h a ha),aG0 h⟩
 | itr=>exact ⟨.itr,rfl⟩
 | obj h=>exact ⟨.obj fun a ha=>.c (h a ha),aG0 h⟩
 | map h=>exact ⟨.map fun e he=>.c (h e he),by
   simp only [ab3.deep,bo5]
   exact aG0 fun a ha=>by
    obtain ⟨e,he,rfl⟩:=List.mem_map.1 ha
    exact h e he⟩
theorem av7.local {S S' : AS} {J : List Loc} (h : av7 S J) (hF : ∀ q ∈ J,S'.get q = S.get q) : av7 S' J:=fun q hq=>by
 rw [hF q hq]; exact h q hq
theorem av7.reg {S : AS} {l : Nat} {J : List Loc} (h : av7 S J) : ∀ q ∈ J,bn6 S l J q:=fun q hq=>by
 obtain ⟨s,h1,h2⟩:=h q hq
 exact ⟨s,h1,(h2.x S l).1,fun x hx=>by rw [(h2.x S l).2] at hx; cases hx⟩
theorem av7.ren {l : Nat} {ρ : Loc → Loc} {S S' : AS} {J : List Loc} (h : av7 S J) (ht : Turned l ρ S S' J) : av7 S' (J.map (rL l ρ)):=by
 intro q hq
 obtain ⟨q',hq',rfl⟩:=List.mem_map.1 hq
 obtain ⟨s,h1,h2⟩:=h q' hq'
 refine ⟨_,ht q' hq' s h1,?_⟩
 cases h2 with
 | tok=>exact .tok
 | row h=>simp only [aR7,ay6 h]; exact .row h
 | itr=>exact .itr
 | obj h=>simp only [aR7,ay6 h]; exact .obj h
 | map h =>
  refine .map fun e he=>?_
  obtain ⟨e',he',rfl⟩:=List.mem_map.1 he
  simp only [cf9,as7 (h e' he')]
  exact h e' he'
inductive One : AV → Prop
 | mk {a : AV} : (∀ cs,a ≠ .tup cs) → One a
theorem AtA.reg {S : AS} {l : Nat} {o : OA} {a : AV} {F : List Loc} (ho : o.keep = true) (h : AtA S o a F) : Cy S l a ∧ (∀ x ∈ AV.deep l a,x ∈ F) ∧ ∀ q ∈ F,bn6 S l F q:=by
 cases o with
 | r v =>
  obtain ⟨h,rfl⟩:=h
  have hc : a.closed = true:=by
   cases v with
   | int | bool | str=>cases h; rfl
   | sl=>exact RelC.closed h
   | agg M=>obtain ⟨cs,rfl,h⟩:=h; simp [AV.closed,h.closed]
   | v x=>exact RelC.closed h
  exact ⟨.inl (.c hc),fun x hx=>(by rw [ar9 hc] at hx; cases hx),fun q hq=>(nomatch hq)⟩
 | x=>cases ho
 | ag os =>
  obtain ⟨cs,rfl,h⟩:=h
  obtain ⟨h1,h2,h3⟩:=AtL.reg (l:=l) (p:=aO6) (g:=0) (.inl (Nat.zero_le _)) h
  refine ⟨.inr ⟨cs,rfl,h1⟩,fun x hx=>?_,h3⟩
  simp only [AV.deep] at hx
  refine (h2 x hx).resolve_right fun e=>?_
  have:=bR8 h1 x hx
  subst e
  simp at this
 | o v =>
  obtain ⟨h1,h2,h3⟩:=AtO.reg (l:=l) (p:=aO6) (g:=0) (.inl (Nat.zero_le _)) h
  refine ⟨.inl h1,fun x hx=>(h2 x hx).resolve_right fun e=>?_,h3⟩
  have:=h1.gt x hx
  subst e
  simp at this
theorem AtAs.reg {S : AS} {l : Nat} : ∀ {os : List OA} {as1 : List AV} {F : List Loc},AtAs S os as1 F → os.all OA.keep = true → (∀ a ∈ as1,Cy S l a) ∧ (∀ x ∈ AV.am4 l as1,x ∈ F) ∧ ∀ q ∈ F,bn6 S l F q
 | [],as1,F,h,_=>by
  obtain ⟨rfl,rfl⟩:=h
  exact ⟨fun a ha=>(nomatch ha),fun x hx=>(nomatch hx),fun q hq=>(nomatch hq)⟩
 | o :: r,as1,F,h,hk=>by
  obtain ⟨a,t,F1,F2,rfl,rfl,h2,h3⟩:=h
  simp only [List.all_cons,Bool.and_eq_true] at hk
  obtain ⟨a1,a2,a3⟩:=AtA.reg (l:=l) hk.1 h2
  obtain ⟨b1,b2,b3⟩:=AtAs.reg (l:=l) h3 hk.2
  refine ⟨fun x hx=>?_,fun x hx=>?_,fun x hx=>?_⟩
  ·rcases List.mem_cons.1 hx with rfl | hx
   ·exact a1
   ·exact b1 x hx
  ·simp only [AV.am4,List.mem_append] at hx
   exact List.mem_append.2 (hx.imp (a2 x) (b2 x))
  ·rcases List.mem_append.1 hx with hx | hx
   ·exact (a3 x hx).mono fun y hy=>List.mem_append.2 (.inl hy)
   ·exact (b3 x hx).mono fun y hy=>List.mem_append.2 (.inr hy)
theorem AtAs.slots {S : AS} {l : Nat} : ∀ {os : List OA} {as1 : List AV} {F : List Loc},AtAs S os as1 F → ∀ q ∈ F,bn6 S l F q
 | [],as1,F,h=>by
  obtain ⟨rfl,rfl⟩:=h
  exact fun q hq=>(nomatch hq)
 | o :: r,as1,F,h=>by
  obtain ⟨a,t,F1,F2,rfl,rfl,h2,h3⟩:=h
  have b3:=AtAs.slots (l:=l) h3
  have a3 : ∀ q ∈ F1,bn6 S l F1 q:=by
   cases ho : o.keep with
   | true=>exact (AtA.reg (l:=l) ho h2).2.2
   | false =>
    cases o with
    | x =>
     have h2 : F1 = []:=h2
     subst h2
     exact fun q hq=>(nomatch hq)
    | _=>cases ho
  intro x hx
  rcases List.mem_append.1 hx with hx | hx
  ·exact (a3 x hx).mono fun y hy=>List.mem_append.2 (.inl hy)
  ·exact (b3 x hx).mono fun y hy=>List.mem_append.2 (.inr hy)
theorem AtAs.local {S S' : AS} : ∀ {os : List OA} {as1 : List AV} {F : List Loc},AtAs S os as1 F → (∀ q ∈ F,S'.get q = S.get q) → AtAs S' os as1 F
 | [],as1,F,h,_=>h
 | o :: r,as1,F,h,hF=>by
  obtain ⟨a,t,F1,F2,h1,rfl,h2,h3⟩:=h
  refine ⟨a,t,F1,F2,h1,rfl,?_,AtAs.local h3 fun x hx=>hF x (List.mem_append.2 (.inr hx))⟩
  cases o with
  | r v=>exact h2
  | o v=>exact AtO.local h2 fun x hx=>hF x (List.mem_append.2 (.inl hx))
  | x=>exact h2
  | ag os =>
   obtain ⟨cs,e,h2⟩:=h2
   exact ⟨cs,e,AtL.local h2 fun x hx=>hF x (List.mem_append.2 (.inl hx))⟩
theorem rL_no (l : Nat) (ρ : Loc → Loc) : rL l ρ aO6 = aO6:=by simp [rL]
theorem AtAs.ren {l : Nat} {ρ : Loc → Loc} {S S' : AS} : ∀ {os : List OA} {as1 : List AV} {F : List Loc},AtAs S os as1 F → Turned l ρ S S' F → AtAs S' os (as1.map (renX l ρ)) (F.map (rL l ρ))
 | [],as1,F,h,_=>by
  obtain ⟨rfl,rfl⟩:=h
  exact ⟨rfl,rfl⟩
 | o :: r,as1,F,h,ht=>by
  obtain ⟨a,t,F1,F2,rfl,rfl,h2,h3⟩:=h
  refine ⟨_,_,_,_,rfl,by rw [List.map_append],?_,AtAs.ren h3 (ht.sub fun x hx=>List.mem_append.2 (.inr hx))⟩
  cases o with
  | r v =>
   obtain ⟨h,rfl⟩:=h2
   have hc : a.closed = true:=by
    cases v with
    | int | bool | str=>cases h; rfl
    | sl=>exact RelC.closed h
    | agg M=>obtain ⟨cs,rfl,h⟩:=h; simp [AV.closed,h.closed]
    | v x=>exact RelC.closed h
   rw [as7 hc]
   exact ⟨h,rfl⟩
  | o v =>
   have:=AtO.ren h2 (ht.sub fun x hx=>List.mem_append.2 (.inl hx))
   rw [rL_no] at this
   have e : rG l aO6 0 = 0:=by simp [rG]
   rw [e] at this
   exact this
  | x =>
   have h2 : F1 = []:=h2
   subst h2
   rfl
  | ag os =>
   obtain ⟨cs,rfl,h2⟩:=h2
   have hc:=(AtL.reg (l:=l) (p:=aO6) (g:=0) (.inl (Nat.zero_le _)) h2).1
   have:=AtL.ren h2 (ht.sub fun x hx=>List.mem_append.2 (.inl hx))
   rw [rL_no] at this
   have e : rG l aO6 0 = 0:=by simp [rG]
   rw [e] at this
   exact ⟨_,rfl,by rw [← show cs.map (renX l ρ) = cs.map (aA1 l ρ) from List.map_congr_left fun x hx=>(hc x hx).rx]; exact this⟩
def ResO (S : AS) : List OA → AV → List Loc → Prop
 | [o],v,F=>AtA S o v F
 | os,v,F=>∃ l,v = .tup l ∧ AtAs S os l F
open Go.RowKit
abbrev Env:=List (Nat × AV)
def look : Env → Nat → Option AV
 | [],_=>none
 | (k,v) :: r,t=>match Nat.beq k t with
  | true=>some v
  | false=>look r t
def opd (E : Env) : X → Option AV
 | .t n=>look E n
 | .c a=>some a
def Ag (E : Env) (T : BT) : Prop:=∀ k v,look E k = some v → T k = v
theorem Ag.at {E : Env} {T : BT} (h : Ag E T) {x : X} {v : AV} (hx : opd E x = some v) : x.at T = v:=by
 cases x with
 | t n=>exact h n v hx
 | c a=>exact Option.some.inj hx
theorem aR6 (k : Nat) (v : AV) (r : Env) (t : Nat) : look ((k,v) :: r) t = if k = t then some v else look r t:=by
 show (match Nat.beq k t with | true=>some v | false=>look r t) = _
 by_cases h : k = t
 ·subst h; rw [if_pos rfl,Nat.beq_refl]
 ·have : Nat.beq k t = false:=by
   cases hb : Nat.beq k t with
   | false=>rfl
   | true=>exact absurd (Nat.eq_of_beq_eq_true hb) h
  rw [if_neg h,this]
theorem Ag.put {E : Env} {T : BT} (h : Ag E T) (d : Nat) (v : AV) : Ag ((d,v) :: E) (T.put (some d) v):=by
 intro k u hk
 rw [aR6] at hk
 simp only [BT.put]
 by_cases e : d = k
 ·subst e
  rw [if_pos rfl] at hk ⊢
  cases hk
  rfl
 ·rw [if_neg e] at hk
  rw [if_neg (Ne.symm e)]
  exact h k u hk
def subE (E E' : Env) : Prop:=∀ k v,look E' k = some v → look E k = some v
theorem subE.nil (E : Env) : subE E []:=fun k v h=>by cases h
theorem subE.cons {E E' : Env} {k : Nat} {v : AV} (h : look E k = some v) (hs : subE E E') : subE E ((k,v) :: E'):=by
 intro t u ht
 rw [aR6] at ht
 by_cases e : k = t
 ·subst e
  rw [if_pos rfl] at ht
  cases ht
  exact h
 ·rw [if_neg e] at ht
  exact hs t u ht
inductive It where
 | obj (k g : Nat) (t : TypeId) (cs : List AV)
 | tok (ks : List Nat) (n : Nat) (e : TypeId) (x : AV)
 | bld (k g : Nat) (t te : TypeId) (l : List UInt8)
 | own (up : Bool) (ks : List Nat) (o : OV) (a : AV) (F : List Loc)
 | cel (up : Bool) (ks : List Nat) (p : Loc) (g : Nat) (t : TypeId) (cs : List AV)
 | jnk (up : Bool) (ks : List Nat) (J : List Loc)
def Pl (L : Nat) (ks : List Nat) (q : Loc) : Prop:=q.l < L ∨ (q.l = L ∧ q.k = 0 ∧ q.i ≠ 0) ∨ (q.l = L ∧ q.i = 0 ∧ q.k ∈ ks)
def It.foot : It → List Loc
 | .own _ _ _ _ F=>F
 | .cel _ _ p _ _ _=>[p]
 | .jnk _ _ J=>J
 | _=>[]
def It.up : It → Bool
 | .own b _ _ _ _=>b
 | .cel b _ _ _ _ _=>b
 | .jnk b _ _=>b
 | _=>false
def It.keys : It → List Nat
 | .own _ ks _ _ _=>ks
 | .cel _ ks _ _ _ _=>ks
 | .jnk _ ks _=>ks
 | _=>[]
def It.new : It → Bool
 | .own _ _ _ _ _=>true
 | .cel _ _ _ _ _ _=>true
 | .jnk _ _ _=>true
 | _=>false
def App (S : AS) (L : Nat) (ks : List Nat) (n : Nat) (e : TypeId) (x : AV) : Prop :=
 (∃ p,x = .lit (.slice p 0 0)) ∨ (∃ es,x = .list .full n es) ∨ ∃ p g es,x = .list (.own p g) n es ∧ S.get p = some (.tok g es.length n e) ∧ p.l = L ∧ p.i = 0 ∧ p.k ∈ ks
def It.ok (S : AS) (L : Nat) : It → Prop
 | .obj k g t cs=>S.get ⟨L,k,0⟩ = some (.obj g t cs)
 | .tok ks n e x=>App S L ks n e x
 | .bld k g t te l=>∃ cs q,BLD te S ⟨L,k,0⟩ g t 0 cs l q ∧ cs.length = 2 ∧ l.length ≤ 1000000000 ∧ ∀ q1,q = some q1 → q1.l = L ∧ q1.k = 0 ∧ q1.i ≠ 0
 | .own _ ks o a F=>AtO S aO6 0 0 o a F ∧ ∀ q ∈ F,Pl L ks q
 | .cel _ ks p g t cs=>S.get p = some (.obj g t cs) ∧ Pl L ks p ∧ ∀ a ∈ cs,Co L a
 | .jnk _ ks J=>av7 S J ∧ ∀ q ∈ J,Pl L ks q
def It.free (k : Nat) : It → Bool
 | .obj k' _ _ _=>!(Nat.beq k' k)
 | .tok ks _ _ _=>!ks.contains k
 | .bld k' _ _ _ _=>!(Nat.beq k' k)
 | .own _ ks _ _ _=>!ks.contains k
 | .cel _ ks _ _ _ _=>!ks.contains k
 | .jnk _ ks _=>!ks.contains k
structure Fr where
 fn : FuncId
 W : List Loc
 S0 : AS
 tr : Bool
 ro : Bool
instance : Coe Nat Fr:=⟨fun f=>⟨f,[],.bare,false,false⟩⟩
structure FrOk (F : Fr) (S : AS) (L : Nat) : Prop where
 srt : ay4 S.log
 log : ∀ r ∈ S.log,r.l ≤ L → r ∈ F.W ∧ F.ro = false
 un : F.tr = false ∨ ∀ r,r.l ≤ L → r ∉ S.log → S.get r = F.S0.get r
theorem FrOk.outs {F : Fr} {S : AS} {L : Nat} (h : FrOk F S L) (hW : F.W = []) : S.outs L = []:=by
 refine List.eq_nil_iff_forall_not_mem.2 fun r hr=>?_
 obtain ⟨h1,h2⟩:=aw0.1 hr
 have:=(h.log r h1 h2).1
 rw [hW] at this
 cases this
theorem FrOk.outs' {F : Fr} {S : AS} {L : Nat} (h : FrOk F S L) (hW : F.ro = true) : S.outs L = []:=by
 refine List.eq_nil_iff_forall_not_mem.2 fun r hr=>?_
 obtain ⟨h1,h2⟩:=aw0.1 hr
 have:=(h.log r h1 h2).2
 rw [hW] at this
 cases this
theorem FrOk.enter {F : Fr} {S : AS} (f : FuncId) (h0 : F.tr = false ∨ F.S0 = S) : FrOk F (S.enter f) S.lvl :=
 ⟨List.Pairwise.nil,fun _ h=>(nomatch h),h0.imp id fun e=>by subst e; exact fun _ _ _=>rfl⟩
theorem FrOk.own {F : Fr} {S : AS} {L : Nat} (h : FrOk F S L) {p : Loc} (hp : L < p.l) (s : ab3) : FrOk F (S.set p s) L:=by
 refine ⟨h.srt.put,fun r hr hl=>?_,h.un.imp id fun h r hl hr=>?_⟩
 ·rcases ae5.1 hr with hr | rfl
  ·exact h.log r hr hl
  ·omega
 ·have hne : r ≠ p:=fun e=>by subst e; omega
  rw [AS.ad6 _ _ hne]
  exact h r hl fun hm=>hr (ae5.2 (.inl hm))
theorem FrOk.after {F : Fr} {S : AS} {L : Nat} {u : Upd} (h : FrOk F S L) (hl : ∀ r ∈ ulog u,L < r.l ∨ r ∈ F.W ∧ F.ro = false) (hf : ∀ r,r ∉ ulog u → (S.after u).get r = S.get r) : FrOk F (S.after u) L:=by
 have e:=cA8 S u
 refine ⟨by rw [e]; exact h.srt.merge,fun r hr hle=>?_,h.un.imp id fun h' r hle hr=>?_⟩
 ·rw [e,aB3] at hr
  rcases hr with hr | hr
  ·exact h.log r hr hle
  ·rcases hl r hr with k | k
   ·omega
   ·exact k
 ·rw [e,aB3] at hr
  rw [hf r fun k=>hr (.inr k)]
  exact h' r hle fun k=>hr (.inl k)
structure RegA (f : Fr) (L : Nat) (A : List It) : Prop where
 sep : (A.flatMap It.foot).Nodup
 upr : ∀ it ∈ A,∀ q ∈ it.foot,q.l ≤ L → it.up = true ∧ q ∈ f.W
 cov : ∀ q ∈ f.W,∃ it ∈ A,it.up = true ∧ q ∈ it.foot
 upl : ∀ q ∈ f.W,q.l ≤ L
structure StA (S : AS) (L : Nat) (f : Fr) (A : List It) : Prop where
 lvl : S.lvl = L + 1
 fn : S.fn = f.fn
 dfr : S.dfr = []
 out : FrOk f S L
 its : ∀ it ∈ A,it.ok S (L + 1)
 reg : RegA f L A
theorem RegA.none {F : Fr} {L : Nat} (h : F.W = []) : RegA F L []:=⟨List.nodup_nil,fun _ h=>(nomatch h),fun q hq=>(by rw [h] at hq; cases hq),fun q hq=>(by rw [h] at hq; cases hq)⟩
theorem Pl.ne {L k : Nat} {ks : List Nat} {q : Loc} (h : Pl L ks q) (hk : (!ks.contains k) = true) : q ≠ ⟨L,k,0⟩:=fun e=>by
 subst e
 rcases h with h | h | h
 ·simp at h
 ·exact h.2.2 rfl
 ·rw [List.contains_iff_mem.2 h.2.2] at hk
  cases hk
theorem BLD.set {te : TypeId} {S : AS} {p r : Loc} {g off : Nat} {t : TypeId} {cs : List AV} {l : List UInt8} {q : Option Loc} {s : ab3} (h : BLD te S p g t off cs l q) (hp : p ≠ r) (hq : ∀ q1,q = some q1 → q1 ≠ r) : BLD te (S.set r s) p g t off cs l q:=by
 refine ⟨by rw [AS.ad6 _ _ hp]; exact h.get,h.co,h.len,h.lv,h.addr,?_⟩
 rcases h.buf with k | ⟨q',g',k1,k2,k3,k4,k5⟩
 ·exact .inl k
 ·exact .inr ⟨q',g',k1,k2,k3,by rw [AS.ad6 _ _ (hq _ k2)]; exact k4,k5⟩
theorem It.ok_set {S : AS} {L k : Nat} {it : It} {s : ab3} (h : it.ok S L) (hf : it.free k = true) : it.ok (S.set ⟨L,k,0⟩ s) L:=by
 cases it with
 | obj k' g t cs =>
  simp only [It.free,Bool.not_eq_true'] at hf
  show (S.set _ s).get _ = _
  rw [AS.ad6]
  ·exact h
  ·intro e
   have : k' = k:=(Loc.mk.inj e).2.1
   subst this
   rw [Nat.beq_refl] at hf
   cases hf
 | own up ks o a F=>exact ⟨h.1.local fun q hq=>AS.ad6 _ _ (h.2 q hq |>.ne hf),h.2⟩
 | cel up ks p g t cs=>exact ⟨by rw [AS.ad6 _ _ (h.2.1.ne hf)]; exact h.1,h.2⟩
 | jnk up ks J=>exact ⟨h.1.local fun q hq=>AS.ad6 _ _ (h.2 q hq |>.ne hf),h.2⟩
 | bld k' g t te l =>
  simp only [It.free,Bool.not_eq_true'] at hf
  obtain ⟨cs,q,h1,h2,h3,h4⟩:=h
  refine ⟨cs,q,h1.set (fun e=>?_) (fun q1 hq e=>?_),h2,h3,h4⟩
  ·have : k' = k:=(Loc.mk.inj e).2.1
   subst this
   rw [Nat.beq_refl] at hf
   cases hf
  ·subst e
   exact (h4 _ hq).2.2 rfl
 | tok ks n e x =>
  rcases h with h | h | ⟨p,g,es,h1,h2,h3,h4,h5⟩
  ·exact .inl h
  ·exact .inr (.inl h)
  ·refine .inr (.inr ⟨p,g,es,h1,?_,h3,h4,h5⟩)
   rw [AS.ad6]
   ·exact h2
   ·intro e
    subst e
    simp only [It.free,Bool.not_eq_true'] at hf
    have:=List.contains_iff_mem.2 h5
    rw [hf] at this
    cases this
inductive ItW : It → It → Prop
 | rfl {a : It} : ItW a a
 | own {up up' : Bool} {ks ks' : List Nat} {o : OV} {a : AV} {F : List Loc} (hu : (!up || up') = true) (h : (ks.all fun k=>ks'.contains k) = true) : ItW (.own up ks o a F) (.own up' ks' o a F)
 | cel {up up' : Bool} {ks ks' : List Nat} {p : Loc} {g : Nat} {t : TypeId} {cs : List AV} (hu : (!up || up') = true) (h : (ks.all fun k=>ks'.contains k) = true) : ItW (.cel up ks p g t cs) (.cel up' ks' p g t cs)
 | jnk {up up' : Bool} {ks ks' : List Nat} {J : List Loc} (hu : (!up || up') = true) (h : (ks.all fun k=>ks'.contains k) = true) : ItW (.jnk up ks J) (.jnk up' ks' J)
theorem Pl.mono {L : Nat} {ks ks' : List Nat} {q : Loc} (h : Pl L ks q) (hk : (ks.all fun k=>ks'.contains k) = true) : Pl L ks' q:=by
 rcases h with h | h | h
 ·exact .inl h
 ·exact .inr (.inl h)
 ·exact .inr (.inr ⟨h.1,h.2.1,List.contains_iff_mem.1 (List.all_eq_true.1 hk _ h.2.2)⟩)
theorem ItW.ok {a b : It} {S : AS} {L : Nat} (w : ItW a b) (h : a.ok S L) : b.ok S L:=by
 cases w with
 | rfl=>exact h
 | own _ hk=>exact ⟨h.1,fun q hq=>(h.2 q hq).mono hk⟩
 | cel _ hk=>exact ⟨h.1,h.2.1.mono hk,h.2.2⟩
 | jnk _ hk=>exact ⟨h.1,fun q hq=>(h.2 q hq).mono hk⟩
theorem ItW.foot {a b : It} (w : ItW a b) : b.foot = a.foot ∧ (a.up = true → b.up = true):=by
 cases w with
 | rfl=>exact ⟨Eq.refl _,id⟩
 | own hu _=>exact ⟨Eq.refl _,fun h=>by simp only [It.up] at h ⊢; subst h; simpa using hu⟩
 | cel hu _=>exact ⟨Eq.refl _,fun h=>by simp only [It.up] at h ⊢; subst h; simpa using hu⟩
 | jnk hu _=>exact ⟨Eq.refl _,fun h=>by simp only [It.up] at h ⊢; subst h; simpa using hu⟩
theorem cD7 {A : List It} (h : (A.flatMap It.foot).Nodup) : ∀ {i j : Nat} {a b : It},A[i]? = some a → A[j]? = some b → i ≠ j → ∀ q ∈ a.foot,q ∉ b.foot:=by
 induction A with
 | nil=>intro i j a b hi; cases hi
 | cons x r ih =>
  rw [List.flatMap_cons] at h
  have h1:=List.nodup_append.1 h
  intro i j a b hi hj hne q hq hq'
  cases i with
  | zero =>
   cases j with
   | zero=>exact hne rfl
   | succ j =>
    cases hi
    exact h1.2.2 q hq q (List.mem_flatMap.2 ⟨b,List.mem_of_getElem? (i:=j) hj,hq'⟩) rfl
  | succ i =>
   cases j with
   | zero =>
    cases hj
    exact h1.2.2 q hq' q (List.mem_flatMap.2 ⟨a,List.mem_of_getElem? (i:=i) hi,hq⟩) rfl
   | succ j=>exact ih h1.2.1 (i:=i) (j:=j) hi hj (fun e=>hne (by rw [e])) q hq hq'
abbrev Ks:=Option (List Nat)
abbrev AF:=Ks × Ks
def keyOf (L : Nat) (p : Loc) : Nat:=if p.l = L ∧ p.i = 0 then p.k else 0
theorem bE7 (L k : Nat) : keyOf L ⟨L,k,0⟩ = k:=by simp [keyOf]
def okK (L : Nat) : Ks → FK → Prop
 | none,_=>True
 | some ks,k=>k = .none ∨ ∃ Ls,k = .slots Ls ∧ (Ls ≠ [] ∨ ks ≠ []) ∧ ∀ p ∈ Ls,keyOf L p ∈ ks
def okF (L : Nat) (a : AF) (f : Foot) : Prop:=okK L a.1 f.rd ∧ okK L a.2 f.wr
def cq1 : Ks → Ks → Bool
 | some [],_=>true
 | _,some []=>true
 | some a,some b=>a.all fun x=>!b.contains x
 | _,_=>false
theorem bE2 {L : Nat} {k : FK} (h : okK L (some []) k) : k = .none:=by
 rcases h with h | ⟨Ls,rfl,h1,h2⟩
 ·exact h
 ·cases Ls with
  | nil=>rcases h1 with h1 | h1 <;> exact absurd rfl h1
  | cons p r=>exact absurd (h2 p (List.mem_cons_self ..)) (List.not_mem_nil)
theorem cm6 {L : Nat} {p : Loc} (h : p.l < L ∨ (p.l = L ∧ p.k = 0 ∧ p.i ≠ 0)) : keyOf L p = 0:=by
 unfold keyOf
 rw [if_neg fun e=>by rcases h with h | h <;> omega]
theorem b81 (k : FK) : FK.clear .none k = true:=by cases k <;> rfl
theorem bA0 (k : FK) : FK.clear k .none = true:=by cases k <;> rfl
theorem bH1 {L : Nat} {a b : Ks} {x y : FK} (ha : okK L a x) (hb : okK L b y) (h : cq1 a b = true) : x.clear y = true:=by
 cases a with
 | none =>
  cases b with
  | none=>cases h
  | some b =>
   cases b with
   | nil=>rw [bE2 hb]; exact bA0 x
   | cons=>cases h
 | some a =>
  cases a with
  | nil=>rw [bE2 ha]; exact b81 y
  | cons a0 a1 =>
   cases b with
   | none=>cases h
   | some b =>
    cases b with
    | nil=>rw [bE2 hb]; exact bA0 x
    | cons b0 b1 =>
     rcases ha with rfl | ⟨Ls,rfl,_,ha⟩
     ·exact b81 y
     ·rcases hb with rfl | ⟨Ms,rfl,_,hb⟩
      ·exact bA0 _
      ·show (Ls.all fun p=>!Ms.contains p) = true
       refine List.all_eq_true.2 fun p hp=>?_
       simp only [Bool.not_eq_true']
       cases hc : Ms.contains p with
       | false=>rfl
       | true =>
        have h1:=ha p hp
        have h2:=hb p (List.contains_iff_mem.1 hc)
        have h3:=List.all_eq_true.1 h _ h1
        simp only [Bool.not_eq_true'] at h3
        have:=List.contains_iff_mem.2 h2
        rw [h3] at this
        cases this
def cJ6 (a b : AF) : Bool:=cq1 a.2 b.1 && cq1 a.2 b.2 && cq1 b.2 a.1
theorem cF4 {L : Nat} {a b : AF} {f g : Foot} (ha : okF L a f) (hb : okF L b g) (h : cJ6 a b = true) : f.b64 g = true:=by
 simp only [cJ6,Bool.and_eq_true] at h
 unfold Foot.b64
 simp only [Bool.and_eq_true]
 exact ⟨⟨bH1 ha.2 hb.1 h.1.1,bH1 ha.2 hb.2 h.1.2⟩,bH1 hb.2 ha.1 h.2⟩
def FsR (L : Nat) : List AF → List Foot → Prop
 | [],l=>l = []
 | a :: r,l=>∃ f t,l = f :: t ∧ okF L a f ∧ FsR L r t
theorem FsR.get {L : Nat} : ∀ {as1 : List AF} {fs : List Foot} {i : Nat} {a : AF},FsR L as1 fs → as1[i]? = some a → ∃ f,fs[i]? = some f ∧ okF L a f
 | [],_,_,_,_,h=>by cases h
 | b :: r,fs,0,a,h,hi=>by
  obtain ⟨f,t,rfl,h1,h2⟩:=h
  cases hi
  exact ⟨f,rfl,h1⟩
 | b :: r,fs,i + 1,a,h,hi=>by
  obtain ⟨f,t,rfl,h1,h2⟩:=h
  exact h2.get hi
theorem FsR.push {L : Nat} {a : AF} {f : Foot} (hf : okF L a f) : ∀ {as1 : List AF} {fs : List Foot},FsR L as1 fs → FsR L (as1 ++ [a]) (fs ++ [f])
 | [],fs,h=>by cases h; exact ⟨f,[],rfl,hf,rfl⟩
 | b :: r,fs,h=>by
  obtain ⟨g,t,rfl,h1,h2⟩:=h
  exact ⟨g,t ++ [f],rfl,h1,h2.push hf⟩
abbrev AAcc:=Option (List AF)
def AccR (L : Nat) : AAcc → Acc → Prop
 | none,c=>c = none
 | some l,c=>∃ fs,c = some fs ∧ FsR L l fs
def accP (c : AAcc) (a : AF) : AAcc:=c.map (· ++ [a])
theorem AccR.push {L : Nat} {c : AAcc} {d : Acc} {a : AF} {f : Foot} (h : AccR L c d) (hf : okF L a f) : AccR L (accP c a) (d.push f):=by
 cases c with
 | none=>cases h; rfl
 | some l =>
  obtain ⟨fs,rfl,h⟩:=h
  exact ⟨fs ++ [f],rfl,h.push hf⟩
def chkL : List (Nat × Nat) → AAcc → Bool
 | [],_=>true
 | L,some as1=>L.all fun p=>match as1[p.1]?,as1[p.2]? with
  | some a,some b=>cJ6 a b
  | _,_=>false
 | _,none=>false
def finO : Option (List (Nat × Nat)) → BO4 → XB
 | none=>bend
 | some L=>bx9 L
def acc1 : List (Nat × Nat) → AAcc
 | []=>none
 | _=>some []
abbrev ag1:=AX → BT → AS → Prop
section
variable [Cfg]
def G (x : AX) (L : Nat) (f : Fr) (E : Env) (A : List It) (Φ : ag1) : Prop:=∀ T S,Ag E T → StA S L f A → Φ x T S
def RunB (P : Program) (c : BC) (T : BT) (S : AS) (Φ : ag1) : Prop:=∃ x T' S',an3 P c T S = some (x,T',S') ∧ Φ x T' S'
def GC (P : Program) (c : BC) (L : Nat) (f : Fr) (E : Env) (A : List It) (Φ : ag1) : Prop:=∀ T S,Ag E T → StA S L f A → RunB P c T S Φ
def GO1 (P : Program) (m : Option (List (Nat × Nat))) (acc : AAcc) (l : List BI) (L : Nat) (f : Fr) (E : Env) (A : List It) (Φ : ag1) : Prop :=
 ∀ c T S,AccR (L + 1) acc c → Ag E T → StA S L f A → ∃ x T' S',finO m (aa8 P (ah6 P) c l T S) = some (x,T',S') ∧ Φ x T' S'
def Thn (P : Program) (b : BC) (Φ : ag1) : ag1
 | .normal,T,S=>RunB P b T S Φ
 | x,T,S=>Φ x T S
def Blk (id : Nat) (Φ : ag1) : ag1
 | .exit j,T,S=>if j = id then Φ .normal T S else Φ (.exit j) T S
 | x,T,S=>Φ x T S
variable {P : Program} {L : Nat} {f : Fr} {E : Env} {A : List It} {Φ Ψ : ag1}
theorem cx1 {a b : BC} (h : GC P a L f E A (Thn P b Φ)) : GC P (.seq a b) L f E A Φ:=by
 intro T S hT hS
 obtain ⟨x,T',S',h1,h2⟩:=h T S hT hS
 unfold RunB
 rw [aq1,h1]
 cases x with
 | normal=>exact h2
 | _=>exact ⟨_,T',S',rfl,h2⟩
theorem g_block {id : Nat} {b : BC} (h : GC P b L f E A (Blk id Φ)) : GC P (.block id b) L f E A Φ:=by
 intro T S hT hS
 obtain ⟨x,T',S',h1,h2⟩:=h T S hT hS
 unfold RunB
 rw [aN4,h1]
 cases x with
 | exit j =>
  simp only [Blk] at h2
  by_cases e : j = id
  ·rw [if_pos e] at h2
   exact ⟨.normal,T',S',by simp [aT6,e],h2⟩
  ·rw [if_neg e] at h2
   exact ⟨.exit j,T',S',by simp [aT6,e],h2⟩
 | _=>exact ⟨_,T',S',rfl,h2⟩
theorem g_condT {c : X} {a b : BC} (hc : opd E c = some (.lit (.bool true))) (h : GC P a L f E A Φ) : GC P (.cond c a b) L f E A Φ:=by
 intro T S hT hS
 unfold RunB
 rw [bm8,hT.at hc,bP0]
 exact h T S hT hS
theorem g_condF {c : X} {a b : BC} (hc : opd E c = some (.lit (.bool false))) (h : GC P b L f E A Φ) : GC P (.cond c a b) L f E A Φ:=by
 intro T S hT hS
 unfold RunB
 rw [bm8,hT.at hc,bD9]
 exact h T S hT hS
theorem g_cT {c : X} {a b : BC} {t : Bool} (hc : opd E c = some (.lit (.bool t))) (ht : t = true) (h : GC P a L f E A Φ) : GC P (.cond c a b) L f E A Φ:=by
 subst ht
 exact g_condT hc h
theorem g_cF {c : X} {a b : BC} {t : Bool} (hc : opd E c = some (.lit (.bool t))) (ht : t = false) (h : GC P b L f E A Φ) : GC P (.cond c a b) L f E A Φ:=by
 subst ht
 exact g_condF hc h
theorem g_skip (h : G .normal L f E A Φ) : GC P .skip L f E A Φ:=fun T S hT hS=>⟨_,T,S,bs4 T S,h T S hT hS⟩
theorem g_exit {id : Nat} (h : G (.exit id) L f E A Φ) : GC P (.exit id) L f E A Φ:=fun T S hT hS=>⟨_,T,S,bQ8 id T S,h T S hT hS⟩
theorem g_ret (h : G .ret L f E A Φ) : GC P .ret L f E A Φ:=fun T S hT hS=>⟨_,T,S,bC9 T S,h T S hT hS⟩
theorem cC7 {b : BC} (h : GC P b L f E A Φ) : G .normal L f E A (Thn P b Φ):=h
theorem g_thnR {b : BC} (h : G .ret L f E A Φ) : G .ret L f E A (Thn P b Φ):=h
theorem cD8 {l : List BI} (h : GO1 P none none l L f E A Φ) : GC P (.ops l) L f E A Φ:=by
 intro T S hT hS
 obtain ⟨x,T',S',h1,h2⟩:=h none T S rfl hT hS
 exact ⟨x,T',S',by rw [aC4]; exact h1,h2⟩
theorem g_draw {l : List BI} {D : List (Nat × Nat)} (h : GO1 P (some D) (acc1 D) l L f E A Φ) : GC P (.draw l D) L f E A Φ:=by
 intro T S hT hS
 obtain ⟨x,T',S',h1,h2⟩:=h (acc0 D) T S (by cases D with
  | nil=>rfl
  | cons=>exact ⟨[],rfl,rfl⟩) hT hS
 exact ⟨x,T',S',by rw [bO0]; exact h1,h2⟩
theorem cG5 {acc : AAcc} (h : G .normal L f E A Φ) : GO1 P none acc [] L f E A Φ:=fun c T S _ hT hS=>⟨.normal,T,S,rfl,h T S hT hS⟩
theorem g_endD {acc : AAcc} {D : List (Nat × Nat)} (hc : chkL D acc = true) (h : G .normal L f E A Φ) : GO1 P (some D) acc [] L f E A Φ:=by
 intro c T S hR hT hS
 refine ⟨.normal,T,S,?_,h T S hT hS⟩
 cases D with
 | nil=>rfl
 | cons d D =>
  cases acc with
  | none=>cases hc
  | some l =>
   obtain ⟨fs,rfl,hF⟩:=hR
   refine bP5 d D fs (List.all_eq_true.2 fun p hp=>?_)
   have h1:=List.all_eq_true.1 hc p hp
   unfold bW1
   revert h1
   cases ha : l[p.1]? with
   | none=>intro h1; cases h1
   | some a =>
    cases hb : l[p.2]? with
    | none=>intro h1; cases h1
    | some b =>
     intro h1
     obtain ⟨x,hx,kx⟩:=hF.get ha
     obtain ⟨y,hy,ky⟩:=hF.get hb
     rw [hx,hy]
     exact cF4 kx ky h1
end
section
variable {L : Nat} {f : Fr} {E : Env} {A : List It} {Φ : ag1}
theorem g_blkH {id : Nat} (h : G .normal L f E A Φ) : G (.exit id) L f E A (Blk id Φ):=by
 intro T S hT hS
 show (if id = id then _ else _)
 rw [if_pos rfl]
 exact h T S hT hS
end
open Go.RowKit
namespace G
abbrev addI (a b : Int) : Int:=IntKind.i64.wrap (a + b)
abbrev subI (a b : Int) : Int:=IntKind.i64.wrap (a - b)
abbrev mulI (a b : Int) : Int:=IntKind.i64.wrap (a * b)
def idx {α : Type} (l : List α) (i : Int) : Option α:=if 0 ≤ i then l[i.toNat]? else none
def idxS (l : List UInt8) (i : Int) : Option Int:=if 0 ≤ i then (l[i.toNat]?).map (fun c=>(c.toNat : Int)) else none
def subS (l : List UInt8) (lo hi : Int) : Option (List UInt8):=if 0 ≤ lo ∧ lo ≤ hi ∧ hi ≤ l.length then some ((l.take hi.toNat).drop lo.toNat) else none
def app {α : Type} (a b : List α) : Option (List α):=if a.length + b.length ≤ 1000000000 then some (a ++ b) else none
end G
def CallR [Cfg] (P : Program) (g : FuncId) (args : List AV) (Q : AV → Prop) : Prop:=∀ S args',args'.map AV.ac1 = args.map AV.ac1 → ∃ v,ah6 P g args' S = some (.ret v,none) ∧ Q v
def optL (E : Env) : List X → Option (List AV)
 | []=>some []
 | x :: r=>match opd E x,optL E r with
  | some a,some l=>some (a :: l)
  | _,_=>none
theorem br8 {E : Env} {T : BT} (h : Ag E T) : ∀ {xs : List X} {as1 : List AV},optL E xs = some as1 → xs.map (X.at T) = as1
 | [],as1,hx=>by cases hx; rfl
 | x :: r,as1,hx=>by
  unfold optL at hx
  split at hx
  ·rename_i a l h1 h2
   cases hx
   rw [List.map_cons,h.at h1,br8 h h2]
  ·cases hx
abbrev af0 : AF:=(some [],some [])
section
variable {L : Nat} {f : Fr} {E : Env} {A : List It} {d : Nat}
theorem wantN {g c w : Bool} {u : AV} (h1 : g = true → u = .lit (.bool c)) (h2 : g = false → u = .lit undef) : cc9 w u = (g && (c == w)):=by
 cases g with
 | true=>rw [h1 rfl]; rfl
 | false=>rw [h2 rfl]; rfl
theorem RelC.noslot {v : V} {b : AV} (h : RelC v b) : ae8 b = .none:=by
 cases v with
 | sl sz es =>
  unfold RelC at h
  rcases h with ⟨_,p,rfl⟩ | ⟨sp,ys,rfl,hc,_⟩
  ·rfl
  ·cases sp <;> first | rfl | cases hc
 | ref cs=>unfold RelC at h; obtain ⟨ys,zs,rfl,_⟩:=h; rfl
 | ifc t b cs=>unfold RelC at h; obtain ⟨ys,_,⟨_,rfl⟩ | ⟨_,y,rfl,rfl⟩⟩:=h <;> rfl
 | fnv f cs=>unfold RelC at h; obtain ⟨ys,_,rfl | ⟨_,rfl⟩⟩:=h <;> rfl
 | _=>unfold RelC at h; subst h; rfl
theorem cl8 {T : BT} {S : AS} {d : Option Nat} : okF (L + 1) af0 ⟨BF.foot S T d .none,.none⟩:=⟨.inl rfl,.inl rfl⟩
theorem ab1.length {vs : List V} {ys : List AV} (h : ab1 vs ys) : ys.length = vs.length:=(h.toS (L:=0)).length
theorem ag3 {a b : Nat} (h : Nat.ble a b = true) : a ≤ b:=Nat.le_of_ble_eq_true h
theorem cH9 {x : X} {k g o : Nat} {T : BT} {S : AS} {d : Option Nat} (hT : Ag E T) (hx : opd E x = some (.ptr ⟨L + 1,k,0⟩ g 0 o)) : okK (L + 1) (some [k]) (BF.foot S T d (.at x)):=by
 refine .inr ⟨[⟨L + 1,k,0⟩],?_,by simp,fun p hp=>?_⟩
 ·show ae8 (x.at T) = _
  rw [hT.at hx]
  rfl
 ·simp only [List.mem_singleton] at hp
  subst hp
  rw [bE7]
  exact List.mem_singleton.2 rfl
theorem bz3 {T : BT} {S : AS} (hS : StA S L f A) : okK (L + 1) (some [d]) (BF.foot S T (some d) .here):=by
 refine .inr ⟨[⟨L + 1,d,0⟩],?_,by simp,fun p hp=>?_⟩
 ·show FK.slots [S.here d] = _
  rw [bu6,hS.lvl]
 ·simp only [List.mem_singleton] at hp
  subst hp
  rw [bE7]
  exact List.mem_singleton.2 rfl
theorem ab1.append {vs us : List V} : ∀ {as1 cs : List AV},ab1 vs as1 → ab1 us cs → ab1 (vs ++ us) (as1 ++ cs):=by
 induction vs with
 | nil=>intro as1 cs h h'; unfold ab1 at h; subst h; exact h'
 | cons v r ih =>
  intro as1 cs h h'
  unfold ab1 at h
  obtain ⟨a,t,rfl,h1,h2⟩:=h
  show ab1 (v :: (r ++ us)) _
  unfold ab1
  exact ⟨a,t ++ cs,rfl,h1,ih h2 h'⟩
theorem ab1.spl {vs xs : List V} {as1 ys : List AV} (off : Nat) (h : ab1 vs as1) (h' : ab1 xs ys) : ab1 (bR7 vs off xs) (splice as1 off ys):=by
 unfold bR7 splice
 rw [h'.length]
 exact ((h.take off).append h').append (h.drop _)
inductive BslR (E : Env) (n : Nat) : List X → List (List V) → Prop where
 | nil : BslR E n [] []
 | cons {x : X} {a : AV} {Xs : List V} {r : List X} {es : List (List V)} (hx : opd E x = some a) (ha : ab1 Xs a.cells) (hn : Xs.length = n) (h : BslR E n r es) : BslR E n (x :: r) (Xs :: es)
theorem ab1.ones {vs : List V} {ys : List AV} (h : ab1 vs ys) : ys.all AV.one = true:=(h.toS (L:=0)).ones
theorem BslR.ok {n : Nat} {T : BT} (hT : Ag E T) {xs : List X} {es : List (List V)} (h : BslR E n xs es) : xs.all (fun x=>(x.at T).cells.length == n) = true ∧ xs.all (fun x=>(x.at T).cells.all AV.one) = true ∧ ab8 es (xs.map fun x=>(x.at T).cells):=by
 induction h with
 | nil=>exact ⟨rfl,rfl,by unfold ab8; rfl⟩
 | @cons x a Xs r es hx ha hn h ih =>
  obtain ⟨k1,k2,k3⟩:=ih
  have e : x.at T = a:=hT.at hx
  refine ⟨?_,?_,?_⟩
  ·rw [List.all_cons,e,k1,ha.length,hn]
   simp
  ·rw [List.all_cons,e,k2,ha.ones]
   rfl
  ·rw [List.map_cons,e]
   unfold ab8
   exact ⟨_,_,rfl,ha,k3⟩
def insK (d : Nat) (ks : List Nat) : List Nat:=match ks.contains d with
 | true=>ks
 | false=>d :: ks
theorem insK_mem (d : Nat) (ks : List Nat) : d ∈ insK d ks ∧ ∀ k ∈ ks,k ∈ insK d ks:=by
 unfold insK
 cases h : ks.contains d with
 | true=>exact ⟨List.contains_iff_mem.1 h,fun k hk=>hk⟩
 | false=>exact ⟨List.mem_cons_self ..,fun k hk=>List.mem_cons_of_mem _ hk⟩
def cl4 (ks : List Nat) : Nat → List It → Bool
 | _,[]=>true
 | 0,_ :: r=>r.all fun it=>ks.all fun k=>it.free k
 | i + 1,a :: r=>(ks.all fun k=>a.free k) && cl4 ks i r
theorem set_ok' {S : AS} {L : Nat} {it : It} (hit : it.ok S L) : ∀ {A : List It} {i : Nat},(∀ it ∈ A,it.ok S L) → ∀ jt ∈ A.set i it,jt.ok S L:=by
 intro A i hA jt hj
 rcases List.mem_or_eq_of_mem_set hj with h | rfl
 ·exact hA jt h
 ·exact hit
theorem bi2 : ∀ {es : List (List V)} {ys : List (List AV)},ab8 es ys → ys.all (fun e=>e.all AV.one) = true
 | [],ys,h=>by unfold ab8 at h; subst h; rfl
 | e :: r,ys,h=>by
  unfold ab8 at h
  obtain ⟨a,t,rfl,h1,h2⟩:=h
  rw [List.all_cons,h1.ones,bi2 h2]
  rfl
end
section
variable [Cfg] {P : Program} {L : Nat} {f : Fr} {E : Env} {A : List It} {Φ : ag1} {m : Option (List (Nat × Nat))} {acc : AAcc} {r : List BI} {d : Nat}
def Stp (P : Program) (L : Nat) (f : Fr) (E : Env) (A : List It) (d : Nat) (bf : BF) (o : BO) (af : AF) (Q : AV → Prop) : Prop :=
 ∀ T S,Ag E T → StA S L f A → ∃ v ft,Q v ∧ okF (L + 1) af ft ∧ ∀ c r,aa8 P (ah6 P) c (⟨some d,none,bf,o⟩ :: r) T S = aa8 P (ah6 P) (c.push ft) r (T.put (some d) v) S
theorem aJ5 {o : BO} {bf : BF} {af : AF} {Q : AV → Prop} (hop : ∀ T S,Ag E T → StA S L f A → ∃ v,bop P S T (some d) o = some (.val v) ∧ Q v)
  (hf : ∀ T S,Ag E T → StA S L f A → okF (L + 1) af ⟨bf.foot S T (some d),.none⟩) : Stp P L f E A d bf o af Q:=by
 intro T S hT hS
 obtain ⟨v,h1,h2⟩:=hop T S hT hS
 exact ⟨v,_,h2,hf T S hT hS,fun c r=>by rw [af5,h1,bo4]⟩
theorem cG9 {o : BO} {bf : BF} {af : AF} {Q : AV → Prop} (hs : Stp P L f E A d bf o af Q) (h : ∀ v,Q v → GO1 P m (accP acc af) r L f ((d,v) :: E) A Φ) : GO1 P m acc (⟨some d,none,bf,o⟩ :: r) L f E A Φ:=by
 intro c T S hc hT hS
 obtain ⟨v,ft,h1,h2,h3⟩:=hs T S hT hS
 obtain ⟨x,T',S',k1,k2⟩:=h v h1 _ (T.put (some d) v) S (hc.push h2) (hT.put d v) hS
 exact ⟨x,T',S',by rw [h3]; exact k1,k2⟩
theorem cG3 {o : BO} {bf : BF} {af : AF} {v : AV} (hs : Stp P L f E A d bf o af (fun u=>u = v)) (h : GO1 P m (accP acc af) r L f ((d,v) :: E) A Φ) : GO1 P m acc (⟨some d,none,bf,o⟩ :: r) L f E A Φ :=
 cG9 hs fun u hu=>by subst hu; exact h
theorem g_gua {o : BO} {bf : BF} {af : AF} {Q : AV → Prop} {t : Nat} {w gb : Bool} {u : AV} (ht : look E t = some u) (hw : cc9 w u = gb) (hs : gb = true → Stp P L f E A d bf o af Q)
  (h : ∀ v,(gb = true → Q v) → (gb = false → v = .lit undef) → GO1 P m (accP acc af) r L f ((d,v) :: E) A Φ) : GO1 P m acc (⟨some d,some (t,w),bf,o⟩ :: r) L f E A Φ:=by
 intro c T S hc hT hS
 have e : aF8 T (some (t,w)) = gb:=by rw [aG4,hT t u ht,hw]
 cases hg : gb with
 | true =>
  obtain ⟨v,ft,h1,h2,h3⟩:=hs hg T S hT hS
  obtain ⟨x,T',S',k1,k2⟩:=h v (fun _=>h1) (fun e=>by rw [hg] at e; cases e) _ (T.put (some d) v) S (hc.push h2) (hT.put d v) hS
  refine ⟨x,T',S',?_,k2⟩
  rw [bF6,e,hg,ce4]
  simp only
  rw [h3]
  exact k1
 | false =>
  obtain ⟨x,T',S',k1,k2⟩:=h (.lit undef) (fun e=>by rw [hg] at e; cases e) (fun _=>rfl) _ (T.put (some d) (.lit undef)) S (hc.push (f:=⟨.none,.none⟩) ⟨(by cases af.1 <;> first | trivial | exact .inl rfl),(by cases af.2 <;> first | trivial | exact .inl rfl)⟩) (hT.put d _) hS
  refine ⟨x,T',S',?_,k2⟩
  rw [bF6,e,hg,b05]
  exact k1
theorem aL6 {o : BO} {v : AV} (hop : ∀ T S,Ag E T → bop P S T (some d) o = some (.val v)) : Stp P L f E A d .none o af0 (fun u=>u = v) :=
 aJ5 (fun T S hT _=>⟨v,hop T S hT,rfl⟩) (fun _ _ _ _=>cl8)
theorem aN7 {o : BO} {Q : AV → Prop} (hop : ∀ T S,Ag E T → ∃ v,bop P S T (some d) o = some (.val v) ∧ Q v) : Stp P L f E A d .none o af0 Q :=
 aJ5 (fun T S hT _=>hop T S hT) (fun _ _ _ _=>cl8)
theorem s_and {c a : X} {t b : Bool} {u : AV} (hc : opd E c = some (.lit (.bool t))) (ha : opd E a = some u) (hu : t = true → u = .lit (.bool b)) : Stp P L f E A d .none (.pk c a (.c (.lit (.bool false)))) af0 (fun v=>v = .lit (.bool (t && b))) :=
 aL6 fun T S hT=>by
  simp only [bop,hT.at hc]
  cases t
  ·rfl
  ·simp only [if_true,hT.at ha,hu rfl,Bool.true_and]
theorem s_or {c a : X} {t b : Bool} {u : AV} (hc : opd E c = some (.lit (.bool t))) (ha : opd E a = some u) (hu : (!t) = true → u = .lit (.bool b)) : Stp P L f E A d .none (.pk c (.c (.lit (.bool true))) a) af0 (fun v=>v = .lit (.bool (t || b))) :=
 aL6 fun T S hT=>by
  simp only [bop,hT.at hc]
  cases t
  ·simp only [Bool.false_eq_true,if_false,hT.at ha,hu rfl,Bool.false_or]
  ·rfl
theorem s_mv {x : X} {v : AV} (hx : opd E x = some v) : Stp P L f E A d .none (.mv x) af0 (fun u=>u = v) :=
 aL6 (fun T S hT=>by show some (AR.val (x.at T)) = _; rw [hT.at hx])
theorem s_ib {op : BinOp} {x y : X} {a b v : AV} (hx : opd E x = some a) (hy : opd E y = some b) (hv : ibV op a b = some v) : Stp P L f E A d .none (.ib op x y) af0 (fun u=>u = v) :=
 aL6 (fun T S hT=>by simp only [bop,hT.at hx,hT.at hy,hv,Option.map_some])
theorem s_nt {x : X} {b : Bool} (hx : opd E x = some (.lit (.bool b))) : Stp P L f E A d .none (.nt x) af0 (fun u=>u = .lit (.bool !b)) :=
 aL6 (fun T S hT=>by simp only [bop,hT.at hx,ntV,Option.map_some])
theorem s_bb {ne : Bool} {x y : X} {a b : Bool} (hx : opd E x = some (.lit (.bool a))) (hy : opd E y = some (.lit (.bool b))) : Stp P L f E A d .none (.bb ne x y) af0 (fun u=>u = .lit (.bool (decide (a = b) != ne))) :=
 aL6 (fun T S hT=>by simp only [bop,hT.at hx,hT.at hy,bbV,Option.map_some])
theorem s_cvi {k k' : IntKind} {x : X} {n : Int} (hx : opd E x = some (.lit (.int k' n))) : Stp P L f E A d (.at x) (.cvi k x) af0 (fun u=>u = .lit (.int k (k.wrap n))) :=
 aJ5 (fun T S hT _=>⟨_,by simp only [bop,hT.at hx,cviV,Option.map_some],rfl⟩) (fun T S hT _=>⟨.inl (by show ae8 (x.at T) = _; rw [hT.at hx]; rfl),.inl rfl⟩)
theorem s_seq1 {x y : X} {a b : List UInt8} (hx : opd E x = some (.lit (.string (bs a)))) (hy : opd E y = some (.lit (.string (bs b)))) : Stp P L f E A d .none (.sb .eql x y) af0 (fun u=>u = .lit (.bool (decide (a = b)))) :=
 aL6 (fun T S hT=>by simp only [bop,hT.at hx,hT.at hy,sbV,strB,aW8,Option.map_some])
theorem s_sne {x y : X} {a b : List UInt8} (hx : opd E x = some (.lit (.string (bs a)))) (hy : opd E y = some (.lit (.string (bs b)))) : Stp P L f E A d .none (.sb .neq x y) af0 (fun u=>u = .lit (.bool (decide (a ≠ b)))) :=
 aL6 (fun T S hT=>by simp only [bop,hT.at hx,hT.at hy,sbV,strB,aW8,Option.map_some])
theorem s_slt {x y : X} {a b : List UInt8} (hx : opd E x = some (.lit (.string (bs a)))) (hy : opd E y = some (.lit (.string (bs b)))) : Stp P L f E A d .none (.sb .lss x y) af0 (fun u=>u = .lit (.bool (Op.bytesLess a b))) :=
 aL6 (fun T S hT=>by simp only [bop,hT.at hx,hT.at hy,sbV,strB,aW8,Option.map_some])
theorem s_sge {x y : X} {a b : List UInt8} (hx : opd E x = some (.lit (.string (bs a)))) (hy : opd E y = some (.lit (.string (bs b)))) : Stp P L f E A d .none (.sb .geq x y) af0 (fun u=>u = .lit (.bool (!(Op.bytesLess a b)))) :=
 aL6 (fun T S hT=>by simp only [bop,hT.at hx,hT.at hy,sbV,strB,aW8,Option.map_some])
theorem s_ls {x : X} {a : List UInt8} (hx : opd E x = some (.lit (.string (bs a)))) : Stp P L f E A d (.at x) (.ls x) af0 (fun u=>u = .lit (.int .i64 a.length)) :=
 aJ5 (fun T S hT _=>⟨_,by simp only [bop,hT.at hx,lsV,aW8,Option.map_some],rfl⟩) (fun T S hT _=>⟨.inl (by show ae8 (x.at T) = _; rw [hT.at hx]; rfl),.inl rfl⟩)
theorem s_xs {x i : X} {a : List UInt8} {k : IntKind} {j c : Int} (hx : opd E x = some (.lit (.string (bs a)))) (hi : opd E i = some (.lit (.int k j))) (hc : G.idxS a j = some c) : Stp P L f E A d .none (.xs x i) af0 (fun u=>u = .lit (.int .u8 c)) :=
 aL6 (fun T S hT=>by
  unfold G.idxS at hc
  split at hc
  ·rename_i h0
   obtain ⟨b,hb,rfl⟩:=Option.map_eq_some_iff.1 hc
   have hlt:=(List.getElem?_eq_some_iff.1 hb).1
   simp only [bop,hT.at hx,hT.at hi,xsV,aW8]
   rw [if_pos ⟨h0,by omega⟩]
   simp [List.getD_eq_getElem?_getD,hb]
  ·cases hc)
theorem s_sls {x lo hi : X} {a c : List UInt8} {k k' : IntKind} {i j : Int} (hx : opd E x = some (.lit (.string (bs a)))) (h1 : opd E lo = some (.lit (.int k i))) (h2 : opd E hi = some (.lit (.int k' j))) (hc : G.subS a i j = some c) : Stp P L f E A d .none (.sls x (some lo) (some hi)) af0 (fun u=>u = .lit (.string (bs c))) :=
 aL6 (fun T S hT=>by
  unfold G.subS at hc
  split at hc
  ·rename_i h0
   cases hc
   simp only [bop,hT.at hx,hT.at h1,hT.at h2,Option.map_some]
   rw [b41 _ _ _ _ _ h0.1 h0.2.1 (by rw [aW8]; exact h0.2.2),aW8]
   rfl
  ·cases hc)
theorem s_ex {x : X} {i : Nat} {l : List AV} {a : AV} (hx : opd E x = some (.tup l)) (hi : l[i]? = some a) : Stp P L f E A d .none (.ex x i) af0 (fun u=>u = a) :=
 aL6 (fun T S hT=>by simp only [bop,hT.at hx,exV,hi,Option.map_some])
theorem s_fa {x : X} {p : Loc} {g n o off o' : Nat} (hx : opd E x = some (.ptr p g n o)) (ho : o + off = o') : Stp P L f E A d .none (.fa off x) af0 (fun u=>u = .ptr p g n o') :=
 aL6 (fun T S hT=>by subst ho; simp only [bop,hT.at hx,offV,Option.map_some])
theorem s_fac {x : X} {ys : List AV} {M : List V} {off : Nat} (hx : opd E x = some (.cref ys)) (hM : RelP M ys) : Stp P L f E A d .none (.fa off x) af0 (fun u=>∃ zs,u = .cref zs ∧ RelP (M.drop off) zs) :=
 aN7 (fun T S hT=>⟨_,by simp only [bop,hT.at hx,offV,Option.map_some],_,rfl,hM.drop off⟩)
theorem s_ia {α : Type} {x i : X} {a : AV} {xs : List α} {c : α → List V} {n : Nat} {k : IntKind} {j : Int} {e : α} (hx : opd E x = some a) (ha : RelS (L + 1) (.sl n (xs.map c)) a) (hi : opd E i = some (.lit (.int k j))) (he : G.idx xs j = some e)
  : Stp P L f E A d .none (.ia n x i) af0 (fun u=>∃ zs,u = .cref zs ∧ RelP (c e) zs):=by
 unfold G.idx at he
 split at he
 ·rename_i h0
  rcases ha with ⟨hn,_⟩ | ⟨sp,ys,rfl,_,hr⟩
  ·have : xs = []:=by simpa using hn
   subst this
   simp at he
  ·obtain ⟨zs,h1,h2⟩:=hr.get (i:=j.toNat) (v:=c e) (by rw [List.getElem?_map,he]; rfl)
   exact aN7 (fun T S hT=>⟨_,by
    simp only [bop,hT.at hx,hT.at hi,iaV]
    rw [if_pos ⟨h0,trivial⟩,h1]
    rfl,zs,rfl,h2.toP⟩)
 ·cases he
theorem s_llC {α : Type} {x : X} {a : AV} {xs : List α} {c : α → List V} {n : Nat} (hx : opd E x = some a) (ha : RelC (.sl n (xs.map c)) a) : Stp P L f E A d (.at x) (.ll x) af0 (fun u=>u = .lit (.int .i64 xs.length)):=by
 refine aJ5 (fun T S hT _=>⟨_,by
  simp only [bop,hT.at hx,(ha.toS (L:=0)).len,Option.map_some,List.length_map],rfl⟩) (fun T S hT _=>⟨.inl ?_,.inl rfl⟩)
 show ae8 (x.at T) = _
 rw [hT.at hx]
 exact ha.noslot
theorem s_ldc {x : X} {ys : List AV} {M : List V} {v : V} (hx : opd E x = some (.cref ys)) (hM : RelP M ys) (hv : M[0]? = some v) : Stp P L f E A d (.at x) (.ld1 x) af0 (fun c=>RelC v c):=by
 obtain ⟨c,h1,h2⟩:=hM.get hv
 refine aJ5 (fun T S hT hS=>⟨c,?_,h2⟩) (fun T S hT _=>⟨.inl ?_,.inl rfl⟩)
 ·simp only [bop,hT.at hx,ld1V,bg7]
  rw [List.head?_eq_getElem?,h1]
  rfl
 ·show ae8 (x.at T) = _
  rw [hT.at hx]
  rfl
theorem s_ldnc {x : X} {ys : List AV} {M N : List V} {n : Nat} (hx : opd E x = some (.cref ys)) (hM : RelP M ys) (hn : Nat.ble n M.length = true) (hN : M.take n = N) : Stp P L f E A d (.at x) (.ldn n x) af0 (fun u=>∃ zs,u = .agg zs ∧ ab1 N zs):=by
 subst hN
 obtain ⟨hM1,hM2⟩:=hM.take (ag3 hn)
 refine aJ5 (fun T S hT hS=>⟨.agg (ys.take n),?_,_,rfl,hM1⟩) (fun T S hT _=>⟨.inl ?_,.inl rfl⟩)
 ·simp only [bop,hT.at hx,ldnV,bg7]
  rw [if_pos hM2]
  rfl
 ·show ae8 (x.at T) = _
  rw [hT.at hx]
  rfl
theorem s_bsl {e : TypeId} {n : Nat} {xs : List X} {es es' : List (List V)} (hl : Cfg.live f.fn d = false) (hx : BslR E n xs es) (he : es = es') : Stp P L f E A d .here (.bsl e n xs) (some [d],some []) (fun a=>RelC (.sl n es') a ∧ ∃ ys,a = .list .full n ys):=by
 subst he
 refine aJ5 (fun T S hT hS=>?_) (fun T S hT hS=>⟨bz3 (T:=T) hS,.inl rfl⟩)
 obtain ⟨k1,k2,k3⟩:=hx.ok hT
 refine ⟨_,?_,RelC.list rfl k3,_,rfl⟩
 simp only [bop]
 rw [if_pos ⟨k1,k2⟩,hS.fn,hl]
 rfl
end
def aQ1 (L : Nat) (res : List BR) (rs : List RV) : ag1:=fun x T S=>(x = .ret ∨ x = .normal) ∧ S.dfr = [] ∧ S.outs L = [] ∧ ∃ as1,az2 S T res = some as1 ∧ RVL (L + 1) rs as1
def numE : Nat → List AV → Env
 | _,[]=>[]
 | n,a :: r=>(n,a) :: numE (n + 1) r
theorem b50 : ∀ {l : List AV} {n k : Nat} {v : AV},look (numE n l) k = some v → n ≤ k ∧ l[k - n]? = some v
 | [],_,_,_,h=>by cases h
 | a :: r,n,k,v,h=>by
  unfold numE at h
  rw [aR6] at h
  split at h
  ·rename_i e
   subst e
   cases h
   exact ⟨Nat.le_refl _,by simp⟩
  ·rename_i e
   obtain ⟨h1,h2⟩:=b50 h
   refine ⟨by omega,?_⟩
   rw [show k - n = (k - (n + 1)) + 1 by omega,List.getElem?_cons_succ]
   exact h2
theorem Ag.args (l : List AV) : Ag (numE 0 l) (aC5 l):=by
 intro k v h
 obtain ⟨_,h2⟩:=b50 h
 simp only [Nat.sub_zero] at h2
 show l.getD k _ = v
 rw [List.getD_eq_getElem?_getD,h2]
 rfl
inductive Ctl (σ β ρ : Type) where
 | nxt (s : σ)
 | brk (s : β)
 | ret (r : ρ)
inductive Out (β ρ : Type) where
 | brk (s : β)
 | ret (r : ρ)
def by6 {σ β ρ : Type} (body : σ → Option (Ctl σ β ρ)) : Nat → σ → Option (Out β ρ)
 | 0,_=>none
 | n + 1,s=>match body s with
  | some (.nxt s')=>by6 body n s'
  | some (.brk s')=>some (.brk s')
  | some (.ret r)=>some (.ret r)
  | none=>none
theorem bP7 {σ β ρ : Type} {body : σ → Option (Ctl σ β ρ)} : ∀ n m s r,n ≤ m → by6 body n s = some r → by6 body m s = some r
 | 0,_,_,_,_,h=>by cases h
 | n + 1,0,_,_,hm,_=>by omega
 | n + 1,m + 1,s,r,hm,h=>by
  unfold by6 at h ⊢
  cases hb : body s with
  | none=>rw [hb] at h; cases h
  | some c =>
   rw [hb] at h
   cases c with
   | nxt s'=>exact bP7 n m s' r (by omega) h
   | _=>exact h
noncomputable def Loop {σ β ρ : Type} (body : σ → Option (Ctl σ β ρ)) (s : σ) : Option (Out β ρ):=lim fun n=>by6 body n s
theorem bn8 {σ β ρ : Type} {body : σ → Option (Ctl σ β ρ)} {s : σ} {r : Out β ρ} : Loop body s = some r ↔ ∃ n,by6 body n s = some r:=bV5 fun n m r hnm h=>bP7 n m s r hnm h
section
variable [Cfg] {P : Program}
def bb5 {σ β ρ : Type} (id : Nat) (IN : σ → BT → AS → Prop) (IB : β → BT → AS → Prop) (IR : ρ → ag1) : Ctl σ β ρ → ag1
 | .nxt s=>fun x T S=>x = .normal ∧ IN s T S
 | .brk s=>fun x T S=>x = .exit id ∧ IB s T S
 | .ret r=>fun x T S=>x = .ret ∧ IR r .ret T S
def OPost {β ρ : Type} (id : Nat) (IB : β → BT → AS → Prop) (IR : ρ → ag1) : Out β ρ → ag1
 | .brk s=>fun x T S=>x = .exit id ∧ IB s T S
 | .ret r=>fun x T S=>x = .ret ∧ IR r .ret T S
theorem cn0 {σ β ρ : Type} {c : BC} {body : σ → Option (Ctl σ β ρ)} {id : Nat} {IN : σ → BT → AS → Prop} {IB : β → BT → AS → Prop} {IR : ρ → ag1} (h : ∀ s c',body s = some c' → ∀ T S,IN s T S → RunB P c T S (bb5 id IN IB IR c')) :
  ∀ n s out,by6 body n s = some out → ∀ T S,IN s T S → RunB P (.loop c) T S (OPost id IB IR out)
 | 0,_,_,hl,_,_,_=>by cases hl
 | n + 1,s,out,hl,T,S,hI=>by
  unfold by6 at hl
  cases hb : body s with
  | none=>rw [hb] at hl; cases hl
  | some c' =>
   rw [hb] at hl
   obtain ⟨x,T',S',k1,k2⟩:=h s c' hb T S hI
   unfold RunB
   rw [bO6,k1]
   cases c' with
   | nxt s' =>
    obtain ⟨rfl,k2⟩:=k2
    exact cn0 h n s' out hl T' S' k2
   | brk s' =>
    obtain ⟨rfl,k2⟩:=k2
    cases hl
    exact ⟨_,T',S',rfl,rfl,k2⟩
   | ret r =>
    obtain ⟨rfl,k2⟩:=k2
    cases hl
    exact ⟨_,T',S',rfl,rfl,k2⟩
theorem g_loop {σ β ρ : Type} {c : BC} {body : σ → Option (Ctl σ β ρ)} {id : Nat} {IN : σ → BT → AS → Prop} {IB : β → BT → AS → Prop} {IR : ρ → ag1} {L : Nat} {f : Fr} {E : Env} {A : List It} {Φ : ag1} {s : σ} {out : Out β ρ} (hl : Loop body s = some out)
  (h : ∀ s c',body s = some c' → ∀ T S,IN s T S → RunB P c T S (bb5 id IN IB IR c')) (hI : ∀ T S,Ag E T → StA S L f A → IN s T S) (hk : ∀ x T S,OPost id IB IR out x T S → Φ x T S) : GC P (.loop c) L f E A Φ:=by
 intro T S hT hS
 obtain ⟨n,hn⟩:=bn8.1 hl
 obtain ⟨x,T',S',k1,k2⟩:=cn0 h n s out hn T S (hI T S hT hS)
 exact ⟨x,T',S',k1,hk x T' S' k2⟩
end
open Go.RowKit
structure A2 where
 x0 : Int
 x1 : Int
structure A4 where
 x0 : Int
 x1 : Int
 x2 : Int
 x3 : Int
def aD9 (k : IntKind) (n : Int) : List V:=[.int k n]
def vref {α : Type} (c : α → List V) : Option α → V
 | none=>.nilp
 | some x=>.ref (c x)
def c_A4 (k : IntKind) (a : A4) : List V:=[.int k a.x0,.int k a.x1,.int k a.x2,.int k a.x3]
theorem bw4 {k : IntKind} {n : Int} : RelC (.int k n) (.lit (.int k n)):=by unfold RelC; rfl
theorem cB9 : RelC .nili (.lit .nilIface):=by unfold RelC; rfl
theorem RelC.some {α : Type} {c : α → List V} {x : α} {a : AV} (h : RelC (vref c (some x)) a) : ∃ ys,a = .cref ys ∧ RelP (c x) ys:=by
 have h : RelC (.ref (c x)) a:=h
 unfold RelC at h
 obtain ⟨ys,zs,rfl,h2⟩:=h
 exact ⟨_,rfl,ys,zs,rfl,h2⟩
theorem bq2 : ab1 [] []:=by unfold ab1; rfl
theorem aD1 {v : V} {a : AV} {r : List V} {t : List AV} (h1 : RelC v a) (h2 : ab1 r t) : ab1 (v :: r) (a :: t):=by unfold ab1; exact ⟨a,t,rfl,h1,h2⟩
namespace G
def chk (n : Nat) (i : Int) : Option Unit:=if 0 ≤ i ∧ i < n then some () else none
def when {α : Type} (c : Bool) (o : Option α) (d : α) : Option α:=match c with
 | true=>o
 | false=>some d
def andK (k : IntKind) (a b : Int) : Int:=k.wrap (BitVec.ofInt k.bits a &&& BitVec.ofInt k.bits b).toNat
def orK (k : IntKind) (a b : Int) : Int:=k.wrap (BitVec.ofInt k.bits a ||| BitVec.ofInt k.bits b).toNat
def shlK (k : IntKind) (a b : Int) : Option Int:=if 0 ≤ b then some (k.wrap (a * 2 ^ (min b.toNat k.bits))) else none
def shrK (k : IntKind) (a b : Int) : Option Int:=if 0 ≤ b then some (a.fdiv (2 ^ (min b.toNat k.bits))) else none
end G
theorem cm0 {n : Nat} {i : Int} {u : Unit} (h : G.chk n i = some u) : 0 ≤ i ∧ i < n:=by
 unfold G.chk at h
 split at h
 ·rename_i h'; exact h'
 ·cases h
def A4.get (a : A4) (i : Int) : Int:=if i = 0 then a.x0 else if i = 1 then a.x1 else if i = 2 then a.x2 else a.x3
def A4.set (a : A4) (i v : Int) : A4:=if i = 0 then { a with x0:=v } else if i = 1 then { a with x1:=v } else if i = 2 then { a with x2:=v } else { a with x3:=v }
theorem A4.cases {P : Int → Prop} (h0 : P 0) (h1 : P 1) (h2 : P 2) (h3 : P 3) {j : Int} {u : Unit} (hj : G.chk 4 j = some u) : P j:=by
 have:=cm0 hj
 rcases (show j = 0 ∨ j = 1 ∨ j = 2 ∨ j = 3 by omega) with rfl | rfl | rfl | rfl <;> assumption
theorem whenT {α : Type} {c : Bool} {o : Option α} {d x : α} (h : G.when c o d = some x) (hc : c = true) : o = some x:=by subst hc; exact h
theorem ib_shlK {k k' : IntKind} {a b c : Int} (h : G.shlK k a b = some c) : ibV .shl (.lit (.int k a)) (.lit (.int k' b)) = some (.lit (.int k c)):=by
 unfold G.shlK at h
 split at h
 ·rename_i h0
  cases h
  simp [ibV,intB,h0]
 ·cases h
theorem ib_shrK {k k' : IntKind} {a b c : Int} (h : G.shrK k a b = some c) : ibV .shr (.lit (.int k a)) (.lit (.int k' b)) = some (.lit (.int k c)):=by
 unfold G.shrK at h
 split at h
 ·rename_i h0
  cases h
  simp [ibV,intB,h0]
 ·cases h
section
variable [Cfg] {P : Program} {L : Nat} {f : Fr} {E : Env} {A : List It} {d : Nat}
theorem s_iaa {len n : Nat} {x i : X} {p : Loc} {g m o : Nat} {k : IntKind} {j : Int} {u : Unit} (hx : opd E x = some (.ptr p g m o)) (hi : opd E i = some (.lit (.int k j))) (hj : G.chk len j = some u) : Stp P L f E A d .none (.iaa len n x i) af0 (fun v=>v = .ptr p g m (o + j.toNat * n)) :=
 aL6 fun T S hT=>by
  have h:=cm0 hj
  simp only [bop,hT.at hx,hT.at hi,iaaV]
  rw [if_pos ⟨h.1,h.2⟩]
  rfl
theorem s_clX {g : FuncId} {xs : List X} {args : List AV} {Q : AV → Prop} (hup : ∀ h,Cfg.up g h = false) (hx : optL E xs = some args) (hcl : AV.ac4 (args.map AV.ac1) = true) (hc : ∃ v,ah6 P g (args.map AV.ac1) .bare = some (.ret v,none) ∧ Q v) : Stp P L f E A d .none (.cl g xs) af0 Q:=by
 intro T S hT hS
 have hb : bop P S T (some d) (.cl g xs) = some (.call g args):=by simp only [bop]; rw [br8 hT hx]
 obtain ⟨v,h1,h2⟩:=hc
 exact ⟨v,⟨BF.foot S T (some d) .none,.none⟩,h2,⟨.inl rfl,.inl rfl⟩,fun c r=>by rw [af5,hb,show (BO.cl g xs).w = true from rfl,bX0,hup,hcl,Bool.not_false,Bool.true_and,bx4,h1,cG0]⟩
variable {Φ : ag1} {m : Option (List (Nat × Nat))} {acc : AAcc} {r : List BI}
end
section
variable [Cfg] {P : Program} {L : Nat} {f : Fr} {E : Env} {A : List It} {d : Nat}
theorem s_max {x y : Operand} {t1 t2 ty : TypeId} {k k' : IntKind} {a b : Int} (hx : opd E (af1 x) = some (.lit (.int k a))) (hy : opd E (af1 y) = some (.lit (.int k' b))) : Stp P L f E A d .none (.gen (.call ⟨.builtin .max,#[x,y],#[t1,t2]⟩) ty) af0 (fun u=>u = .lit (.int k (if b > a then b else a))) :=
 aL6 (fun T S hT=>by
  have h1 : aevF T x = .lit (.int k a):=hT.at hx
  have h2 : aevF T y = .lit (.int k' b):=hT.at hy
  simp [bop,aop,aD3,aJ0,Op.operands,execOp,h1,h2,AV.toV,aa3,Builtin.max_,Builtin.max2,AV.ofV,resolve,invoke,builtin,Call.operands]
  rfl)
theorem s_ncR {α : Type} {x : X} {a : AV} {c : α → List V} {o : Option α} {y : α} (hx : opd E x = some a) (ha : RelC (vref c o) a) (ho : o = some y) : Stp P L f E A d .none (.nc x) af0 (fun u=>∃ ys,u = .cref ys ∧ RelP (c y) ys):=by
 subst ho
 obtain ⟨ys,rfl,h⟩:=ha.some
 exact aN7 fun T S hT=>⟨.cref ys,bC5 (hT.at hx),ys,rfl,h⟩
theorem s_ncP {x : X} {p : Loc} {g n o : Nat} (hx : opd E x = some (.ptr p g n o)) : Stp P L f E A d .none (.nc x) af0 (fun u=>u = .ptr p g n o):=aL6 fun T S hT=>bz6 (hT.at hx)
theorem s_ncC {x : X} {cs : List AV} (hx : opd E x = some (.cref cs)) : Stp P L f E A d .none (.nc x) af0 (fun u=>u = .cref cs):=aL6 fun T S hT=>bC5 (hT.at hx)
theorem s_mi {x : X} {zs : List AV} {M : List V} {t : TypeId} {v : V} (hx : opd E x = some (.agg zs)) (hM : ab1 M zs) (hv : V.ifc t true M = v) : Stp P L f E A d .none (.mi t x) af0 (fun u=>RelC v u):=by
 subst hv
 exact aN7 fun T S hT=>⟨.iface t (.agg (zs.map AV.as6)),by simp only [bop,hT.at hx,AV.ac1],by unfold RelC; exact ⟨_,aF4.norm (L:=0) hM.toS,.inl ⟨rfl,rfl⟩⟩⟩
end
open Go.RowKit
section
variable [Cfg] {P : Program} {L : Nat} {f : Fr} {E : Env} {A : List It} {Φ : ag1} {m : Option (List (Nat × Nat))} {acc : AAcc} {r : List BI} {d : Nat} {bf : BF}
variable {tp tb tu tz te fne fcc fws fwb fst : Nat}
end
open Go.RowKit
def New (S : AS) (q : Loc) : Prop:=q.l = S.lvl ∧ q.k = 0 ∧ q.i ≠ 0 ∧ S.get q = none
structure Left (S : AS) (u : Upd) (F G : List Loc) : Prop where
 lvl : (S.after u).lvl = S.lvl
 fn : (S.after u).fn = S.fn
 dfr : (S.after u).dfr = S.dfr
 dup : G.Nodup
 cov : ∀ q ∈ F,q ∈ G
 src : ∀ q ∈ G,q ∈ F ∨ New S q
 log : ∀ q ∈ ulog u,q ∈ F ∨ New S q
 frame : ∀ q,q ∉ ulog u → (S.after u).get q = S.get q
def outE (pan : Bool) (v : AV) : AE:=match pan with
 | true=>.pan v
 | false=>.ret v
def cD2 [Cfg] (P : Program) (f : FuncId) (ins : List OA) (pan : Bool) (outs res : List OA) : Prop :=
 ∀ (S : AS) (args : List AV) (F : List Loc),Cfg.up f S.fn = true → AtAs S ins (args.map AV.ac1) F → F.Nodup → (∀ q ∈ F,q.l ≤ S.lvl) →
  ∃ v u F1 F2 J,ah6 P f args S = some (outE pan v,u) ∧ AtAs (S.after u) outs (args.map AV.ac1) F1 ∧ ResO (S.after u) res v F2 ∧ av7 (S.after u) J ∧ Left S u F (F1 ++ (F2 ++ J))
theorem cD0 {S : AS} {l : Nat} {ρ : Loc → Loc} {a : AV} (h : Cx S l a) (hd : AV.deep l a = []) : renX l ρ a = a:=by
 cases h with
 | c h=>exact as7 h
 | p h=>simp only [renX,aA1,if_pos h]
 | pd h=>simp only [AV.deep,if_neg (Nat.not_le.2 h)] at hd; cases hd
 | m h=>simp only [renX,aA1,if_pos h]
 | md h=>simp only [AV.deep,if_neg (Nat.not_le.2 h)] at hd; cases hd
 | r h=>simp only [renX,aA1,if_pos h]
 | rd h=>simp only [AV.deep,if_neg (Nat.not_le.2 h)] at hd; cases hd
 | t h h'=>simp only [renX,aA1,if_pos h']
 | d h h'=>simp only [AV.deep,if_neg (Nat.not_le.2 h')] at hd; cases hd
theorem bp4 {S : AS} {l : Nat} {ρ : Loc → Loc} : ∀ {cs : List AV},(∀ a ∈ cs,Cx S l a) → AV.am4 l cs = [] → cs.map (renX l ρ) = cs
 | [],_,_=>rfl
 | a :: r,h,hd=>by
  simp only [AV.am4,List.append_eq_nil_iff] at hd
  rw [List.map_cons,cD0 (h a (List.mem_cons_self ..)) hd.1,bp4 (fun x hx=>h x (List.mem_cons_of_mem _ hx)) hd.2]
theorem renY_id {S : AS} {l : Nat} {ρ : Loc → Loc} {a : AV} (h : Cy S l a) (hd : AV.deep l a = []) : renX l ρ a = a:=by
 rcases h with h | ⟨cs,rfl,h⟩
 ·exact cD0 h hd
 ·simp only [AV.deep] at hd
  show AV.agg _ = AV.agg _
  congr 1
  rw [show cs.map (aA1 l ρ) = cs.map (renX l ρ) from List.map_congr_left fun x hx=>(h x hx).rx.symm]
  exact bp4 h hd
theorem bV7 {S : AS} {l : Nat} {ρ : Loc → Loc} : ∀ {cs : List AV},(∀ a ∈ cs,Cy S l a) → AV.am4 l cs = [] → cs.map (renX l ρ) = cs
 | [],_,_=>rfl
 | a :: r,h,hd=>by
  simp only [AV.am4,List.append_eq_nil_iff] at hd
  rw [List.map_cons,renY_id (h a (List.mem_cons_self ..)) hd.1,bV7 (fun x hx=>h x (List.mem_cons_of_mem _ hx)) hd.2]
theorem renSX_id {S : AS} {l : Nat} {ρ : Loc → Loc} {s : ab3} (h : bd1 S l s) (hd : s.deep l = []) : aR7 l ρ s.gen s = s:=by
 cases h with
 | obj h=>simp only [aR7,ab3.gen,bp4 h hd]
 | tok=>rfl
 | @map g ck es h =>
  simp only [ab3.deep,bo5] at hd
  have h1 : (es.map (·.val)).map (renX l ρ) = es.map (·.val):=bp4 (fun a ha=>by
   obtain ⟨e,he,rfl⟩:=List.mem_map.1 ha
   exact h e he) hd
  have h2 : ∀ {es : List ah8},(es.map (·.val)).map (renX l ρ) = es.map (·.val) → es.map (cf9 l ρ) = es:=by
   intro es
   induction es with
   | nil=>intro _; rfl
   | cons e r ih =>
    intro h
    simp only [List.map_cons,List.cons.injEq] at h
    rw [List.map_cons,ih h.2]
    unfold cf9
    rw [h.1]
  simp only [aR7,ab3.gen,h2 h1]
 | row h=>simp only [aR7,ab3.gen,bp4 h hd]
 | itr=>rfl
theorem Gs.reach {S : AS} {l n : Nat} {e : TypeId} {es : List (List V)} {a : AV} {F R : List Loc} (h : Gs S n e es a F) (ha : ∀ x ∈ AV.deep l a,x ∈ R) : ∀ q ∈ F,l < q.l → q ∈ R:=by
 rcases h with ⟨_,_,rfl⟩ | ⟨ys,rfl,h2,rfl⟩ | ⟨q,k,ys,rfl,h2,h3,rfl⟩
 ·exact fun q hq=>(nomatch hq)
 ·exact fun q hq=>(nomatch hq)
 ·intro x hx hl
  rw [List.mem_singleton] at hx
  subst hx
  refine ha _ ?_
  simp only [AV.deep,if_neg (Nat.not_le.2 hl)]
  exact List.mem_append.2 (.inl (List.mem_singleton.2 rfl))
mutual
theorem AtO.reach {S : AS} {l : Nat} {R : List Loc} (hU : ∀ p s,(p.l ≤ l ∨ p ∈ R) → S.get p = some s → ∀ x ∈ s.deep l,x ∈ R) {p : Loc} {g i : Nat} : ∀ {o : OV} {a : AV} {F : List Loc},AtO S p g i o a F → (∀ x ∈ AV.deep l a,x ∈ R) → ∀ q ∈ F,l < q.l → q ∈ R
 | .c v,a,F,h,_=>by
  unfold AtO at h
  obtain ⟨_,rfl⟩:=h
  exact fun q hq=>(nomatch hq)
 | .self,a,F,h,_=>by
  unfold AtO at h
  obtain ⟨_,rfl⟩:=h
  exact fun q hq=>(nomatch hq)
 | .bb te t,a,F,h,ha=>by unfold AtO at h; exact h.gs.reach ha
 | .gs n e es,a,F,h,ha=>by unfold AtO at h; exact h.reach ha
 | .li n e es,a,F,h,ha=>by
  unfold AtO at h
  rcases h with h | ⟨_,_,_,rfl⟩
  ·exact h.reach ha
  ·exact fun q hq=>(nomatch hq)
 | .it s pos,a,F,h,ha=>by
  unfold AtO at h
  obtain ⟨q,k,rfl,rfl,h2⟩:=h
  intro x hx hl
  rw [List.mem_singleton] at hx
  subst hx
  exact ha _ (by simp only [AV.deep,if_neg (Nat.not_le.2 hl),List.mem_singleton])
 | .rw x0 n e es,a,F,h,ha=>by
  unfold AtO at h
  rcases h with ⟨_,h⟩ | ⟨q,k,ys,zs,rfl,h2,h3,rfl⟩
  ·exact h.reach ha
  ·intro x hx hl
   rw [List.mem_singleton] at hx
   subst hx
   exact ha _ (by simp only [AV.deep,if_neg (Nat.not_le.2 hl),List.mem_singleton])
 | .ptr t os,a,F,h,ha=>by
  unfold AtO at h
  obtain ⟨q,k,cs,F',rfl,rfl,h2,h3⟩:=h
  have hq : q.l ≤ l ∨ q ∈ R:=by
   rcases Nat.lt_or_ge l q.l with hl | hl
   ·exact .inr (ha q (by simp only [AV.deep,if_neg (Nat.not_le.2 hl),List.mem_singleton]))
   ·exact .inl hl
  have:=AtL.reach hU h3 (hU q _ hq h2)
  intro x hx hl
  rcases List.mem_cons.1 hx with rfl | hx
  ·rcases hq with hq | hq
   ·omega
   ·exact hq
  ·exact this x hx hl
 | .mp ks vs,a,F,h,ha=>by
  unfold AtO at h
  obtain ⟨q,k,es,ck,F',rfl,rfl,h2,h3,h4,h5,h6⟩:=h
  have hq : q.l ≤ l ∨ q ∈ R:=by
   rcases Nat.lt_or_ge l q.l with hl | hl
   ·exact .inr (ha q (by simp only [AV.deep,if_neg (Nat.not_le.2 hl),List.mem_singleton]))
   ·exact .inl hl
  have:=AtL.reach hU h6 (by
   have:=hU q _ hq h2
   simp only [ab3.deep,bo5] at this
   exact this)
  intro x hx hl
  rcases List.mem_cons.1 hx with rfl | hx
  ·rcases hq with hq | hq
   ·omega
   ·exact hq
  ·exact this x hx hl
theorem AtL.reach {S : AS} {l : Nat} {R : List Loc} (hU : ∀ p s,(p.l ≤ l ∨ p ∈ R) → S.get p = some s → ∀ x ∈ s.deep l,x ∈ R) {p : Loc} {g : Nat} : ∀ {os : List OV} {i : Nat} {cs : List AV} {F : List Loc},AtL S p g i os cs F → (∀ x ∈ AV.am4 l cs,x ∈ R) → ∀ q ∈ F,l < q.l → q ∈ R
 | [],i,cs,F,h,_=>by
  unfold AtL at h
  obtain ⟨_,rfl⟩:=h
  exact fun q hq=>(nomatch hq)
 | o :: r,i,cs,F,h,ha=>by
  unfold AtL at h
  obtain ⟨a,t,F1,F2,rfl,rfl,h2,h3⟩:=h
  simp only [AV.am4] at ha
  intro q hq hl
  rcases List.mem_append.1 hq with hq | hq
  ·exact AtO.reach hU h2 (fun x hx=>ha x (List.mem_append.2 (.inl hx))) q hq hl
  ·exact AtL.reach hU h3 (fun x hx=>ha x (List.mem_append.2 (.inr hx))) q hq hl
end
theorem AtAs.reach {S : AS} {l : Nat} {R : List Loc} (hU : ∀ p s,(p.l ≤ l ∨ p ∈ R) → S.get p = some s → ∀ x ∈ s.deep l,x ∈ R) : ∀ {os : List OA} {as1 : List AV} {F : List Loc},AtAs S os as1 F → (∀ x ∈ AV.am4 l as1,x ∈ R) → ∀ q ∈ F,l < q.l → q ∈ R
 | [],as1,F,h,_=>by
  obtain ⟨_,rfl⟩:=h
  exact fun q hq=>(nomatch hq)
 | o :: r,as1,F,h,ha=>by
  obtain ⟨a,t,F1,F2,rfl,rfl,h2,h3⟩:=h
  simp only [AV.am4] at ha
  intro q hq hl
  rcases List.mem_append.1 hq with hq | hq
  ·cases o with
   | r v=>rw [h2.2] at hq; cases hq
   | x =>
    have h2 : F1 = []:=h2
    rw [h2] at hq; cases hq
   | ag os =>
    obtain ⟨cs,rfl,h2⟩:=h2
    exact AtL.reach hU h2 (fun x hx=>ha x (List.mem_append.2 (.inl (by simpa only [AV.deep] using hx)))) q hq hl
   | o v=>exact AtO.reach hU h2 (fun x hx=>ha x (List.mem_append.2 (.inl hx))) q hq hl
  ·exact AtAs.reach hU h3 (fun x hx=>ha x (List.mem_append.2 (.inr hx))) q hq hl
theorem bC3 (l : Nat) (as1 : List AV) : AV.deep l (ao0 as1) = AV.am4 l as1:=by
 match as1 with
 | []=>rfl
 | [a]=>simp only [ao0,AV.am4,List.append_nil]
 | a :: b :: r=>rfl
theorem cE4 {S : AS} {l : Nat} {as1 : List AV} (h : ∀ a ∈ as1,Cy S l a) : Vx S l (ao0 as1):=by
 match as1 with
 | []=>exact .tup h
 | [a]=>exact .one (h a (List.mem_singleton.2 rfl))
 | a :: b :: r=>exact .tup h
theorem b73 {S : AS} {l : Nat} {ρ : Loc → Loc} {as1 : List AV} (h : ∀ a ∈ as1,Cy S l a) : b79 l ρ (ao0 as1) = ao0 (as1.map (renX l ρ)):=by
 match as1 with
 | []=>rfl
 | [a] =>
  show b79 l ρ a = renX l ρ a
  cases a with
  | tup cs =>
   have hc : (AV.tup cs).closed = true:=by
    rcases h _ (List.mem_singleton.2 rfl) with h | ⟨_,h,_⟩
    ·cases h with
     | c h=>exact h
    ·cases h
   simp only [b79,renX,aA1]
   congr 1
   exact ay6 (az5 (by simpa only [AV.closed] using hc))
  | _=>rfl
 | a :: b :: r=>rfl
theorem cj9 {S : AS} {res : List OA} {as1 : List AV} {F : List Loc} (h : AtAs S res as1 F) : ResO S res (ao0 as1) F:=by
 match res,h with
 | [],h =>
  obtain ⟨rfl,rfl⟩:=h
  exact ⟨[],rfl,rfl,rfl⟩
 | [o],h =>
  obtain ⟨a,t,F1,F2,rfl,rfl,h2,rfl,rfl⟩:=h
  rw [List.append_nil]
  exact h2
 | o :: o' :: r,h =>
  have h0:=h
  obtain ⟨a,t,F1,F2,rfl,rfl,h2,a',t',F3,F4,rfl,rfl,h3⟩:=h
  exact ⟨_,rfl,h0⟩
theorem bw7 {α β : Type} {f : α → β} : ∀ {l : List α},l.Nodup → (∀ x ∈ l,∀ y ∈ l,f x = f y → x = y) → (l.map f).Nodup
 | [],_,_=>List.nodup_nil
 | a :: r,hn,h=>by
  have hn:=List.nodup_cons.1 hn
  rw [List.map_cons,List.nodup_cons]
  refine ⟨fun hm=>?_,bw7 hn.2 fun x hx y hy=>h x (List.mem_cons_of_mem _ hx) y (List.mem_cons_of_mem _ hy)⟩
  obtain ⟨b,hb,e⟩:=List.mem_map.1 hm
  have:=h b (List.mem_cons_of_mem _ hb) a (List.mem_cons_self ..) e
  subst this
  exact hn.1 hb
theorem bV9 [Cfg] {f : FuncId} {S S' : AS} {W : List Loc} {as1 args : List AV} {F1 F2 J : List Loc} {ins outs res : List OA} (hup : Cfg.up f S.fn = true) (hki : ins.all OA.keep = true) (hkr : res.all OA.keep = true) (hin : AtAs S ins args W) (hW : ∀ q ∈ W,q.l ≤ S.lvl)
  (hlog : ∀ r ∈ S'.log,r.l ≤ S.lvl → r ∈ W) (hun : ∀ r,r.l ≤ S.lvl → r ∉ S'.log → S'.get r = S.get r) (h1 : AtAs S' outs args F1) (h2 : AtAs S' res as1 F2) (h3 : av7 S' J) (hd : (F1 ++ (F2 ++ J)).Nodup)
  (hc : ∀ q ∈ W,q ∈ F1 ++ (F2 ++ J)) (hs : ∀ q ∈ F1 ++ (F2 ++ J),q ∈ W ∨ S.lvl < q.l) :
  ∃ v u F1' F2' J',ak3 f S S' (ao0 as1) = some (ao0 v,u) ∧ AtAs (S.after u) outs args F1' ∧ AtAs (S.after u) res v F2' ∧ av7 (S.after u) J' ∧ Left S u W (F1' ++ (F2' ++ J')):=by
 obtain ⟨A,hA⟩ : ∃ A,A = F1 ++ (F2 ++ J):=⟨_,rfl⟩
 rw [← hA] at hd hc hs
 obtain ⟨w1,w2,w3⟩:=hin.reg (l:=S.lvl) hki
 have a3:=h1.slots (l:=S.lvl)
 obtain ⟨b1,b2,b3⟩:=h2.reg (l:=S.lvl) hkr
 have c3:=h3.reg (l:=S.lvl)
 have hreg : ∀ q ∈ A,bn6 S' S.lvl A q:=fun q hq=>by
  rw [hA] at hq
  rcases List.mem_append.1 hq with hq | hq
  ·exact (a3 q hq).mono fun x hx=>by rw [hA]; exact List.mem_append.2 (.inl hx)
  ·rcases List.mem_append.1 hq with hq | hq
   ·exact (b3 q hq).mono fun x hx=>by rw [hA]; exact List.mem_append.2 (.inr (List.mem_append.2 (.inl hx)))
   ·exact (c3 q hq).mono fun x hx=>by rw [hA]; exact List.mem_append.2 (.inr (List.mem_append.2 (.inr hx)))
 have hdeep : ∀ q ∈ W,∃ s,S.get q = some s ∧ bd1 S S.lvl s ∧ s.deep S.lvl = []:=fun q hq=>by
  obtain ⟨s,k1,k2,k3⟩:=w3 q hq
  refine ⟨s,k1,k2,List.eq_nil_iff_forall_not_mem.2 fun x hx=>?_⟩
  have e1:=hW x (k3 x hx)
  have e2 : S.lvl < x.l:=by
   cases k2 with
   | obj h =>
    obtain ⟨a,ha,hx⟩ : ∃ a,Cx S S.lvl a ∧ x ∈ AV.deep S.lvl a:=by
     clear k1 k3
     rename_i cs
     have : ∀ {cs : List AV},(∀ a ∈ cs,Cx S S.lvl a) → x ∈ AV.am4 S.lvl cs → ∃ a,Cx S S.lvl a ∧ x ∈ AV.deep S.lvl a:=by
      intro cs
      induction cs with
      | nil=>intro _ h; cases h
      | cons a r ih =>
       intro h hx
       simp only [AV.am4,List.mem_append] at hx
       rcases hx with hx | hx
       ·exact ⟨a,h a (List.mem_cons_self ..),hx⟩
       ·exact ih (fun y hy=>h y (List.mem_cons_of_mem _ hy)) hx
     exact this h hx
    exact ha.gt x hx
   | tok=>cases hx
   | map h =>
    obtain ⟨e,he,hx⟩:=List.mem_flatMap.1 hx
    exact (h e he).gt x hx
   | itr=>cases hx
   | row h =>
    have : ∀ {cs : List AV},(∀ a ∈ cs,Cx S S.lvl a) → x ∈ AV.am4 S.lvl cs → ∃ a,Cx S S.lvl a ∧ x ∈ AV.deep S.lvl a:=by
     intro cs
     induction cs with
     | nil=>intro _ h; cases h
     | cons a r ih =>
      intro h hx
      simp only [AV.am4,List.mem_append] at hx
      rcases hx with hx | hx
      ·exact ⟨a,h a (List.mem_cons_self ..),hx⟩
      ·exact ih (fun y hy=>h y (List.mem_cons_of_mem _ hy)) hx
    obtain ⟨a,ha,hx⟩:=this h hx
    exact ha.gt x hx
  omega
 have hargs : args.map (renX S.lvl (fun q=>q)) = args ∧ ∀ ρ,args.map (renX S.lvl ρ) = args:=by
  have : AV.am4 S.lvl args = []:=List.eq_nil_iff_forall_not_mem.2 fun x hx=>by
   have e1:=hW x (w2 x hx)
   have:=bo0 w1 x hx
   omega
  exact ⟨bV7 w1 this,fun ρ=>bV7 w1 this⟩
 have hout : ∀ p,p ∈ S'.outs S.lvl ↔ p ∈ S'.log ∧ p.l ≤ S.lvl:=fun p=>aw0
 have hund : ∀ q,q.l ≤ S.lvl → q ∉ S'.outs S.lvl → S'.get q = S.get q:=fun q hl hn=>hun q hl fun hm=>hn ((hout q).2 ⟨hm,hl⟩)
 -- what is deep
 obtain ⟨D,hD⟩ : ∃ D,D = A.filter fun q=>decide (S.lvl < q.l):=⟨_,rfl⟩
 have memD : ∀ q,q ∈ D ↔ q ∈ A ∧ S.lvl < q.l:=fun q=>by rw [hD,List.mem_filter]; simp
 have gtS : ∀ {s : ab3},bd1 S' S.lvl s → ∀ x ∈ s.deep S.lvl,S.lvl < x.l:=by
  intro s hs x hx
  have lst : ∀ {cs : List AV},(∀ a ∈ cs,Cx S' S.lvl a) → x ∈ AV.am4 S.lvl cs → S.lvl < x.l:=by
   intro cs
   induction cs with
   | nil=>intro _ h; cases h
   | cons a r ih =>
    intro h hx
    simp only [AV.am4,List.mem_append] at hx
    rcases hx with hx | hx
    ·exact (h a (List.mem_cons_self ..)).gt x hx
    ·exact ih (fun y hy=>h y (List.mem_cons_of_mem _ hy)) hx
  cases hs with
  | obj h=>exact lst h hx
  | tok=>cases hx
  | map h =>
   obtain ⟨e,he,hx⟩:=List.mem_flatMap.1 hx
   exact (h e he).gt x hx
  | row h=>exact lst h hx
  | itr=>cases hx
 have outA : ∀ p ∈ S'.outs S.lvl,p ∈ A:=fun p hp=>hc p (hlog p ((hout p).1 hp).1 ((hout p).1 hp).2)
 obtain ⟨u,ρ,R,k1,k2,k3⟩:=handUp_x (f:=f) (S:=S) (S':=S') (v:=ao0 as1) hup (cE4 b1) (fun p hp=>by
   obtain ⟨s,q1,q2,_⟩:=hreg p (outA p hp)
   exact ⟨s,q1,q2⟩) hund (D:=D) (fun d hd=>by
   obtain ⟨e1,e2⟩:=(memD d).1 hd
   obtain ⟨s,q1,q2,q3⟩:=hreg d e1
   exact ⟨e2,s,q1,q2,fun x hx=>(memD x).2 ⟨q3 x hx,gtS q2 x hx⟩⟩) (fun d hd=>by
   rw [bC3] at hd
   exact (memD d).2 ⟨by rw [hA]; exact List.mem_append.2 (.inr (List.mem_append.2 (.inl (b2 d hd)))),bo0 b1 d hd⟩) (fun p hp s q1 d hd=>by
   obtain ⟨s',e1,e2,e3⟩:=hreg p (outA p hp)
   rw [q1] at e1; cases e1
   exact (memD d).2 ⟨e3 d hd,gtS e2 d hd⟩)
 -- all that is new and in use is reached
 have hU : ∀ p s,(p.l ≤ S.lvl ∧ p ∈ A ∨ p ∈ R) → S'.get p = some s → ∀ x ∈ s.deep S.lvl,x ∈ R:=fun p s hp hps x hx=>by
  rcases hp with ⟨hp,hpA⟩ | hp
  ·by_cases ho : p ∈ S'.outs S.lvl
   ·exact k3.out p ho s hps x hx
   ·rw [hund p hp ho] at hps
    obtain ⟨s',e1,_,e3⟩:=hdeep p ((hs p hpA).resolve_right (by omega))
    rw [hps] at e1; cases e1
    rw [e3] at hx; cases hx
  ·exact k3.own p hp s hps x hx
 have hf1 : ∀ q ∈ F1,S.lvl < q.l → q ∈ R:=by
  have key : ∀ {os : List OA} {l1 : List AV} {F : List Loc},AtAs S' os l1 F → (∀ q ∈ F,q ∈ A) → (∀ x ∈ AV.am4 S.lvl l1,x ∈ R) → ∀ q ∈ F,S.lvl < q.l → q ∈ R:=by
   intro os l1 F hat hFA hdp
   -- slots above that are not of the region name nothing new here
   have h0 : AtAs S' os l1 F:=hat
   obtain ⟨S2,hS2⟩ : ∃ S2 : AS,S2 = { S' with tab:=S'.tab.filter fun x=>A.contains x.1 }:=⟨_,rfl⟩
   have hget : ∀ p,S2.get p = if p ∈ A then S'.get p else none:=by
    intro p
    rw [hS2]
    show Tab.get (S'.tab.filter fun x=>A.contains x.1) p = _
    have : ∀ t : Tab,Tab.get (t.filter fun x=>A.contains x.1) p = if p ∈ A then Tab.get t p else none:=by
     intro t
     induction t with
     | nil=>simp [Tab.get]
     | cons x r ih =>
      obtain ⟨q,s⟩:=x
      rw [List.filter_cons]
      by_cases hq : q ∈ A
      ·rw [if_pos (List.contains_iff_mem.2 hq)]
       simp only [Tab.get]
       by_cases e : q = p
       ·subst e; simp [hq]
       ·rw [if_neg e,if_neg e]; exact ih
      ·rw [if_neg (fun h=>hq (List.contains_iff_mem.1 h)),ih]
       simp only [Tab.get]
       by_cases e : q = p
       ·subst e; simp [hq]
       ·rw [if_neg e]
    exact this _
   have hat2 : AtAs S2 os l1 F:=hat.local fun q hq=>by rw [hget,if_pos (hFA q hq)]
   exact AtAs.reach (S:=S2) (l:=S.lvl) (R:=R) (fun p s hp hps x hx=>by
    rw [hget] at hps
    split at hps
    ·rename_i hpA
     rcases hp with hp | hp
     ·exact hU p s (.inl ⟨hp,hpA⟩) hps x hx
     ·exact hU p s (.inr hp) hps x hx
    ·cases hps) hat2 hdp
  refine key h1 (fun q hq=>by rw [hA]; exact List.mem_append.2 (.inl hq)) fun x hx=>?_
  have : AV.am4 S.lvl args = []:=List.eq_nil_iff_forall_not_mem.2 fun x hx=>by
   have e1:=hW x (w2 x hx)
   have e2:=bo0 w1 x hx
   omega
  rw [this] at hx; cases hx
 have hf2 : ∀ q ∈ F2,S.lvl < q.l → q ∈ R:=by
  obtain ⟨S2,hS2⟩ : ∃ S2 : AS,S2 = { S' with tab:=S'.tab.filter fun x=>A.contains x.1 }:=⟨_,rfl⟩
  have hget : ∀ p,S2.get p = if p ∈ A then S'.get p else none:=by
   intro p
   rw [hS2]
   show Tab.get (S'.tab.filter fun x=>A.contains x.1) p = _
   have : ∀ t : Tab,Tab.get (t.filter fun x=>A.contains x.1) p = if p ∈ A then Tab.get t p else none:=by
    intro t
    induction t with
    | nil=>simp [Tab.get]
    | cons x r ih =>
     obtain ⟨q,s⟩:=x
     rw [List.filter_cons]
     by_cases hq : q ∈ A
     ·rw [if_pos (List.contains_iff_mem.2 hq)]
      simp only [Tab.get]
      by_cases e : q = p
      ·subst e; simp [hq]
      ·rw [if_neg e,if_neg e]; exact ih
     ·rw [if_neg (fun h=>hq (List.contains_iff_mem.1 h)),ih]
      simp only [Tab.get]
      by_cases e : q = p
      ·subst e; simp [hq]
      ·rw [if_neg e]
   exact this _
  have hat2 : AtAs S2 res as1 F2:=h2.local fun q hq=>by
   rw [hget,if_pos (by rw [hA]; exact List.mem_append.2 (.inr (List.mem_append.2 (.inl hq))))]
  exact AtAs.reach (S:=S2) (l:=S.lvl) (R:=R) (fun p s hp hps x hx=>by
   rw [hget] at hps
   split at hps
   ·rename_i hpA
    rcases hp with hp | hp
    ·exact hU p s (.inl ⟨hp,hpA⟩) hps x hx
    ·exact hU p s (.inr hp) hps x hx
   ·cases hps) hat2 (fun x hx=>k3.val x (by rw [bC3]; exact hx))
 have hfr:=b40 k1
 have hlogu : ∀ q ∈ ulog u,q ∈ W ∨ New S q:=fun q hq=>by
  rcases k3.log q hq with h | ⟨p,hp,rfl⟩
  ·exact .inl (hlog q ((hout q).1 h).1 ((hout q).1 h).2)
  ·obtain ⟨e1,e2,e3,e4,_⟩:=k3.new p hp
   exact .inr ⟨e1,e2,e3,e4⟩
 have hturn : ∀ q ∈ A,(S.lvl < q.l → q ∈ R) → ∀ s,S'.get q = some s → (S.after u).get (rL S.lvl ρ q) = some (aR7 S.lvl ρ (rG S.lvl q s.gen) s):=fun q hq hr s hqs=>by
  unfold rL rG
  by_cases hl : q.l ≤ S.lvl
  ·rw [if_pos hl,if_pos hl]
   by_cases ho : q ∈ S'.outs S.lvl
   ·exact k3.outs q s ho hqs
   ·rw [hund q hl ho] at hqs
    obtain ⟨s',e1,e2,e3⟩:=hdeep q ((hs q hq).resolve_right (by omega))
    rw [hqs] at e1; cases e1
    rw [renSX_id e2 e3,hfr q fun hu=>?_]
    ·exact hqs
    ·rcases k3.log q hu with h | ⟨p,hp,rfl⟩
     ·exact ho h
     ·obtain ⟨_,_,_,e4,_⟩:=k3.new p hp
      rw [hqs] at e4; cases e4
  ·rw [if_neg hl,if_neg hl]
   obtain ⟨_,_,_,_,e5⟩:=k3.new q (hr (by omega))
   exact e5 s hqs
 have sub1 : ∀ q ∈ F1,q ∈ A:=fun q hq=>by rw [hA]; exact List.mem_append.2 (.inl hq)
 have sub2 : ∀ q ∈ F2,q ∈ A:=fun q hq=>by rw [hA]; exact List.mem_append.2 (.inr (List.mem_append.2 (.inl hq)))
 have subJ : ∀ q ∈ J,q ∈ A:=fun q hq=>by rw [hA]; exact List.mem_append.2 (.inr (List.mem_append.2 (.inr hq)))
 obtain ⟨J0,hJ0⟩ : ∃ J0,J0 = J.filter fun q=>decide (q.l ≤ S.lvl):=⟨_,rfl⟩
 have memJ : ∀ q,q ∈ J0 ↔ q ∈ J ∧ q.l ≤ S.lvl:=fun q=>by rw [hJ0,List.mem_filter]; simp
 obtain ⟨B,hB⟩ : ∃ B,B = F1 ++ (F2 ++ J0):=⟨_,rfl⟩
 have hBA : ∀ q ∈ B,q ∈ A ∧ (S.lvl < q.l → q ∈ R):=fun q hq=>by
  rw [hB] at hq
  rcases List.mem_append.1 hq with hq | hq
  ·exact ⟨sub1 q hq,hf1 q hq⟩
  ·rcases List.mem_append.1 hq with hq | hq
   ·exact ⟨sub2 q hq,hf2 q hq⟩
   ·obtain ⟨e1,e2⟩:=(memJ q).1 hq
    exact ⟨subJ q e1,fun h=>by omega⟩
 have hBd : B.Nodup:=by
  rw [hB]
  rw [hA] at hd
  have hd1:=List.nodup_append.1 hd
  have hd2:=List.nodup_append.1 hd1.2.1
  rw [List.nodup_append,List.nodup_append]
  refine ⟨hd1.1,⟨hd2.1,by rw [hJ0]; exact hd2.2.1.filter _,fun a ha b hb=>hd2.2.2 a ha b ((memJ b).1 hb).1⟩,fun a ha b hb=>?_⟩
  refine hd1.2.2 a ha b ?_
  rcases List.mem_append.1 hb with hb | hb
  ·exact List.mem_append.2 (.inl hb)
  ·exact List.mem_append.2 (.inr ((memJ b).1 hb).1)
 have hx1 : AtAs (S.after u) outs args (F1.map (rL S.lvl ρ)):=by
  have:=h1.ren (l:=S.lvl) (ρ:=ρ) (S':=S.after u) fun q hq=>hturn q (sub1 q hq) (hf1 q hq)
  rw [hargs.2 ρ] at this
  exact this
 have hx2 : AtAs (S.after u) res (as1.map (renX S.lvl ρ)) (F2.map (rL S.lvl ρ)):=h2.ren (l:=S.lvl) (ρ:=ρ) (S':=S.after u) fun q hq=>hturn q (sub2 q hq) (hf2 q hq)
 have hx3 : av7 (S.after u) (J0.map (rL S.lvl ρ)):=av7.ren (S:=S') (fun q hq=>h3 q ((memJ q).1 hq).1) fun q hq=>hturn q (subJ q ((memJ q).1 hq).1) fun h=>by
  have:=((memJ q).1 hq).2
  omega
 refine ⟨as1.map (renX S.lvl ρ),u,F1.map (rL S.lvl ρ),F2.map (rL S.lvl ρ),J0.map (rL S.lvl ρ),?_,hx1,hx2,hx3,?_⟩
 ·rw [k1,b73 b1]
 ·have hmap : F1.map (rL S.lvl ρ) ++ (F2.map (rL S.lvl ρ) ++ J0.map (rL S.lvl ρ)) = B.map (rL S.lvl ρ):=by rw [hB,List.map_append,List.map_append]
  rw [hmap]
  refine ⟨k3.lvl,k3.fn,k3.dfr,bw7 hBd fun x hx y hy e=>?_,fun q hq=>?_,fun q hq=>?_,hlogu,hfr⟩
  ·obtain ⟨x1,x2⟩:=hBA x hx
   obtain ⟨y1,y2⟩:=hBA y hy
   have up : ∀ z w,z.l ≤ S.lvl → z ∈ A → S.lvl < w.l → w ∈ R → z ≠ ρ w:=fun z w hz hzA hw hwR e=>by
    obtain ⟨s,e1,_⟩:=w3 z ((hs z hzA).resolve_right (by omega))
    obtain ⟨_,_,_,e4,_⟩:=k3.new w hwR
    rw [← e,e1] at e4; cases e4
   unfold rL at e
   by_cases hl : x.l ≤ S.lvl
   ·rw [if_pos hl] at e
    by_cases hl' : y.l ≤ S.lvl
    ·rw [if_pos hl'] at e; exact e
    ·rw [if_neg hl'] at e
     exact absurd e (up x y hl x1 (by omega) (y2 (by omega)))
   ·rw [if_neg hl] at e
    by_cases hl' : y.l ≤ S.lvl
    ·rw [if_pos hl'] at e
     exact absurd e.symm (up y x hl' y1 (by omega) (x2 (by omega)))
    ·rw [if_neg hl'] at e
     exact k3.inj x (x2 (by omega)) y (y2 (by omega)) e
  ·refine List.mem_map.2 ⟨q,?_,by simp [rL,hW q hq]⟩
   have:=hc q hq
   rw [hA] at this
   rw [hB]
   rcases List.mem_append.1 this with h | h
   ·exact List.mem_append.2 (.inl h)
   ·rcases List.mem_append.1 h with h | h
    ·exact List.mem_append.2 (.inr (List.mem_append.2 (.inl h)))
    ·exact List.mem_append.2 (.inr (List.mem_append.2 (.inr ((memJ q).2 ⟨h,hW q hq⟩))))
  ·obtain ⟨p,hp,rfl⟩:=List.mem_map.1 hq
   obtain ⟨p1,p2⟩:=hBA p hp
   unfold rL
   by_cases hl : p.l ≤ S.lvl
   ·rw [if_pos hl]
    exact .inl ((hs p p1).resolve_right (by omega))
   ·rw [if_neg hl]
    obtain ⟨e1,e2,e3,e4,_⟩:=k3.new p (p2 (by omega))
    exact .inr ⟨e1,e2,e3,e4⟩
open Go.RowKit
theorem It.there {S : AS} {L : Nat} {it : It} (h : it.ok S L) : ∀ q ∈ it.foot,(∃ s,S.get q = some s) ∧ Pl L it.keys q:=by
 cases it with
 | own u ks o a F =>
  intro q hq
  obtain ⟨_,_,h3⟩:=AtO.reg (l:=0) (.inl (Nat.le_refl _)) h.1
  obtain ⟨s,h4,_⟩:=h3 q hq
  exact ⟨⟨s,h4⟩,h.2 q hq⟩
 | cel u ks p g t cs =>
  intro q hq
  rw [List.mem_singleton.1 hq]
  exact ⟨⟨_,h.1⟩,h.2.1⟩
 | jnk u ks J =>
  intro q hq
  obtain ⟨s,h4,_⟩:=h.1 q hq
  exact ⟨⟨s,h4⟩,h.2 q hq⟩
 | _=>intro q hq; cases hq
def okO (K : List Nat) : It → Bool
 | .obj k _ _ _=>!K.contains k
 | .tok ks _ _ _=>ks.all fun k=>!K.contains k
 | .bld _ _ _ _ _=>false
 | _=>true
theorem It.stay {S S' : AS} {L : Nat} {K : List Nat} {it : It} (h : it.ok S L) (ho : okO K it = true) (hF : ∀ q ∈ it.foot,S'.get q = S.get q) (hk : ∀ k,K.contains k = false → S'.get ⟨L,k,0⟩ = S.get ⟨L,k,0⟩) : it.ok S' L:=by
 cases it with
 | obj k g t cs =>
  simp only [okO,Bool.not_eq_true'] at ho
  show S'.get _ = _
  rw [hk k ho]; exact h
 | tok ks n e x =>
  simp only [okO,List.all_eq_true,Bool.not_eq_true'] at ho
  rcases h with h | h | ⟨p,g,es,h1,h2,h3,h4,h5⟩
  ·exact .inl h
  ·exact .inr (.inl h)
  ·refine .inr (.inr ⟨p,g,es,h1,?_,h3,h4,h5⟩)
   have e : p = ⟨L,p.k,0⟩:=by cases p; simp only at h3 h4; rw [h3,h4]
   rw [e,hk _ (ho _ h5),← e]
   exact h2
 | bld=>cases ho
 | own u ks o a F=>exact ⟨h.1.local hF,h.2⟩
 | cel u ks p g t cs=>exact ⟨by rw [hF p (List.mem_singleton.2 rfl)]; exact h.1,h.2⟩
 | jnk u ks J=>exact ⟨h.1.local hF,h.2⟩
def OA.given : OA → Bool
 | .r _=>true
 | .o _=>true
 | _=>false
theorem bO9 {os : List OA} (h : os.all OA.given = true) : os.all OA.keep = true:=by
 rw [List.all_eq_true] at h ⊢
 intro o ho
 have:=h o ho
 cases o <;> first | rfl | cases this
def InI : List OA → List AV → List Loc → List It → Prop
 | [],l,F,A=>l = [] ∧ F = [] ∧ A = []
 | .x :: _,_,_,_=>False
 | .ag _ :: _,_,_,_=>False
 | .r v :: r,l,F,A=>∃ a t,l = a :: t ∧ v.C a ∧ InI r t F A
 | .o v :: r,l,F,A=>∃ a t F1 F2 A',l = a :: t ∧ F = F1 ++ F2 ∧ A = .own true [] v a F1 :: A' ∧ InI r t F2 A'
theorem InI.of {S : AS} : ∀ {ins : List OA} {l : List AV} {F : List Loc},AtAs S ins l F → ins.all OA.given = true → ∃ A,InI ins l F A ∧ A.flatMap It.foot = F ∧ (∀ it ∈ A,it.up = true) ∧ ∀ S' L,(∀ q,S'.get q = S.get q) → (∀ q ∈ F,q.l < L) → ∀ it ∈ A,it.ok S' L
 | [],l,F,h,_=>by
  obtain ⟨rfl,rfl⟩:=h
  exact ⟨[],⟨rfl,rfl,rfl⟩,rfl,fun _ h=>(nomatch h),fun _ _ _ _ _ h=>(nomatch h)⟩
 | o :: r,l,F,h,hk=>by
  obtain ⟨a,t,F1,F2,rfl,rfl,h2,h3⟩:=h
  simp only [List.all_cons,Bool.and_eq_true] at hk
  obtain ⟨A,k1,k2,k3,k4⟩:=InI.of h3 hk.2
  cases o with
  | x=>cases hk.1
  | ag os=>cases hk.1
  | r v =>
   obtain ⟨h2,rfl⟩:=h2
   exact ⟨A,⟨a,t,rfl,h2,k1⟩,k2,k3,k4⟩
  | o v =>
   refine ⟨.own true [] v a F1 :: A,⟨a,t,F1,F2,A,rfl,rfl,rfl,k1⟩,by rw [List.flatMap_cons,k2]; rfl,fun it hi=>?_,fun S' L hg hl it hi=>?_⟩
   ·rcases List.mem_cons.1 hi with rfl | hi
    ·rfl
    ·exact k3 it hi
   ·rcases List.mem_cons.1 hi with rfl | hi
    ·exact ⟨AtO.local h2 fun q _=>hg q,fun q hq=>.inl (hl q (List.mem_append.2 (.inl hq)))⟩
    ·exact k4 S' L hg (fun q hq=>hl q (List.mem_append.2 (.inr hq))) it hi
def OutI : List OA → List AV → List It → Prop
 | [],l,A=>l = [] ∧ A = []
 | .r v :: r,a :: t,A=>v.C a ∧ OutI r t A
 | .o v :: r,a :: t,.own _ _ v' a' _ :: A=>v = v' ∧ a = a' ∧ OutI r t A
 | .x :: r,_ :: t,A=>OutI r t A
 | _,_,_=>False
theorem OutI.at {S : AS} {L : Nat} : ∀ {outs : List OA} {l : List AV} {A : List It},OutI outs l A → (∀ it ∈ A,it.ok S L) → AtAs S outs l (A.flatMap It.foot)
 | [],l,A,h,_=>by
  unfold OutI at h
  obtain ⟨rfl,rfl⟩:=h
  exact ⟨rfl,rfl⟩
 | .r v :: r,[],A,h,_=>by unfold OutI at h; exact h.elim
 | .r v :: r,a :: t,A,h,hA=>by
  unfold OutI at h
  exact ⟨a,t,[],_,rfl,rfl,⟨h.1,rfl⟩,h.2.at hA⟩
 | .x :: r,[],A,h,_=>by unfold OutI at h; exact h.elim
 | .x :: r,a :: t,A,h,hA=>by
  unfold OutI at h
  exact ⟨a,t,[],_,rfl,rfl,rfl,OutI.at h hA⟩
 | .ag os :: r,l,A,h,_=>by unfold OutI at h; exact h.elim
 | .o v :: r,[],A,h,_=>by unfold OutI at h; exact h.elim
 | .o v :: r,a :: t,[],h,_=>by unfold OutI at h; exact h.elim
 | .o v :: r,a :: t,it :: A,h,hA=>by
  cases it with
  | own u ks v' a' F =>
   unfold OutI at h
   obtain ⟨rfl,rfl,h2⟩:=h
   exact ⟨a,t,F,_,rfl,rfl,(hA _ (List.mem_cons_self ..)).1,h2.at fun it hi=>hA it (List.mem_cons_of_mem _ hi)⟩
  | _=>unfold OutI at h; exact h.elim
def cu7 (A : List It) (i : Nat) (p : Loc) (g : Nat) (cs : List AV) : Prop:=∃ u ks t,A[i]? = some (.cel u ks p g t cs)
def AgO : List OV → List AV → List It → Prop
 | [],cs,A=>cs = [] ∧ A = []
 | o :: r,cs,A=>∃ a t,cs = a :: t ∧ ((∃ v,o = .c v ∧ RelC v a ∧ AgO r t A) ∨ ∃ u ks F A',A = .own u ks o a F :: A' ∧ AgO r t A')
theorem AgO.at {S : AS} {L : Nat} : ∀ {os : List OV} {cs : List AV} {A : List It} {i : Nat},AgO os cs A → (∀ it ∈ A,it.ok S L) → os.all OV.sel = true → AtL S aO6 0 i os cs (A.flatMap It.foot)
 | [],cs,A,i,h,_,_=>by
  unfold AgO at h
  obtain ⟨rfl,rfl⟩:=h
  unfold AtL
  exact ⟨rfl,rfl⟩
 | o :: r,cs,A,i,h,hA,hs=>by
  simp only [List.all_cons,Bool.and_eq_true] at hs
  unfold AgO at h
  obtain ⟨a,t,rfl,⟨v,rfl,h1,h2⟩ | ⟨u,ks,F,A',rfl,h2⟩⟩:=h
  ·unfold AtL
   exact ⟨a,t,[],_,rfl,rfl,by unfold AtO; exact ⟨h1,rfl⟩,h2.at hA hs.2⟩
  ·unfold AtL
   have h0:=(hA _ (List.mem_cons_self ..)).1
   exact ⟨a,t,F,_,rfl,rfl,AtO.place h0 hs.1,h2.at (fun it hi=>hA it (List.mem_cons_of_mem _ hi)) hs.2⟩
inductive ResI (A : List It) (E : Env) : List BR → List OA → List AV → List It → Prop
 | nil : ResI A E [] [] [] []
 | tr {n : Nat} {a : AV} {v : RV} {b : List BR} {r : List OA} {t : List AV} {N : List It} (hx : look E n = some a) (hv : v.C a) (h : ResI A E b r t N) : ResI A E (.t n :: b) (.r v :: r) (a :: t) N
 | l7 {n : Nat} {a : AV} {v : OV} {u : Bool} {ks : List Nat} {F : List Loc} {b : List BR} {r : List OA} {t : List AV} {N : List It} (hx : look E n = some a) (h : ResI A E b r t N) : ResI A E (.t n :: b) (.o v :: r) (a :: t) (.own u ks v a F :: N)
 | ta {n : Nat} {cs : List AV} {os : List OV} {b : List BR} {r : List OA} {t : List AV} {N1 N : List It} (hx : look E n = some (.agg cs)) (hs : os.all OV.sel = true) (ho : AgO os cs N1) (h : ResI A E b r t N) : ResI A E (.t n :: b) (.ag os :: r) (.agg cs :: t) (N1 ++ N)
 | c1 {n i g : Nat} {p : Loc} {cs : List AV} {a : AV} {v : RV} {b : List BR} {r : List OA} {t : List AV} {N : List It} (hx : look E n = some (.ptr p g 0 0)) (hA : cu7 A i p g cs) (hc : cs[0]? = some a) (hv : v.C a) (h : ResI A E b r t N) : ResI A E (.c1 n :: b) (.r v :: r) (a :: t) N
 | cn {n m i g : Nat} {p : Loc} {cs : List AV} {M : List V} {b : List BR} {r : List OA} {t : List AV} {N : List It} (hx : look E n = some (.ptr p g 0 0)) (hA : cu7 A i p g cs) (hM : ab1 M cs) (hm : M.length = m) (h : ResI A E b r t N) : ResI A E (.cn n m :: b) (.r (.agg M) :: r) (.agg cs :: t) N
theorem ResI.at {A0 : List It} {E : Env} {T : BT} {S : AS} {L : Nat} (hT : Ag E T) (h0 : ∀ it ∈ A0,it.ok S L) {br : List BR} {res : List OA} {l : List AV} {A : List It} (h : ResI A0 E br res l A) : (∀ it ∈ A,it.ok S L) → az2 S T br = some l ∧ AtAs S res l (A.flatMap It.foot):=by
 induction h with
 | nil=>exact fun _=>⟨rfl,rfl,rfl⟩
 | @tr n a v b r t N hx hv h ih =>
  intro hA
  obtain ⟨k1,k2⟩:=ih hA
  refine ⟨?_,a,t,[],_,rfl,rfl,⟨hv,rfl⟩,k2⟩
  rw [an9,k1,bG2,hT n a hx]
  rfl
 | @l7 n a v u ks F b r t N hx h ih =>
  intro hA
  obtain ⟨k1,k2⟩:=ih fun it hi=>hA it (List.mem_cons_of_mem _ hi)
  refine ⟨?_,a,t,F,_,rfl,rfl,(hA _ (List.mem_cons_self ..)).1,k2⟩
  rw [an9,k1,bG2,hT n a hx]
  rfl
 | @ta n cs os b r t N1 N hx hs ho h ih =>
  intro hA
  obtain ⟨k1,k2⟩:=ih fun it hi=>hA it (List.mem_append.2 (.inr hi))
  refine ⟨?_,_,t,N1.flatMap It.foot,N.flatMap It.foot,rfl,by rw [List.flatMap_append],⟨cs,rfl,ho.at (fun it hi=>hA it (List.mem_append.2 (.inl hi))) hs⟩,k2⟩
  rw [an9,k1,bG2,hT n _ hx]
  rfl
 | @c1 n i g p cs a v b r t N hx hA0 hc hv h ih =>
  intro hA
  obtain ⟨k1,k2⟩:=ih hA
  obtain ⟨u,ks,ty,hA0⟩:=hA0
  refine ⟨?_,a,t,[],_,rfl,rfl,⟨hv,rfl⟩,k2⟩
  rw [an9,k1,ce0,hT n _ hx]
  rw [bj7 (h0 _ (List.mem_of_getElem? hA0)).1 hc]
  rfl
 | @cn n m i g p cs M b r t N hx hA0 hM hm h ih =>
  intro hA
  obtain ⟨k1,k2⟩:=ih hA
  obtain ⟨u,ks,ty,hA0⟩:=hA0
  refine ⟨?_,_,t,[],_,rfl,rfl,⟨⟨cs,rfl,hM⟩,rfl⟩,k2⟩
  have hl : cs.length = m:=by rw [ab1.length hM,hm]
  rw [an9,k1,cg2,hT n _ hx]
  rw [ba9 (h0 _ (List.mem_of_getElem? hA0)).1,if_pos (by simp [hl]),List.drop_zero,List.take_of_length_le (by omega)]
  rfl
def RetO (f : Fr) (L : Nat) (pan : Bool) (args : List AV) (br : List BR) (outs res : List OA) : ag1:=fun x T S =>
 (match pan with
  | true=>∃ v,x = .pan v ∧ AtAs S res [v] []
  | false=>x = .ret ∨ x = .normal) ∧ S.dfr = [] ∧ FrOk f S L ∧ ∃ as1 F1 F2 J,(pan = false → az2 S T br = some as1) ∧ (pan = true → ∃ v,x = .pan v ∧ as1 = [v]) ∧ AtAs S outs args F1 ∧ AtAs S res as1 F2 ∧ av7 S J ∧ (F1 ++ (F2 ++ J)).Nodup ∧ (∀ q ∈ f.W,q ∈ F1 ++ (F2 ++ J)) ∧ ∀ q ∈ F1 ++ (F2 ++ J),q ∈ f.W ∨ L < q.l
def isJnk : It → Bool
 | .jnk _ _ _=>true
 | _=>false
theorem jnk_at {S : AS} {L : Nat} : ∀ {A : List It},A.all isJnk = true → (∀ it ∈ A,it.ok S L) → av7 S (A.flatMap It.foot)
 | [],_,_=>fun q hq=>(nomatch hq)
 | it :: r,h,hA=>by
  simp only [List.all_cons,Bool.and_eq_true] at h
  intro q hq
  rw [List.flatMap_cons] at hq
  rcases List.mem_append.1 hq with hq | hq
  ·cases it with
   | jnk u ks J=>exact (hA _ (List.mem_cons_self ..)).1 q hq
   | _=>cases h.1
  ·exact jnk_at h.2 (fun it hi=>hA it (List.mem_cons_of_mem _ hi)) q hq
theorem ao3 {A : List It} {q : Loc} (h : q ∈ A.flatMap It.foot) : ∃ it ∈ A,q ∈ it.foot:=List.mem_flatMap.1 h
theorem AtAs.length {S : AS} : ∀ {os : List OA} {l : List AV} {F : List Loc},AtAs S os l F → l.length = os.length
 | [],_,_,h=>by rw [h.1]; rfl
 | _ :: r,_,_,h=>by
  obtain ⟨a,t,_,_,rfl,_,_,h⟩:=h
  simp [h.length]
def InC : List OA → List AV → List It → Prop
 | [],l,A=>l = [] ∧ A = []
 | .r v :: r,a :: t,A=>v.C a.ac1 ∧ InC r t A
 | .o v :: r,a :: t,.own _ _ v' a' _ :: A=>v = v' ∧ a = a' ∧ InC r t A
 | _,_,_=>False
def AgI (u : Bool) (K : List Nat) : List OV → List AV → List It → Prop
 | [],cs,A=>cs = [] ∧ A = []
 | .c v :: r,cs,A=>∃ a t,cs = a :: t ∧ RelC v a ∧ AgI u K r t A
 | o :: r,cs,A=>∃ a t F A',cs = a :: t ∧ A = .own u K o a F :: A' ∧ AgI u K r t A'
def OutC (u : Bool) (K : List Nat) : List OA → List AV → List It → Prop
 | [],_,A=>A = []
 | .r _ :: r,_ :: t,A=>OutC u K r t A
 | .x :: r,_ :: t,A=>OutC u K r t A
 | .o v :: r,a :: t,A=>∃ F A',A = .own u K v a F :: A' ∧ OutC u K r t A'
 | _,_,_=>False
def OA.flat : OA → Bool
 | .x=>false
 | .ag os=>os.all OV.sel
 | _=>true
def RsC (u : Bool) (K : List Nat) : List OA → List AV → List It → Prop
 | [],l,A=>l = [] ∧ A = []
 | .r v :: r,l,A=>∃ a t,l = a :: t ∧ v.C a ∧ RsC u K r t A
 | .o v :: r,l,A=>∃ a t F A',l = a :: t ∧ A = .own u K v a F :: A' ∧ RsC u K r t A'
 | .ag os :: r,l,A=>∃ cs t A1 A',l = .agg cs :: t ∧ A = A1 ++ A' ∧ AgI u K os cs A1 ∧ RsC u K r t A'
 | .x :: _,_,_=>False
def RsV (u : Bool) (K : List Nat) : List OA → AV → List It → Prop
 | [.r w],v,A=>w.C v ∧ A = []
 | [.o w],v,A=>∃ F,A = [.own u K w v F]
 | [.ag os],v,A=>∃ cs,v = .agg cs ∧ AgI u K os cs A
 | [.x],_,_=>False
 | res,v,A=>∃ l,v = .tup l ∧ RsC u K res l A
def keysOf (A : List It) : List Nat:=A.flatMap It.keys
def upOf (A : List It) : Bool:=A.any It.up
def nrmO : OA → Bool
 | .o (.ptr _ _)=>true
 | .o (.mp _ _)=>true
 | .o _=>false
 | .r _=>true
 | _=>false
theorem AtO.nrm {S : AS} {p : Loc} {g i : Nat} {o : OV} {a : AV} {F : List Loc} (h : AtO S p g i o a F) (hn : nrmO (.o o) = true) : a.ac1 = a:=by
 cases o with
 | ptr t os =>
  unfold AtO at h
  obtain ⟨_,_,_,_,rfl,_⟩:=h
  rfl
 | mp ks vs =>
  unfold AtO at h
  obtain ⟨_,_,_,_,_,rfl,_⟩:=h
  rfl
 | _=>cases hn
def fitO : List OA → List OA → Bool
 | _,[]=>true
 | .o _ :: r,.o _ :: r'=>fitO r r'
 | _ :: r,.x :: r'=>fitO r r'
 | _,_=>false
theorem InC.at {S : AS} {L : Nat} : ∀ {ins : List OA} {l : List AV} {A : List It},InC ins l A → (∀ it ∈ A,it.ok S L) → ins.all nrmO = true → AtAs S ins (l.map AV.ac1) (A.flatMap It.foot)
 | [],l,A,h,_,_=>by
  unfold InC at h
  obtain ⟨rfl,rfl⟩:=h
  exact ⟨rfl,rfl⟩
 | .x :: r,l,A,h,_,_=>by cases l <;> (unfold InC at h; exact h.elim)
 | .ag os :: r,l,A,h,_,_=>by cases l <;> (unfold InC at h; exact h.elim)
 | .r v :: r,[],A,h,_,_=>by unfold InC at h; exact h.elim
 | .r v :: r,a :: t,A,h,hA,hn=>by
  unfold InC at h
  simp only [List.all_cons,Bool.and_eq_true] at hn
  exact ⟨_,_,[],_,rfl,rfl,⟨h.1,rfl⟩,h.2.at hA hn.2⟩
 | .o v :: r,[],A,h,_,_=>by unfold InC at h; exact h.elim
 | .o v :: r,a :: t,[],h,_,_=>by unfold InC at h; exact h.elim
 | .o v :: r,a :: t,it :: A,h,hA,hn=>by
  simp only [List.all_cons,Bool.and_eq_true] at hn
  cases it with
  | own u ks v' a' F =>
   unfold InC at h
   obtain ⟨rfl,rfl,h2⟩:=h
   have h3:=(hA _ (List.mem_cons_self ..)).1
   exact ⟨_,_,F,_,rfl,rfl,by show AtO _ _ _ _ _ _ _; rw [AtO.nrm h3 hn.1]; exact h3,h2.at (fun it hi=>hA it (List.mem_cons_of_mem _ hi)) hn.2⟩
  | _=>unfold InC at h; exact h.elim
theorem AtAs.unnrm {S S' : AS} {L : Nat} : ∀ {ins outs : List OA} {l : List AV} {A : List It} {F : List Loc},InC ins l A → (∀ it ∈ A,it.ok S L) → ins.all nrmO = true → fitO ins outs = true → AtAs S' outs (l.map AV.ac1) F → AtAs S' outs l F
 | ins,[],l,A,F,_,_,_,_,h=>by
  obtain ⟨h1,rfl⟩:=h
  exact ⟨List.map_eq_nil_iff.1 h1,rfl⟩
 | [],o :: r',l,A,F,_,_,_,hf,_=>by cases o <;> cases hf
 | i :: r,o :: r',[],A,F,_,_,_,_,h=>by
  obtain ⟨a,t,F1,F2,h1,_⟩:=h
  cases h1
 | i :: r,.x :: r',a :: t,A,F,hi,hA,hn,hf,h=>by
  obtain ⟨a',t',F1,F2,h1,rfl,h2,h3⟩:=h
  cases h1
  have hf' : fitO r r' = true:=by cases i <;> exact hf
  simp only [List.all_cons,Bool.and_eq_true] at hn
  cases i with
  | x=>cases hn.1
  | ag os=>cases hn.1
  | r v =>
   unfold InC at hi
   exact ⟨a,t,F1,F2,rfl,rfl,h2,AtAs.unnrm hi.2 hA hn.2 hf' h3⟩
  | o v =>
   cases A with
   | nil=>unfold InC at hi; exact hi.elim
   | cons it A =>
    cases it with
    | own u ks v' a' F' =>
     unfold InC at hi
     exact ⟨a,t,F1,F2,rfl,rfl,h2,AtAs.unnrm hi.2.2 (fun it hi=>hA it (List.mem_cons_of_mem _ hi)) hn.2 hf' h3⟩
    | _=>unfold InC at hi; exact hi.elim
 | .o v :: r,.o v2 :: r',a :: t,A,F,hi,hA,hn,hf,h=>by
  obtain ⟨a',t',F1,F2,h1,rfl,h2,h3⟩:=h
  cases h1
  have hf' : fitO r r' = true:=hf
  simp only [List.all_cons,Bool.and_eq_true] at hn
  cases A with
  | nil=>unfold InC at hi; exact hi.elim
  | cons it A =>
   cases it with
   | own u ks v' a' F' =>
    unfold InC at hi
    obtain ⟨rfl,rfl,hi⟩:=hi
    have e:=AtO.nrm (hA _ (List.mem_cons_self ..)).1 hn.1
    rw [e] at h2
    exact ⟨a,t,F1,F2,rfl,rfl,h2,AtAs.unnrm hi (fun it hi=>hA it (List.mem_cons_of_mem _ hi)) hn.2 hf' h3⟩
   | _=>unfold InC at hi; exact hi.elim
 | .r _ :: _,.o _ :: _,_,_,_,_,_,_,hf,_=>by cases hf
 | .x :: _,.o _ :: _,_,_,_,_,_,_,hf,_=>by cases hf
 | .ag _ :: _,.o _ :: _,_,_,_,_,_,_,hf,_=>by cases hf
 | i :: _,.r _ :: _,_,_,_,_,_,_,hf,_=>by cases i <;> cases hf
 | i :: _,.ag _ :: _,_,_,_,_,_,_,hf,_=>by cases i <;> cases hf
theorem cH3 : ∀ {ins outs : List OA},fitO ins outs = true → outs.all (fun o=>match o with | .ag _=>false | _=>true) = true
 | _,[],_=>rfl
 | i :: r,.x :: r',h=>by
  have h : fitO r r' = true:=by cases i <;> exact h
  simp only [List.all_cons,cH3 h,Bool.and_self]
 | .o _ :: r,.o _ :: r',h=>by
  have h : fitO r r' = true:=h
  simp only [List.all_cons,cH3 h,Bool.and_self]
 | [],o :: _,h=>by cases o <;> cases h
 | .r _ :: _,.o _ :: _,h=>by cases h
 | .x :: _,.o _ :: _,h=>by cases h
 | .ag _ :: _,.o _ :: _,h=>by cases h
 | i :: _,.r _ :: _,h=>by cases i <;> cases h
 | i :: _,.ag _ :: _,h=>by cases i <;> cases h
theorem OutC.of {S : AS} {u : Bool} {K : List Nat} : ∀ {outs : List OA} {l : List AV} {F : List Loc},AtAs S outs l F → outs.all (fun o=>match o with | .ag _=>false | _=>true) = true → ∃ A,OutC u K outs l A ∧ A.flatMap It.foot = F ∧ (∀ it ∈ A,it.up = u ∧ it.keys = K ∧ it.new = true) ∧ ∀ L,(∀ q ∈ F,Pl L K q) → ∀ it ∈ A,it.ok S L
 | [],l,F,h,_=>by
  obtain ⟨rfl,rfl⟩:=h
  exact ⟨[],rfl,rfl,fun _ h=>(nomatch h),fun _ _ _ h=>(nomatch h)⟩
 | o :: r,l,F,h,hk=>by
  obtain ⟨a,t,F1,F2,rfl,rfl,h2,h3⟩:=h
  simp only [List.all_cons,Bool.and_eq_true] at hk
  obtain ⟨A,k1,k2,k3,k4⟩:=OutC.of h3 hk.2
  cases o with
  | ag os=>cases hk.1
  | x =>
   have h2 : F1 = []:=h2
   subst h2
   exact ⟨A,k1,k2,k3,k4⟩
  | r v =>
   obtain ⟨h2,rfl⟩:=h2
   exact ⟨A,k1,k2,k3,k4⟩
  | o v =>
   refine ⟨.own u K v a F1 :: A,⟨F1,A,rfl,k1⟩,by rw [List.flatMap_cons,k2]; rfl,fun it hi=>?_,fun L hl it hi=>?_⟩
   ·rcases List.mem_cons.1 hi with rfl | hi
    ·exact ⟨rfl,rfl,rfl⟩
    ·exact k3 it hi
   ·rcases List.mem_cons.1 hi with rfl | hi
    ·exact ⟨h2,fun q hq=>hl q (List.mem_append.2 (.inl hq))⟩
    ·exact k4 L (fun q hq=>hl q (List.mem_append.2 (.inr hq))) it hi
theorem AgI.of {S : AS} {u : Bool} {K : List Nat} : ∀ {os : List OV} {cs : List AV} {F : List Loc} {i : Nat},AtL S aO6 0 i os cs F → os.all OV.sel = true → ∃ A,AgI u K os cs A ∧ A.flatMap It.foot = F ∧ (∀ it ∈ A,it.up = u ∧ it.keys = K ∧ it.new = true) ∧ ∀ L,(∀ q ∈ F,Pl L K q) → ∀ it ∈ A,it.ok S L
 | [],cs,F,i,h,_=>by
  unfold AtL at h
  obtain ⟨rfl,rfl⟩:=h
  exact ⟨[],⟨rfl,rfl⟩,rfl,fun _ h=>(nomatch h),fun _ _ _ h=>(nomatch h)⟩
 | o :: r,cs,F,i,h,hs=>by
  unfold AtL at h
  obtain ⟨a,t,F1,F2,rfl,rfl,h2,h3⟩:=h
  simp only [List.all_cons,Bool.and_eq_true] at hs
  obtain ⟨A,k1,k2,k3,k4⟩:=AgI.of h3 hs.2
  have gen : ∀ {o : OV},AtO S aO6 0 i o a F1 → o.sel = true → (∀ cs A,(∃ a t F A',cs = a :: t ∧ A = .own u K o a F :: A' ∧ AgI u K r t A') → AgI u K (o :: r) cs A) →
    ∃ A,AgI u K (o :: r) (a :: t) A ∧ A.flatMap It.foot = F1 ++ F2 ∧ (∀ it ∈ A,it.up = u ∧ it.keys = K ∧ it.new = true) ∧ ∀ L,(∀ q ∈ F1 ++ F2,Pl L K q) → ∀ it ∈ A,it.ok S L:=by
   intro o h2 hs hh
   refine ⟨.own u K o a F1 :: A,hh _ _ ⟨a,t,F1,A,rfl,rfl,k1⟩,by rw [List.flatMap_cons,k2]; rfl,fun it hi=>?_,fun L hl it hi=>?_⟩
   ·rcases List.mem_cons.1 hi with rfl | hi
    ·exact ⟨rfl,rfl,rfl⟩
    ·exact k3 it hi
   ·rcases List.mem_cons.1 hi with rfl | hi
    ·exact ⟨AtO.place h2 hs,fun q hq=>hl q (List.mem_append.2 (.inl hq))⟩
    ·exact k4 L (fun q hq=>hl q (List.mem_append.2 (.inr hq))) it hi
  cases o with
  | c v =>
   unfold AtO at h2
   obtain ⟨h2,rfl⟩:=h2
   exact ⟨A,⟨a,t,rfl,h2,k1⟩,k2,k3,k4⟩
  | self=>cases hs.1
  | _=>exact gen h2 rfl fun _ _ h=>h
theorem RsC.of {S : AS} {u : Bool} {K : List Nat} : ∀ {outs : List OA} {l : List AV} {F : List Loc},AtAs S outs l F → outs.all OA.flat = true → ∃ A,RsC u K outs l A ∧ A.flatMap It.foot = F ∧ (∀ it ∈ A,it.up = u ∧ it.keys = K ∧ it.new = true) ∧ ∀ L,(∀ q ∈ F,Pl L K q) → ∀ it ∈ A,it.ok S L
 | [],l,F,h,_=>by
  obtain ⟨rfl,rfl⟩:=h
  exact ⟨[],⟨rfl,rfl⟩,rfl,fun _ h=>(nomatch h),fun _ _ _ h=>(nomatch h)⟩
 | o :: r,l,F,h,hk=>by
  obtain ⟨a,t,F1,F2,rfl,rfl,h2,h3⟩:=h
  simp only [List.all_cons,Bool.and_eq_true] at hk
  obtain ⟨A,k1,k2,k3,k4⟩:=RsC.of h3 hk.2
  cases o with
  | x=>cases hk.1
  | ag os =>
   obtain ⟨cs,rfl,h2⟩:=h2
   obtain ⟨A1,e1,e2,e3,e4⟩:=AgI.of (u:=u) (K:=K) h2 hk.1
   refine ⟨A1 ++ A,⟨cs,t,A1,A,rfl,rfl,e1,k1⟩,by rw [List.flatMap_append,e2,k2],fun it hi=>?_,fun L hl it hi=>?_⟩
   ·rcases List.mem_append.1 hi with hi | hi
    ·exact e3 it hi
    ·exact k3 it hi
   ·rcases List.mem_append.1 hi with hi | hi
    ·exact e4 L (fun q hq=>hl q (List.mem_append.2 (.inl hq))) it hi
    ·exact k4 L (fun q hq=>hl q (List.mem_append.2 (.inr hq))) it hi
  | r v =>
   obtain ⟨h2,rfl⟩:=h2
   exact ⟨A,⟨a,t,rfl,h2,k1⟩,k2,k3,k4⟩
  | o v =>
   refine ⟨.own u K v a F1 :: A,⟨a,t,F1,A,rfl,rfl,k1⟩,by rw [List.flatMap_cons,k2]; rfl,fun it hi=>?_,fun L hl it hi=>?_⟩
   ·rcases List.mem_cons.1 hi with rfl | hi
    ·exact ⟨rfl,rfl,rfl⟩
    ·exact k3 it hi
   ·rcases List.mem_cons.1 hi with rfl | hi
    ·exact ⟨h2,fun q hq=>hl q (List.mem_append.2 (.inl hq))⟩
    ·exact k4 L (fun q hq=>hl q (List.mem_append.2 (.inr hq))) it hi
theorem RsV.of {S : AS} {u : Bool} {K : List Nat} {res : List OA} {v : AV} {F : List Loc} (h : ResO S res v F) (hk : res.all OA.flat = true) : ∃ A,RsV u K res v A ∧ A.flatMap It.foot = F ∧ (∀ it ∈ A,it.up = u ∧ it.keys = K ∧ it.new = true) ∧ ∀ L,(∀ q ∈ F,Pl L K q) → ∀ it ∈ A,it.ok S L:=by
 match res,h,hk with
 | [],h,hk =>
  obtain ⟨l,rfl,hh⟩:=h
  obtain ⟨A,k1,k2⟩:=RsC.of (u:=u) (K:=K) hh hk
  exact ⟨A,⟨l,rfl,k1⟩,k2⟩
 | [.x],h,hk=>simp [OA.flat] at hk
 | [.ag os],h,hk =>
  obtain ⟨cs,rfl,h2⟩:=h
  simp only [List.all_cons,List.all_nil,Bool.and_true] at hk
  obtain ⟨A,k1,k2⟩:=AgI.of (u:=u) (K:=K) h2 hk
  exact ⟨A,⟨cs,rfl,k1⟩,k2⟩
 | [.r w],h,hk =>
  obtain ⟨h1,rfl⟩:=h
  exact ⟨[],⟨h1,rfl⟩,rfl,fun _ h=>(nomatch h),fun _ _ _ h=>(nomatch h)⟩
 | [.o w],h,hk =>
  refine ⟨[.own u K w v F],⟨F,rfl⟩,by simp [It.foot],fun it hi=>?_,fun L hl it hi=>?_⟩
  ·rw [List.mem_singleton.1 hi]; exact ⟨rfl,rfl,rfl⟩
  ·rw [List.mem_singleton.1 hi]; exact ⟨h,hl⟩
 | o :: o' :: r,h,hk =>
  obtain ⟨l,rfl,hh⟩:=h
  obtain ⟨A,k1,k2⟩:=RsC.of (u:=u) (K:=K) hh hk
  exact ⟨A,by cases o <;> exact ⟨l,rfl,k1⟩,k2⟩
theorem bP9 {L : Nat} {f : Fr} {S : AS} {u : Upd} {A1 B N : List It} {F G : List Loc} (hS : StA S L f (A1 ++ B)) (hF : A1.flatMap It.foot = F) (hL : Left S u F G) (hB : (B.all (okO (keysOf A1))) = true) (hN : N.flatMap It.foot = G) (hu : ∀ it ∈ N,it.up = upOf A1 ∧ it.keys = keysOf A1) (hok : (∀ q ∈ G,Pl (L + 1) (keysOf A1) q) → ∀ it ∈ N,it.ok (S.after u) (L + 1)) (hro : f.ro = false ∨ upOf A1 = false) :
  StA (S.after u) L f (N ++ B):=by
 have memA : ∀ it,it ∈ A1 ∨ it ∈ B ↔ it ∈ A1 ++ B:=fun it=>by rw [List.mem_append]
 have hsep:=hS.reg.sep
 rw [List.flatMap_append,hF] at hsep
 have hs1:=List.nodup_append.1 hsep
 have hpl : ∀ q ∈ F,Pl (L + 1) (keysOf A1) q:=fun q hq=>by
  rw [← hF] at hq
  obtain ⟨it,h1,h2⟩:=ao3 hq
  obtain ⟨_,h3⟩:=It.there (hS.its it ((memA it).1 (.inl h1))) q h2
  rcases h3 with h | h | h
  ·exact .inl h
  ·exact .inr (.inl h)
  ·exact .inr (.inr ⟨h.1,h.2.1,List.mem_flatMap.2 ⟨it,h1,h.2.2⟩⟩)
 have hnew : ∀ q,New S q → q.l = L + 1 ∧ q.k = 0 ∧ q.i ≠ 0:=fun q h=>⟨by rw [h.1,hS.lvl],h.2.1,h.2.2.1⟩
 have hplG : ∀ q ∈ G,Pl (L + 1) (keysOf A1) q:=fun q hq=>by
  rcases hL.src q hq with h | h
  ·exact hpl q h
  ·exact .inr (.inl (hnew q h))
 have hupF : ∀ q ∈ F,q.l ≤ L → upOf A1 = true ∧ q ∈ f.W:=fun q hq hl=>by
  rw [← hF] at hq
  obtain ⟨it,h1,h2⟩:=ao3 hq
  obtain ⟨h3,h4⟩:=hS.reg.upr it ((memA it).1 (.inl h1)) q h2 hl
  exact ⟨List.any_eq_true.2 ⟨it,h1,h3⟩,h4⟩
 have hBF : ∀ q ∈ B.flatMap It.foot,q ∉ F ∧ ¬ New S q:=fun q hq=>by
  refine ⟨fun h=>hs1.2.2 q h q hq rfl,fun h=>?_⟩
  obtain ⟨it,h1,h2⟩:=ao3 hq
  obtain ⟨⟨s,h3⟩,_⟩:=It.there (hS.its it ((memA it).1 (.inr h1))) q h2
  rw [h.2.2.2] at h3; cases h3
 refine ⟨by rw [hL.lvl,hS.lvl],by rw [hL.fn,hS.fn],by rw [hL.dfr,hS.dfr],hS.out.after (fun r hr=>?_) hL.frame,fun it hi=>?_,?_⟩
 ·rcases hL.log r hr with h | h
  ·rcases Nat.lt_or_ge L r.l with hl | hl
   ·exact .inl hl
   ·exact .inr ⟨(hupF r h hl).2,hro.elim id fun e=>by rw [(hupF r h hl).1] at e; cases e⟩
  ·exact .inl (by rw [(hnew r h).1]; exact Nat.lt_succ_self L)
 ·rcases List.mem_append.1 hi with hi | hi
  ·exact hok hplG it hi
  ·refine It.stay (hS.its it ((memA it).1 (.inr hi))) (List.all_eq_true.1 hB it hi) (fun q hq=>hL.frame q fun hu=>?_) (fun k hk=>hL.frame _ fun hu=>?_)
   ·obtain ⟨h1,h2⟩:=hBF q (List.mem_flatMap.2 ⟨it,hi,hq⟩)
    rcases hL.log q hu with h | h
    ·exact h1 h
    ·exact h2 h
   ·rcases hL.log _ hu with h | h
    ·rcases hpl _ h with h | h | h
     ·simp at h
     ·exact h.2.2 rfl
     ·rw [List.contains_iff_mem.2 h.2.2] at hk; cases hk
    ·exact (hnew _ h).2.2 rfl
 ·refine ⟨?_,fun it hi q hq hl=>?_,fun q hq=>?_,hS.reg.upl⟩
  ·rw [List.flatMap_append,hN,List.nodup_append]
   refine ⟨hL.dup,hs1.2.1,fun a ha b hb e=>?_⟩
   subst e
   obtain ⟨h1,h2⟩:=hBF a hb
   rcases hL.src a ha with h | h
   ·exact h1 h
   ·exact h2 h
  ·rcases List.mem_append.1 hi with hi | hi
   ·have hqG : q ∈ G:=by rw [← hN]; exact List.mem_flatMap.2 ⟨it,hi,hq⟩
    rcases hL.src q hqG with h | h
    ·obtain ⟨h1,h2⟩:=hupF q h hl
     exact ⟨by rw [(hu it hi).1]; exact h1,h2⟩
    ·have:=(hnew q h).1
     omega
   ·exact hS.reg.upr it ((memA it).1 (.inr hi)) q hq hl
  ·obtain ⟨it,h1,h2,h3⟩:=hS.reg.cov q hq
   rcases (memA it).2 h1 with h | h
   ·have hqF : q ∈ F:=by rw [← hF]; exact List.mem_flatMap.2 ⟨it,h,h3⟩
    have hqG:=hL.cov q hqF
    rw [← hN] at hqG
    obtain ⟨jt,k1,k2⟩:=ao3 hqG
    refine ⟨jt,List.mem_append.2 (.inl k1),?_,k2⟩
    rw [(hu jt k1).1]
    exact List.any_eq_true.2 ⟨it,h,h2⟩
   ·exact ⟨it,List.mem_append.2 (.inr h),h2,h3⟩
def Mv (f : Fr) (L : Nat) (A : List It) (Q : List It → Prop) : Prop:=∀ S,StA S L f A → ∃ A',Q A' ∧ StA S L f A'
section
variable [Cfg] {P : Program}
theorem ck0 {f : FuncId} {b : BFn} {pan : Bool} {ins outs res : List OA} (hg : Cfg.given f = none) (hf : ak2 P f = some b) (hn : Nat.ble ins.length b.nt = true) (hki : ins.all OA.given = true) (hkr : res.all OA.keep = true)
  (h : ∀ L S0 F args A,InI ins args F A → GC P b.code L ⟨f,F,S0,true,false⟩ (numE 0 args) A (RetO ⟨f,F,S0,true,false⟩ L pan args b.res outs res)) : cD2 P f ins pan outs res:=by
 intro S args F hup hat hnd hlv
 obtain ⟨A,k1,k2,k3,k4⟩:=InI.of hat hki
 obtain ⟨x,T',S',e1,e2,e3,e4,as1,F1,F2,J,e5,e6,e7,e8,e9,e10,e11,e12⟩:=h S.lvl S F (args.map AV.ac1) A k1 (aC5 (args.map AV.ac1)) (S.enter f) (Ag.args _)
  ⟨rfl,rfl,rfl,FrOk.enter f (.inr rfl),k4 _ _ (fun _=>rfl) (fun q hq=>by have:=hlv q hq; omega),by
   refine ⟨by rw [k2]; exact hnd,fun it hi q hq _=>⟨k3 it hi,?_⟩,fun q hq=>?_,hlv⟩
   ·rw [← k2]; exact List.mem_flatMap.2 ⟨it,hi,hq⟩
   ·have hq : q ∈ F:=hq
    rw [← k2] at hq
    obtain ⟨it,h1,h2⟩:=ao3 hq
    exact ⟨it,h1,k3 it h1,h2⟩⟩
 have hun : ∀ r,r.l ≤ S.lvl → r ∉ S'.log → S'.get r = S.get r:=by
  rcases e4.un with h | h
  ·cases h
  ·exact h
 obtain ⟨v,u,G1,G2,J',q1,q2,q3,q4,q5⟩:=bV9 (f:=f) (S:=S) (S':=S') hup (bO9 hki) hkr hat hlv (fun r h1 h2=>(e4.log r h1 h2).1) hun e7 e8 e9 e10 e11 e12
 refine ⟨ao0 v,u,G1,G2,J',a97 hg hf (by rw [← List.length_map (f:=AV.ac1),hat.length]; exact ag3 hn) ?_,q2,cj9 q3,q4,q5⟩
 rw [cH6 hup,e1]
 cases pan with
 | false =>
  rcases e2 with rfl | rfl
  ·rw [bo6 e3,e5 rfl]
   unfold bret
   simp only [q1,Option.map_some]
   rfl
  ·rw [bj8 e3,e5 rfl]
   unfold bret
   simp only [q1,Option.map_some]
   rfl
 | true =>
  obtain ⟨w,rfl,rfl⟩:=e6 rfl
  rw [cq8 e3]
  have : ao0 [w] = w:=rfl
  rw [this] at q1
  simp only [q1,Option.map_some]
  rfl
variable {L : Nat} {f : Fr} {E : Env} {A : List It} {Φ : ag1} {m : Option (List (Nat × Nat))} {acc : AAcc} {r : List BI} {d : Nat} {bf : BF}
theorem go_mv {l : List BI} {Q : List It → Prop} (h : Mv f L A Q) (k : ∀ A',Q A' → GO1 P m acc l L f E A' Φ) : GO1 P m acc l L f E A Φ:=fun c T S hc hT hS=>by
 obtain ⟨A',h1,h2⟩:=h S hS
 exact k A' h1 c T S hc hT h2
theorem g_clO {g0 : FuncId} {xs : List X} {args : List AV} {ins outs res : List OA} {A1 B : List It} (hup : Cfg.up g0 f.fn = true) (hx : optL E xs = some args) (hin : InC ins args A1) (hA : A = A1 ++ B) (hB : (B.all (okO (keysOf A1))) = true) (hni : ins.all nrmO = true) (hko : fitO ins outs = true) (hkr : res.all OA.flat = true) (hc : cD2 P g0 ins false outs res)
  (h : ∀ v A1' A2 J,OutC (upOf A1) (keysOf A1) outs args A1' → RsV (upOf A1) (keysOf A1) res v A2 → GO1 P m (accP acc (none,some (0 :: keysOf A1))) r L f ((d,v) :: E) (A1' ++ (A2 ++ (.jnk (upOf A1) (keysOf A1) J :: B))) Φ) (hro : f.ro = false ∨ upOf A1 = false:=by first | exact .inl rfl | exact .inr rfl) :
  GO1 P m acc (⟨some d,none,bf,.cl g0 xs⟩ :: r) L f E A Φ:=by
 subst hA
 intro c T S hcc hT hS
 have hat:=hin.at (S:=S) (L:=L + 1) (fun it hi=>hS.its it (List.mem_append.2 (.inl hi))) hni
 have hsep:=hS.reg.sep
 rw [List.flatMap_append] at hsep
 obtain ⟨v,u,F1,F2,J,k1,k2,k3,k4,k5⟩:=hc S args _ (by rw [hS.fn]; exact hup) hat (List.nodup_append.1 hsep).1 (fun q hq=>by
  obtain ⟨it,h1,h2⟩:=ao3 hq
  obtain ⟨_,h3⟩:=It.there (hS.its it (List.mem_append.2 (.inl h1))) q h2
  rw [hS.lvl]
  rcases h3 with h | h | h
  ·omega
  ·omega
  ·omega)
 obtain ⟨A1',a1,a2,a3,a4⟩:=OutC.of (u:=upOf A1) (K:=keysOf A1) (AtAs.unnrm hin (fun it hi=>hS.its it (List.mem_append.2 (.inl hi))) hni hko k2) (cH3 hko)
 obtain ⟨A2,b1,b2,b3,b4⟩:=RsV.of (u:=upOf A1) (K:=keysOf A1) k3 hkr
 have hS' : StA (S.after u) L f ((A1' ++ (A2 ++ [.jnk (upOf A1) (keysOf A1) J])) ++ B):=by
  refine bP9 hS rfl k5 hB (by rw [List.flatMap_append,List.flatMap_append,a2,b2]; simp [It.foot]) (fun it hi=>?_) (fun hpl it hi=>?_) hro
  ·rcases List.mem_append.1 hi with hi | hi
   ·exact ⟨(a3 it hi).1,(a3 it hi).2.1⟩
   ·rcases List.mem_append.1 hi with hi | hi
    ·exact ⟨(b3 it hi).1,(b3 it hi).2.1⟩
    ·rw [List.mem_singleton.1 hi]; exact ⟨rfl,rfl⟩
  ·rcases List.mem_append.1 hi with hi | hi
   ·exact a4 (L + 1) (fun q hq=>hpl q (List.mem_append.2 (.inl hq))) it hi
   ·rcases List.mem_append.1 hi with hi | hi
    ·exact b4 (L + 1) (fun q hq=>hpl q (List.mem_append.2 (.inr (List.mem_append.2 (.inl hq))))) it hi
    ·rw [List.mem_singleton.1 hi]
     exact ⟨k4,fun q hq=>hpl q (List.mem_append.2 (.inr (List.mem_append.2 (.inr hq))))⟩
 rw [List.append_assoc,List.append_assoc,List.singleton_append] at hS'
 have hkey : okK (L + 1) (some (0 :: keysOf A1)) u.kind:=by
  have hk : ∀ q ∈ ulog u,keyOf (L + 1) q ∈ 0 :: keysOf A1:=fun q hq=>by
   rcases k5.log q hq with h | h
   ·obtain ⟨it,h1,h2⟩:=ao3 h
    obtain ⟨_,h3⟩:=It.there (hS.its it (List.mem_append.2 (.inl h1))) q h2
    unfold keyOf
    split
    ·rename_i e
     rcases h3 with h | h | h
     ·omega
     ·exact absurd e.2 h.2.2
     ·exact List.mem_cons_of_mem _ (List.mem_flatMap.2 ⟨it,h1,h.2.2⟩)
    ·exact List.mem_cons_self ..
   ·rw [cm6 (.inr ⟨by rw [h.1,hS.lvl],h.2.1,h.2.2.1⟩)]
    exact List.mem_cons_self ..
  cases u with
  | none=>exact .inl rfl
  | some x=>exact .inr ⟨x.2,rfl,.inr (by simp),hk⟩
 obtain ⟨x1,T',S',q3,q4⟩:=h v A1' A2 J a1 b1 _ (T.put (some d) v) (S.after u) (hcc.push (a:=(none,some (0 :: keysOf A1))) (f:=⟨.all,u.kind⟩) ⟨trivial,hkey⟩) (hT.put d v) hS'
 refine ⟨x1,T',S',?_,q4⟩
 rw [b_cl,br8 hT hx,hS.fn,hup,Bool.not_true,Bool.false_and,aK2,k1]
 rw [show outE false v = AE.ret v from rfl,bA7]
 exact q3
end
open Go.RowKit
def CV : V → AV → Prop
 | .int k n,a=>a = .lit (.int k n)
 | .bool b,a=>a = .lit (.bool b)
 | .str l,a=>a = .lit (.string (bs l))
 | v,a=>RelC v a
theorem CV.rel {v : V} {a : AV} : CV v a ↔ RelC v a:=by
 cases v <;> simp only [CV,RelC]
def OpnC (up : Bool) (ks : List Nat) (q : Loc) (g : Nat) : Nat → List OV → List AV → List It → Prop
 | _,[],cs,N=>cs = [] ∧ N = []
 | i,.c v :: r,cs,N=>∃ a t,cs = a :: t ∧ CV v a ∧ OpnC up ks q g (i + 1) r t N
 | i,.self :: r,cs,N=>∃ a t,cs = a :: t ∧ (a = .lit (.pointer none) ∨ a = .ptr q g 0 i) ∧ OpnC up ks q g (i + 1) r t N
 | i,o :: r,cs,N=>∃ a t F N',cs = a :: t ∧ N = .own up ks o a F :: N' ∧ OpnC up ks q g (i + 1) r t N'
def selfO : OV → Bool
 | .self=>true
 | _=>false
theorem AtO.noself {S : AS} {p p' : Loc} {g g' i i' : Nat} {o : OV} {a : AV} {F : List Loc} (h : AtO S p g i o a F) (ho : selfO o = false) : AtO S p' g' i' o a F:=by
 cases o with
 | self=>cases ho
 | _=>unfold AtO at h ⊢; exact h
theorem OpnC.of {S : AS} {L : Nat} {up : Bool} {ks : List Nat} {q : Loc} {g : Nat} : ∀ {os : List OV} {i : Nat} {cs : List AV} {F : List Loc},AtL S q g i os cs F → (∀ x ∈ F,Pl L ks x) → ∃ N,OpnC up ks q g i os cs N ∧ N.flatMap It.foot = F ∧ (∀ it ∈ N,it.ok S L) ∧ ∀ it ∈ N,it.up = up
 | [],i,cs,F,h,_=>by
  unfold AtL at h
  obtain ⟨rfl,rfl⟩:=h
  exact ⟨[],⟨rfl,rfl⟩,rfl,fun _ h=>(nomatch h),fun _ h=>(nomatch h)⟩
 | o :: r,i,cs,F,h,hF=>by
  unfold AtL at h
  obtain ⟨a,t,F1,F2,rfl,rfl,h2,h3⟩:=h
  obtain ⟨N,k1,k2,k3,k4⟩:=OpnC.of (up:=up) (ks:=ks) h3 fun x hx=>hF x (List.mem_append.2 (.inr hx))
  have own : selfO o = false → ∃ N,(∃ a' t' F' N',a :: t = a' :: t' ∧ N = .own up ks o a' F' :: N' ∧ OpnC up ks q g (i + 1) r t' N') ∧ N.flatMap It.foot = F1 ++ F2 ∧ (∀ it ∈ N,it.ok S L) ∧ ∀ it ∈ N,it.up = up:=fun ho=>by
   refine ⟨.own up ks o a F1 :: N,⟨a,t,F1,N,rfl,rfl,k1⟩,by rw [List.flatMap_cons,k2]; rfl,fun it hi=>?_,fun it hi=>?_⟩
   ·rcases List.mem_cons.1 hi with rfl | hi
    ·exact ⟨h2.noself ho,fun x hx=>hF x (List.mem_append.2 (.inl hx))⟩
    ·exact k3 it hi
   ·rcases List.mem_cons.1 hi with rfl | hi
    ·rfl
    ·exact k4 it hi
  cases o with
  | c v =>
   unfold AtO at h2
   obtain ⟨h2,rfl⟩:=h2
   exact ⟨N,⟨a,t,rfl,CV.rel.2 h2,k1⟩,k2,k3,k4⟩
  | self =>
   unfold AtO at h2
   obtain ⟨h2,rfl⟩:=h2
   exact ⟨N,⟨a,t,rfl,h2,k1⟩,k2,k3,k4⟩
  | bb te l=>exact own rfl
  | gs n e es=>exact own rfl
  | li n e es=>exact own rfl
  | rw x n e es=>exact own rfl
  | it s pos=>exact own rfl
  | ptr t os=>exact own rfl
  | mp ks vs=>exact own rfl
def ShtC (q : Loc) (g : Nat) : Nat → List OV → List AV → List It → Prop
 | _,[],cs,N=>cs = [] ∧ N = []
 | i,.c v :: r,a :: t,N=>CV v a ∧ ShtC q g (i + 1) r t N
 | i,.self :: r,a :: t,N=>(a = .lit (.pointer none) ∨ a = .ptr q g 0 i) ∧ ShtC q g (i + 1) r t N
 | i,o :: r,a :: t,.own _ _ o' a' _ :: N=>o = o' ∧ a = a' ∧ ShtC q g (i + 1) r t N
 | _,_,_,_=>False
theorem ShtC.at {S : AS} {L : Nat} {q : Loc} {g : Nat} : ∀ {os : List OV} {i : Nat} {cs : List AV} {N : List It},ShtC q g i os cs N → (∀ it ∈ N,it.ok S L) → AtL S q g i os cs (N.flatMap It.foot)
 | [],i,cs,N,h,_=>by
  unfold ShtC at h
  obtain ⟨rfl,rfl⟩:=h
  unfold AtL
  exact ⟨rfl,rfl⟩
 | o :: r,i,cs,N,h,hN=>by
  have own : selfO o = false → ∀ {a t a' : _} {u ks F N'},cs = a :: t → N = .own u ks o a' F :: N' → a = a' → ShtC q g (i + 1) r t N' → AtL S q g i (o :: r) cs (N.flatMap It.foot):=fun ho {a t a' u ks F N'} e1 e2 e3 h4=>by
   subst e1 e2 e3
   unfold AtL
   exact ⟨a,t,F,_,rfl,rfl,(hN _ (List.mem_cons_self ..)).1.noself ho,ShtC.at h4 fun it hi=>hN it (List.mem_cons_of_mem _ hi)⟩
  cases o with
  | c v =>
   cases cs with
   | nil=>unfold ShtC at h; exact h.elim
   | cons a t =>
    unfold ShtC at h
    unfold AtL
    exact ⟨a,t,[],_,rfl,rfl,by unfold AtO; exact ⟨CV.rel.1 h.1,rfl⟩,ShtC.at h.2 hN⟩
  | self =>
   cases cs with
   | nil=>unfold ShtC at h; exact h.elim
   | cons a t =>
    unfold ShtC at h
    unfold AtL
    exact ⟨a,t,[],_,rfl,rfl,by unfold AtO; exact ⟨h.1,rfl⟩,ShtC.at h.2 hN⟩
  | bb te l =>
   cases cs with
   | nil=>unfold ShtC at h; exact h.elim
   | cons a t =>
    cases N with
    | nil=>unfold ShtC at h; exact h.elim
    | cons it N =>
     cases it with
     | own u ks o' a' F=>unfold ShtC at h; obtain ⟨rfl,h2,h3⟩:=h; exact own rfl rfl rfl h2 h3
     | _=>unfold ShtC at h; exact h.elim
  | gs n e es =>
   cases cs with
   | nil=>unfold ShtC at h; exact h.elim
   | cons a t =>
    cases N with
    | nil=>unfold ShtC at h; exact h.elim
    | cons it N =>
     cases it with
     | own u ks o' a' F=>unfold ShtC at h; obtain ⟨rfl,h2,h3⟩:=h; exact own rfl rfl rfl h2 h3
     | _=>unfold ShtC at h; exact h.elim
  | li n e es =>
   cases cs with
   | nil=>unfold ShtC at h; exact h.elim
   | cons a t =>
    cases N with
    | nil=>unfold ShtC at h; exact h.elim
    | cons it N =>
     cases it with
     | own u ks o' a' F=>unfold ShtC at h; obtain ⟨rfl,h2,h3⟩:=h; exact own rfl rfl rfl h2 h3
     | _=>unfold ShtC at h; exact h.elim
  | it s pos =>
   cases cs with
   | nil=>unfold ShtC at h; exact h.elim
   | cons a t =>
    cases N with
    | nil=>unfold ShtC at h; exact h.elim
    | cons it N =>
     cases it with
     | own u ks o' a' F=>unfold ShtC at h; obtain ⟨rfl,h2,h3⟩:=h; exact own rfl rfl rfl h2 h3
     | _=>unfold ShtC at h; exact h.elim
  | rw x n e es =>
   cases cs with
   | nil=>unfold ShtC at h; exact h.elim
   | cons a t =>
    cases N with
    | nil=>unfold ShtC at h; exact h.elim
    | cons it N =>
     cases it with
     | own u ks o' a' F=>unfold ShtC at h; obtain ⟨rfl,h2,h3⟩:=h; exact own rfl rfl rfl h2 h3
     | _=>unfold ShtC at h; exact h.elim
  | ptr ty os =>
   cases cs with
   | nil=>unfold ShtC at h; exact h.elim
   | cons a t =>
    cases N with
    | nil=>unfold ShtC at h; exact h.elim
    | cons it N =>
     cases it with
     | own u ks o' a' F=>unfold ShtC at h; obtain ⟨rfl,h2,h3⟩:=h; exact own rfl rfl rfl h2 h3
     | _=>unfold ShtC at h; exact h.elim
  | mp kk vs =>
   cases cs with
   | nil=>unfold ShtC at h; exact h.elim
   | cons a t =>
    cases N with
    | nil=>unfold ShtC at h; exact h.elim
    | cons it N =>
     cases it with
     | own u ks o' a' F=>unfold ShtC at h; obtain ⟨rfl,h2,h3⟩:=h; exact own rfl rfl rfl h2 h3
     | _=>unfold ShtC at h; exact h.elim
theorem RegA.swap {f : Fr} {L : Nat} {A1 A2 B : List It} (h : RegA f L (A1 ++ B)) (e : A2.flatMap It.foot = A1.flatMap It.foot) (hu : ∀ it ∈ A2,it.foot ≠ [] → it.up = A1.any It.up) : RegA f L (A2 ++ B):=by
 have hsep:=h.sep
 refine ⟨by rw [List.flatMap_append] at hsep ⊢; rw [e]; exact hsep,fun it hi q hq hl=>?_,fun q hq=>?_,h.upl⟩
 ·rcases List.mem_append.1 hi with hi | hi
  ·have : q ∈ A1.flatMap It.foot:=by rw [← e]; exact List.mem_flatMap.2 ⟨it,hi,hq⟩
   obtain ⟨jt,h1,h2⟩:=ao3 this
   obtain ⟨h3,h4⟩:=h.upr jt (List.mem_append.2 (.inl h1)) q h2 hl
   exact ⟨by rw [hu it hi (fun e=>by rw [e] at hq; cases hq)]; exact List.any_eq_true.2 ⟨jt,h1,h3⟩,h4⟩
  ·exact h.upr it (List.mem_append.2 (.inr hi)) q hq hl
 ·obtain ⟨it,h1,h2,h3⟩:=h.cov q hq
  rcases List.mem_append.1 h1 with h1 | h1
  ·have : q ∈ A2.flatMap It.foot:=by rw [e]; exact List.mem_flatMap.2 ⟨it,h1,h3⟩
   obtain ⟨jt,k1,k2⟩:=ao3 this
   exact ⟨jt,List.mem_append.2 (.inl k1),by rw [hu jt k1 (fun e=>by rw [e] at k2; cases k2)]; exact List.any_eq_true.2 ⟨it,h1,h2⟩,k2⟩
  ·exact ⟨it,List.mem_append.2 (.inr h1),h2,h3⟩
theorem StA.swap {S : AS} {L : Nat} {f : Fr} {A1 A2 B : List It} (h : StA S L f (A1 ++ B)) (e : A2.flatMap It.foot = A1.flatMap It.foot) (hu : ∀ it ∈ A2,it.foot ≠ [] → it.up = A1.any It.up) (hok : (∀ it ∈ A1,it.ok S (L + 1)) → ∀ it ∈ A2,it.ok S (L + 1)) : StA S L f (A2 ++ B) :=
 ⟨h.lvl,h.fn,h.dfr,h.out,fun it hi=>by
  rcases List.mem_append.1 hi with hi | hi
  ·exact hok (fun jt hj=>h.its jt (List.mem_append.2 (.inl hj))) it hi
  ·exact h.its it (List.mem_append.2 (.inr hi)),h.reg.swap e hu⟩
theorem cn2 {it : It} : ∀ {A : List It} {i : Nat} {a : It},A[i]? = some a → it.foot = a.foot → (A.set i it).flatMap It.foot = A.flatMap It.foot
 | [],_,_,e,_=>by cases e
 | b :: r,0,a,e,h=>by cases e; simp [List.flatMap_cons,h]
 | b :: r,i + 1,a,e,h=>by
  rw [List.set_cons_succ,List.flatMap_cons,List.flatMap_cons,cn2 (A:=r) (i:=i) e h]
theorem RegA.set {f : Fr} {L : Nat} {A : List It} {i : Nat} {a it : It} (h : RegA f L A) (hA : A[i]? = some a) (hf : it.foot = a.foot) (hu : it.up = a.up) : RegA f L (A.set i it):=by
 refine ⟨by rw [cn2 hA hf]; exact h.sep,fun jt hj q hq hl=>?_,fun q hq=>?_,h.upl⟩
 ·rcases List.mem_or_eq_of_mem_set hj with hj | rfl
  ·exact h.upr jt hj q hq hl
  ·rw [hf] at hq
   rw [hu]
   exact h.upr a (List.mem_of_getElem? hA) q hq hl
 ·obtain ⟨jt,h1,h2,h3⟩:=h.cov q hq
  obtain ⟨j,hj⟩:=List.getElem?_of_mem h1
  by_cases e : i = j
  ·subst e
   rw [hA] at hj; cases hj
   have hlt : i < A.length:=(List.getElem?_eq_some_iff.1 hA).1
   exact ⟨it,List.mem_of_getElem? (i:=i) (by rw [List.getElem?_set_self hlt]),by rw [hu]; exact h2,by rw [hf]; exact h3⟩
  ·exact ⟨jt,List.mem_of_getElem? (i:=j) (by rw [List.getElem?_set_ne e]; exact hj),h2,h3⟩
theorem cr4 {A : List It} (h : (A.flatMap It.foot).Nodup) {i j : Nat} {a b : It} (hi : A[i]? = some a) (hj : A[j]? = some b) (hne : i ≠ j) : ∀ q ∈ b.foot,q ∉ a.foot:=fun q hq hq'=>cD7 h hi hj hne q hq' hq
theorem Pl.key {L : Nat} {ks : List Nat} {q : Loc} (h : Pl L ks q) : keyOf L q ∈ 0 :: ks:=by
 unfold keyOf
 split
 ·rename_i e
  rcases h with h | h | h
  ·omega
  ·exact absurd e.2 h.2.2
  ·exact List.mem_cons_of_mem _ h.2.2
 ·exact List.mem_cons_self ..
theorem It.b76 {it : It} {k : Nat} (h : it.free k = true) : k ∉ it.keys:=fun hm=>by
 have key : ∀ ks : List Nat,(!ks.contains k) = true → k ∈ ks → False:=fun ks h hm=>by
  rw [List.contains_iff_mem.2 hm] at h
  cases h
 cases it with
 | own u ks o a F=>exact key ks h hm
 | cel u ks p g t cs=>exact key ks h hm
 | jnk u ks J=>exact key ks h hm
 | _=>cases hm
theorem Pl.own (L k : Nat) : Pl L [k] ⟨L,k,0⟩:=.inr (.inr ⟨rfl,rfl,List.mem_singleton.2 rfl⟩)
theorem StA.wr {S : AS} {L : Nat} {f : Fr} {A : List It} (h : StA S L f A) {it : It} (hi : it ∈ A) {q : Loc} (hq : q ∈ it.foot) (hro : f.ro = false ∨ it.up = false) : L < q.l ∨ q ∈ f.W ∧ f.ro = false:=by
 rcases Nat.lt_or_ge L q.l with hl | hl
 ·exact .inl hl
 ·exact .inr ⟨(h.reg.upr it hi q hq hl).2,hro.elim id fun e=>by rw [(h.reg.upr it hi q hq hl).1] at e; cases e⟩
theorem FrOk.put {F : Fr} {S : AS} {L : Nat} (h : FrOk F S L) {p : Loc} (hp : L < p.l ∨ p ∈ F.W ∧ F.ro = false) (s : ab3) : FrOk F (S.set p s) L:=by
 refine ⟨h.srt.put,fun r hr hl=>?_,h.un.imp id fun h r hl hr=>?_⟩
 ·rcases ae5.1 hr with hr | rfl
  ·exact h.log r hr hl
  ·rcases hp with hp | hp
   ·omega
   ·exact hp
 ·have hne : r ≠ p:=fun e=>hr (ae5.2 (.inr e))
  rw [AS.ad6 _ _ hne]
  exact h r hl fun hm=>hr (ae5.2 (.inl hm))
theorem StA.setI {S : AS} {L : Nat} {f : Fr} {A : List It} {i : Nat} {a it : It} (h : StA S L f A) (hA : A[i]? = some a) {p : Loc} (hp : p ∈ a.foot) {s : ab3} (hok : it.ok (S.set p s) (L + 1)) (hf : it.foot = a.foot) (hu : it.up = a.up) (ho : (A.all fun jt=>okO a.keys jt) = true) (hro : f.ro = false ∨ a.up = false ∨ L < p.l) : StA (S.set p s) L f (A.set i it):=by
 have ha:=List.mem_of_getElem? hA
 obtain ⟨_,hpl⟩:=It.there (h.its a ha) p hp
 refine ⟨h.lvl,h.fn,h.dfr,h.out.put (hro.elim (fun e=>h.wr ha hp (.inl e)) fun e=>e.elim (fun e=>h.wr ha hp (.inr e)) .inl) s,fun jt hj=>?_,h.reg.set hA hf hu⟩
 obtain ⟨j,hj⟩:=List.getElem?_of_mem hj
 by_cases e : i = j
 ·subst e
  rw [List.getElem?_set_self (List.getElem?_eq_some_iff.1 hA).1] at hj
  cases hj
  exact hok
 ·rw [List.getElem?_set_ne e] at hj
  refine It.stay (K:=a.keys) (h.its jt (List.mem_of_getElem? hj)) (List.all_eq_true.1 ho jt (List.mem_of_getElem? hj)) (fun q hq=>?_) (fun k hk=>?_)
  ·exact AS.ad6 _ _ fun e'=>cr4 h.reg.sep hA hj e q hq (e' ▸ hp)
  ·refine AS.ad6 _ _ fun e'=>?_
   rcases hpl with h1 | h1 | h1
   ·rw [← e'] at h1; simp at h1
   ·exact h1.2.2 (by rw [← e'])
   ·rw [← e'] at h1
    rw [List.contains_iff_mem.2 h1.2.2] at hk; cases hk
section
variable {L : Nat} {f : Fr} {A B : List It} {up : Bool} {ks : List Nat} {p : Loc} {g : Nat} {t : TypeId} {cs : List AV}
theorem Cx.co {S : AS} {l : Nat} {a : AV} (h : Cx S l a) (hd : AV.deep l a = []) : Co l a:=by
 cases h with
 | c h=>exact .c h
 | p h=>exact .p h
 | pd h=>simp only [AV.deep,if_neg (Nat.not_le.2 h)] at hd; cases hd
 | m h=>exact .m h
 | md h=>simp only [AV.deep,if_neg (Nat.not_le.2 h)] at hd; cases hd
 | r h=>exact .r h
 | rd h=>simp only [AV.deep,if_neg (Nat.not_le.2 h)] at hd; cases hd
 | t h h'=>exact .t h h'
 | d h h'=>simp only [AV.deep,if_neg (Nat.not_le.2 h')] at hd; cases hd
theorem cc4 {l : Nat} {a : AV} {x : Loc} : ∀ {cs : List AV},a ∈ cs → x ∈ AV.deep l a → x ∈ AV.am4 l cs
 | [],h,_=>by cases h
 | b :: r,h,hx=>by
  simp only [AV.am4]
  rcases List.mem_cons.1 h with rfl | h
  ·exact List.mem_append.2 (.inl hx)
  ·exact List.mem_append.2 (.inr (cc4 h hx))
theorem aE9 {cs ys : List AV} {off : Nat} {a : AV} (h : a ∈ splice cs off ys) : a ∈ cs ∨ a ∈ ys:=by
 unfold splice at h
 simp only [List.mem_append] at h
 rcases h with (h | h) | h
 ·exact .inl (List.mem_of_mem_take h)
 ·exact .inr h
 ·exact .inl (List.mem_of_mem_drop h)
theorem own_co {S : AS} {L : Nat} {up : Bool} {ks : List Nat} {o : OV} {a : AV} {F : List Loc} (h : It.ok S L (.own up ks o a F)) : Co L a:=by
 obtain ⟨h1,h2⟩:=h
 obtain ⟨c1,c2,_⟩:=AtO.reg (l:=L) (p:=aO6) (g:=0) (.inl (Nat.zero_le _)) h1
 refine c1.co (List.eq_nil_iff_forall_not_mem.2 fun x hx=>?_)
 have e1:=c1.gt x hx
 rcases c2 x hx with e2 | rfl
 ·rcases h2 x e2 with h | h | h
  ·omega
  ·omega
  ·omega
 ·simp at e1
theorem Mv.opn {os : List OV} {a : AV} {F : List Loc} (hA : A = .own up ks (.ptr t os) a F :: B) : Mv f L A (fun A'=>∃ q g cs N,a = .ptr q g 0 0 ∧ OpnC up ks q g 0 os cs N ∧ A' = .cel up ks q g t cs :: (N ++ B)):=by
 subst hA
 intro S hS
 obtain ⟨h1,h2⟩:=hS.its _ (List.mem_cons_self ..)
 unfold AtO at h1
 obtain ⟨q,g,cs,F',e1,rfl,h3,h4⟩:=h1
 obtain ⟨N,k1,k2,k3,k4⟩:=OpnC.of (up:=up) (ks:=ks) (L:=L + 1) h4 fun x hx=>h2 x (List.mem_cons_of_mem _ hx)
 refine ⟨_,⟨q,g,cs,N,e1,k1,rfl⟩,?_⟩
 refine StA.swap (A1:=[.own up ks (.ptr t os) a (q :: F')]) (A2:=.cel up ks q g t cs :: N) (B:=B) hS (by simp [It.foot,k2]) (fun it hi _=>?_) (fun _ it hi=>?_)
 ·rcases List.mem_cons.1 hi with rfl | hi
  ·simp [It.up]
  ·rw [k4 it hi]; simp [It.up]
 ·rcases List.mem_cons.1 hi with rfl | hi
  ·refine ⟨h3,h2 q (List.mem_cons_self ..),fun a ha=>?_⟩
   have hlv : ∀ x ∈ q :: F',x.l ≤ L + 1:=fun x hx=>by
    rcases h2 x hx with h | h | h
    ·omega
    ·omega
    ·omega
   obtain ⟨c1,c2,_⟩:=AtL.reg (l:=L + 1) (.inl (hlv q (List.mem_cons_self ..))) h4
   refine (c1 a ha).co (List.eq_nil_iff_forall_not_mem.2 fun x hx=>?_)
   have e1:=(c1 a ha).gt x hx
   have e2:=c2 x (cc4 ha hx)
   rcases e2 with e2 | rfl
   ·have:=hlv x (List.mem_cons_of_mem _ e2); omega
   ·have:=hlv x (List.mem_cons_self ..); omega
  ·exact k3 it hi
theorem Mv.sht {os : List OV} {N : List It} (hA : A = .cel up ks p g t cs :: (N ++ B)) (h0 : ShtC p g 0 os cs N) : Mv f L A (fun A'=>∃ F,A' = .own (up || N.any It.up) (ks ++ N.flatMap It.keys) (.ptr t os) (.ptr p g 0 0) F :: B):=by
 subst hA
 intro S hS
 refine ⟨_,⟨p :: N.flatMap It.foot,rfl⟩,?_⟩
 refine StA.swap (A1:=.cel up ks p g t cs :: N) (A2:=[.own (up || N.any It.up) (ks ++ N.flatMap It.keys) (.ptr t os) (.ptr p g 0 0) (p :: N.flatMap It.foot)]) (B:=B) hS (by simp [It.foot]) (fun it hi _=>?_) (fun hok it hi=>?_)
 ·rw [List.mem_singleton.1 hi]
  simp [It.up,List.any_cons]
 ·rw [List.mem_singleton.1 hi]
  obtain ⟨h1,h2,_⟩:=hok _ (List.mem_cons_self ..)
  refine ⟨?_,fun q hq=>?_⟩
  ·unfold AtO
   exact ⟨p,g,cs,_,rfl,rfl,h1,h0.at fun it hi=>hok it (List.mem_cons_of_mem _ hi)⟩
  ·rcases List.mem_cons.1 hq with rfl | hq
   ·rcases h2 with h | h | h
    ·exact .inl h
    ·exact .inr (.inl h)
    ·exact .inr (.inr ⟨h.1,h.2.1,List.mem_append.2 (.inl h.2.2)⟩)
   ·obtain ⟨it,k1,k2⟩:=ao3 hq
    obtain ⟨_,k3⟩:=It.there (hok it (List.mem_cons_of_mem _ k1)) q k2
    rcases k3 with h | h | h
    ·exact .inl h
    ·exact .inr (.inl h)
    ·exact .inr (.inr ⟨h.1,h.2.1,List.mem_append.2 (.inr (List.mem_flatMap.2 ⟨it,k1,h.2.2⟩))⟩)
theorem StA.addF {S : AS} {it : It} (hS : StA S L f A) (hok : it.ok S (L + 1)) (hf : it.foot = []) : StA S L f (it :: A):=by
 refine ⟨hS.lvl,hS.fn,hS.dfr,hS.out,fun jt hj=>?_,by rw [List.flatMap_cons,hf]; exact hS.reg.sep,fun jt hj q hq hl=>?_,fun q hq=>?_,hS.reg.upl⟩
 ·rcases List.mem_cons.1 hj with rfl | hj
  ·exact hok
  ·exact hS.its jt hj
 ·rcases List.mem_cons.1 hj with rfl | hj
  ·rw [hf] at hq; cases hq
  ·exact hS.reg.upr jt hj q hq hl
 ·obtain ⟨jt,h1,h2,h3⟩:=hS.reg.cov q hq
  exact ⟨jt,List.mem_cons_of_mem _ h1,h2,h3⟩
theorem Mv.addN {ks : List Nat} {n : Nat} {e : TypeId} {a : AV} (ha : ∃ p,a = .lit (.slice p 0 0)) : Mv f L A (fun A'=>A' = .own false ks (.gs n e []) a [] :: A):=fun _ hS =>
 ⟨_,rfl,hS.addF (it:=.own false ks (.gs n e []) a []) ⟨by unfold AtO; exact .inl ⟨rfl,ha,rfl⟩,fun q hq=>(nomatch hq)⟩ rfl⟩
theorem Mv.addF {ks : List Nat} {n : Nat} {e : TypeId} {a : AV} {es : List (List V)} (hr : RelC (.sl n es) a) (ha : ∃ ys,a = .list .full n ys) : Mv f L A (fun A'=>A' = .own false ks (.gs n e es) a [] :: A):=fun _ hS =>
 ⟨_,rfl,hS.addF (it:=.own false ks (.gs n e es) a []) ⟨(by
  unfold AtO
  obtain ⟨ys,rfl⟩:=ha
  unfold RelC at hr
  rcases hr with ⟨_,p,e⟩ | ⟨sp,zs,e,_,hr⟩
  ·cases e
  ·cases e
   exact .inr (.inl ⟨ys,rfl,hr,rfl⟩)),fun q hq=>(nomatch hq)⟩ rfl⟩
theorem Mv.newJ : Mv f L A (fun A'=>A' = .jnk false [] [] :: A):=fun _ hS =>
 ⟨_,rfl,hS.addF (it:=.jnk false [] []) ⟨fun q hq=>(nomatch hq),fun q hq=>(nomatch hq)⟩ rfl⟩
def plO : OV → Bool
 | .c _=>true
 | _=>false
theorem b78 {S : AS} {q : Loc} {h : Nat} : ∀ {os : List OV} {cs : List AV} {F : List Loc} {i : Nat},AtL S q h i os cs F → os.all plO = true → F = [] ∧ ∀ a ∈ cs,a.closed = true
 | [],cs,F,i,h,_=>by
  unfold AtL at h
  obtain ⟨rfl,rfl⟩:=h
  exact ⟨rfl,fun a ha=>(nomatch ha)⟩
 | o :: r,cs,F,i,h,ho=>by
  unfold AtL at h
  obtain ⟨a,t,F1,F2,rfl,rfl,h1,h2⟩:=h
  simp only [List.all_cons,Bool.and_eq_true] at ho
  obtain ⟨rfl,k2⟩:=b78 h2 ho.2
  cases o with
  | c v =>
   unfold AtO at h1
   obtain ⟨k1,rfl⟩:=h1
   refine ⟨rfl,fun b hb=>?_⟩
   rcases List.mem_cons.1 hb with rfl | hb
   ·exact k1.closed
   ·exact k2 b hb
  | _=>exact nomatch ho.1
def cw4 : OV → Bool
 | .ptr _ os=>os.all plO
 | .gs _ _ _=>true
 | .li _ _ _=>true
 | .rw _ _ _ _=>true
 | .it _ _=>true
 | _=>false
theorem AtO.junk {S : AS} {p : Loc} {g i : Nat} {o : OV} {a : AV} {F : List Loc} (h : AtO S p g i o a F) (ho : cw4 o = true) : av7 S F:=by
 have gs : ∀ {n e es},Gs S n e es a F → av7 S F:=fun h=>by
  rcases h with ⟨_,_,rfl⟩ | ⟨_,_,_,rfl⟩ | ⟨q,k,ys,_,_,h3,rfl⟩
  ·exact fun q hq=>(nomatch hq)
  ·exact fun q hq=>(nomatch hq)
  ·intro x hx
   rw [List.mem_singleton] at hx
   subst hx
   exact ⟨_,h3,.tok⟩
 cases o with
 | gs n e es=>unfold AtO at h; exact gs h
 | li n e es =>
  unfold AtO at h
  rcases h with h | ⟨_,_,_,rfl⟩
  ·exact gs h
  ·exact fun q hq=>(nomatch hq)
 | it s pos =>
  unfold AtO at h
  obtain ⟨q,k,_,rfl,h3⟩:=h
  intro x hx
  rw [List.mem_singleton] at hx
  subst hx
  exact ⟨_,h3,.itr⟩
 | ptr t os =>
  unfold AtO at h
  obtain ⟨q,k,cs,F',_,rfl,h3,h4⟩:=h
  obtain ⟨rfl,h5⟩:=b78 h4 ho
  intro x hx
  rw [List.mem_singleton] at hx
  subst hx
  exact ⟨_,h3,.obj h5⟩
 | rw x0 n e es =>
  unfold AtO at h
  rcases h with ⟨_,h⟩ | ⟨q,k,ys,zs,_,h2,h3,rfl⟩
  ·exact gs h
  ·intro x hx
   rw [List.mem_singleton] at hx
   subst hx
   exact ⟨_,h3,.row (aE2 (aG9 h2.1.closed h2.2.2.1))⟩
 | _=>cases ho
theorem Pl.app {L : Nat} {ks ks' : List Nat} {q : Loc} (h : Pl L ks q) : Pl L (ks ++ ks') q ∧ Pl L (ks' ++ ks) q:=by
 rcases h with h | h | h
 ·exact ⟨.inl h,.inl h⟩
 ·exact ⟨.inr (.inl h),.inr (.inl h)⟩
 ·exact ⟨.inr (.inr ⟨h.1,h.2.1,List.mem_append.2 (.inl h.2.2)⟩),.inr (.inr ⟨h.1,h.2.1,List.mem_append.2 (.inr h.2.2)⟩)⟩
theorem Mv.toJ {o : OV} {a : AV} {F J : List Loc} {u : Bool} {K : List Nat} (hA : A = .own up ks o a F :: .jnk u K J :: B) (ho : cw4 o = true) : Mv f L A (fun A'=>∃ J',A' = .jnk (up || u) (ks ++ K) J' :: B):=by
 subst hA
 intro S hS
 refine ⟨_,⟨F ++ J,rfl⟩,StA.swap (A1:=[.own up ks o a F,.jnk u K J]) (A2:=[.jnk (up || u) (ks ++ K) (F ++ J)]) (B:=B) hS (by simp [It.foot]) (fun it hi _=>?_) (fun hok it hi=>?_)⟩
 ·rw [List.mem_singleton.1 hi]; simp [It.up]
 ·rw [List.mem_singleton.1 hi]
  have h1:=hok _ (List.mem_cons_self ..)
  have h2:=hok _ (List.mem_cons_of_mem _ (List.mem_cons_self ..))
  refine ⟨fun q hq=>?_,fun q hq=>?_⟩
  ·rcases List.mem_append.1 hq with hq | hq
   ·exact h1.1.junk ho q hq
   ·exact h2.1 q hq
  ·rcases List.mem_append.1 hq with hq | hq
   ·exact (h1.2 q hq).app.1
   ·exact (h2.2 q hq).app.2
theorem Mv.celJ {p : Loc} {g : Nat} {t : TypeId} {cs : List AV} {J : List Loc} {u : Bool} {K : List Nat} (hA : A = .cel up ks p g t cs :: .jnk u K J :: B) (hc : ∀ a ∈ cs,a.closed = true) : Mv f L A (fun A'=>∃ J',A' = .jnk (up || u) (ks ++ K) J' :: B):=by
 subst hA
 intro S hS
 refine ⟨_,⟨p :: J,rfl⟩,StA.swap (A1:=[.cel up ks p g t cs,.jnk u K J]) (A2:=[.jnk (up || u) (ks ++ K) (p :: J)]) (B:=B) hS (by simp [It.foot]) (fun it hi _=>?_) (fun hok it hi=>?_)⟩
 ·rw [List.mem_singleton.1 hi]; simp [It.up]
 ·rw [List.mem_singleton.1 hi]
  have h1:=hok _ (List.mem_cons_self ..)
  have h2:=hok _ (List.mem_cons_of_mem _ (List.mem_cons_self ..))
  refine ⟨fun q hq=>?_,fun q hq=>?_⟩
  ·rcases List.mem_cons.1 hq with rfl | hq
   ·exact ⟨_,h1.1,.obj hc⟩
   ·exact h2.1 q hq
  ·rcases List.mem_cons.1 hq with rfl | hq
   ·exact h1.2.1.app.1
   ·exact (h2.2 q hq).app.2
theorem Mv.jj {J J' : List Loc} {u : Bool} {K : List Nat} (hA : A = .jnk up ks J :: .jnk u K J' :: B) : Mv f L A (fun A'=>∃ J',A' = .jnk (up || u) (ks ++ K) J' :: B):=by
 subst hA
 intro S hS
 refine ⟨_,⟨J ++ J',rfl⟩,StA.swap (A1:=[.jnk up ks J,.jnk u K J']) (A2:=[.jnk (up || u) (ks ++ K) (J ++ J')]) (B:=B) hS (by simp [It.foot]) (fun it hi _=>?_) (fun hok it hi=>?_)⟩
 ·rw [List.mem_singleton.1 hi]; simp [It.up]
 ·rw [List.mem_singleton.1 hi]
  have h1:=hok _ (List.mem_cons_self ..)
  have h2:=hok _ (List.mem_cons_of_mem _ (List.mem_cons_self ..))
  refine ⟨fun q hq=>?_,fun q hq=>?_⟩
  ·rcases List.mem_append.1 hq with hq | hq
   ·exact h1.1 q hq
   ·exact h2.1 q hq
  ·rcases List.mem_append.1 hq with hq | hq
   ·exact (h1.2 q hq).app.1
   ·exact (h2.2 q hq).app.2
end
section
variable [Cfg] {P : Program} {L : Nat} {f : Fr} {E : Env} {A B : List It} {Φ : ag1} {m : Option (List (Nat × Nat))} {acc : AAcc} {r l : List BI} {d : Nat} {bf : BF}
variable {up : Bool} {ks : List Nat} {p : Loc} {g : Nat} {t : TypeId} {cs : List AV}
omit [Cfg] in
theorem ci4 {x : X} {off i : Nat} {T : BT} {S : AS} {dd : Option Nat} (hT : Ag E T) (hS : StA S L f A) (hx : opd E x = some (.ptr p g 0 off)) (hA : A[i]? = some (.cel up ks p g t cs)) : okK (L + 1) (some (0 :: ks)) (BF.foot S T dd (.at x)):=by
 refine .inr ⟨[p],?_,by simp,fun q hq=>?_⟩
 ·show ae8 (x.at T) = _
  rw [hT.at hx]
  rfl
 ·rw [List.mem_singleton.1 hq]
  exact (hS.its _ (List.mem_of_getElem? hA)).2.1.key
theorem s_ldP {x : X} {i off : Nat} {a : AV} (hx : opd E x = some (.ptr p g 0 off)) (hA : A[i]? = some (.cel up ks p g t cs)) (hc : cs[off]? = some a) : Stp P L f E A d (.at x) (.ld1 x) (some (0 :: ks),some []) (fun u=>u = a):=by
 refine aJ5 (fun T S hT hS=>⟨a,?_,rfl⟩) (fun T S hT hS=>⟨ci4 (dd:=some d) hT hS hx hA,.inl rfl⟩)
 simp only [bop,hT.at hx]
 rw [bj7 (hS.its _ (List.mem_of_getElem? hA)).1 hc]
 rfl
theorem s_ldnP {x : X} {i off n : Nat} {N : List AV} (hx : opd E x = some (.ptr p g 0 off)) (hA : A[i]? = some (.cel up ks p g t cs)) (hn : Nat.ble (off + n) cs.length = true) (hN : (cs.drop off).take n = N) : Stp P L f E A d (.at x) (.ldn n x) (some (0 :: ks),some []) (fun u=>u = .agg N):=by
 subst hN
 refine aJ5 (fun T S hT hS=>⟨_,?_,rfl⟩) (fun T S hT hS=>⟨ci4 (dd:=some d) hT hS hx hA,.inl rfl⟩)
 have:=ag3 hn
 simp only [bop,hT.at hx]
 rw [ba9 (hS.its _ (List.mem_of_getElem? hA)).1,if_pos (by rw [List.length_drop]; omega)]
 rfl
theorem g_stP {x v : X} {i off n : Nat} {b : AV} {cs' : List AV} (hx : opd E x = some (.ptr p g 0 off)) (hv : opd E v = some b) (hA : A[i]? = some (.cel up ks p g t cs)) (hn : b.cells.length = n) (hone : b.cells.all AV.one = true) (hco : ∀ a ∈ b.cells,Co (L + 1) a) (hle : Nat.ble (off + n) cs.length = true) (hcs : splice cs off b.cells = cs')
  (ho : (A.all fun jt=>okO ks jt) = true) (h : GO1 P m (accP acc (some (0 :: ks),some (0 :: ks))) r L f E (A.set i (.cel up ks p g t cs')) Φ) (hro : f.ro = false ∨ up = false:=by first | exact .inl rfl | exact .inr rfl) : GO1 P m acc (⟨none,none,.at x,.st n x v⟩ :: r) L f E A Φ:=by
 intro c T S hc hT hS
 subst hcs
 have hit:=hS.its _ (List.mem_of_getElem? hA)
 have hle':=ag3 hle
 have hst:=bu8 (n:=n) (xs:=b.cells) hit.1 hn (off:=off) (by rw [hn]; exact hle') hone
 have hS' : StA (S.set p (.obj g t (splice cs off b.cells))) L f (A.set i (.cel up ks p g t (splice cs off b.cells))) :=
  hS.setI hA (p:=p) (List.mem_singleton.2 rfl) (it:=.cel up ks p g t (splice cs off b.cells)) ⟨AS.get_set_same ..,hit.2.1,fun a ha=>(aE9 ha).elim (hit.2.2 a) (hco a)⟩ rfl rfl ho (hro.imp id .inl)
 obtain ⟨x1,T',S',q1,q2⟩:=h _ (T.put none (.lit undef)) _ (hc.push (a:=(some (0 :: ks),some (0 :: ks))) (f:=⟨BF.foot S T none (.at x),.slot p⟩) ⟨ci4 (dd:=none) hT hS hx hA,.inr ⟨[p],rfl,by simp,fun q hq=>by
  rw [List.mem_singleton.1 hq]; exact hit.2.1.key⟩⟩) hT hS'
 refine ⟨x1,T',S',?_,q2⟩
 have hop : bop P S T none (.st n x v) = some (.chg (.lit undef) p (.obj g t (splice cs off b.cells))):=by
  simp only [bop,hT.at hx,hT.at hv]
  rw [hst]
  rfl
 rw [af5,hop,show (BO.st n x v).w = true from rfl,bq5]
 exact q1
omit [Cfg] in
theorem StA.push {S : AS} {A : List It} {it : It} {s : ab3} (hS : StA S L f A) (hf : (A.all fun jt=>jt.free d) = true) (hfo : it.foot = [⟨L + 1,d,0⟩] ∨ it.foot = []) (hok : it.ok (S.set ⟨L + 1,d,0⟩ s) (L + 1)) : StA (S.set ⟨L + 1,d,0⟩ s) L f (it :: A):=by
 have hno : ∀ jt ∈ A,(⟨L + 1,d,0⟩ : Loc) ∉ jt.foot:=fun jt hj hm=>by
  obtain ⟨_,hpl⟩:=It.there (hS.its jt hj) _ hm
  have hfr:=List.all_eq_true.1 hf jt hj
  rcases hpl with h | h | h
  ·simp at h
  ·exact h.2.2 rfl
  ·exact It.b76 hfr h.2.2
 refine ⟨hS.lvl,hS.fn,hS.dfr,hS.out.own (Nat.lt_succ_self L) s,fun jt hj=>?_,?_⟩
 ·rcases List.mem_cons.1 hj with rfl | hj
  ·exact hok
  ·exact It.ok_set (hS.its jt hj) (List.all_eq_true.1 hf jt hj)
 ·refine ⟨?_,fun jt hj q hq hl=>?_,fun q hq=>?_,hS.reg.upl⟩
  ·rw [List.flatMap_cons]
   rcases hfo with e | e
   ·rw [e,List.singleton_append,List.nodup_cons]
    refine ⟨fun hm=>?_,hS.reg.sep⟩
    obtain ⟨jt,h1,h2⟩:=ao3 hm
    exact hno jt h1 h2
   ·rw [e]; exact hS.reg.sep
  ·rcases List.mem_cons.1 hj with rfl | hj
   ·rcases hfo with e | e
    ·rw [e,List.mem_singleton] at hq; subst hq; simp only at hl; omega
    ·rw [e] at hq; cases hq
   ·exact hS.reg.upr jt hj q hq hl
  ·obtain ⟨jt,h1,h2,h3⟩:=hS.reg.cov q hq
   exact ⟨jt,List.mem_cons_of_mem _ h1,h2,h3⟩
omit [Cfg] in
theorem bW9 {K : List Nat} (hd : d ∈ K) : okK (L + 1) (some K) (.slots [⟨L + 1,d,0⟩]):=.inr ⟨_,rfl,by simp,fun q hq=>by
 rw [List.mem_singleton.1 hq,bE7]; exact hd⟩
theorem cA6 {o : BO} {s : ab3} {v : AV} {E' : Env} {A' : List It} {T : BT} {S : AS} {c : Acc} {dd : Option Nat} (hop : bop P S T dd o = some (.chg v ⟨L + 1,d,0⟩ s)) (hw : o.w = true) (hc : AccR (L + 1) acc c) (hr : okK (L + 1) (some [d]) (bf.foot S T dd)) (hT : Ag E' (T.put dd v)) (hS : StA (S.set ⟨L + 1,d,0⟩ s) L f A')
  (h : GO1 P m (accP acc (some [d],some [d])) r L f E' A' Φ) : ∃ x T' S',finO m (aa8 P (ah6 P) c (⟨dd,none,bf,o⟩ :: r) T S) = some (x,T',S') ∧ Φ x T' S':=by
 obtain ⟨x,T',S',k1,k2⟩:=h _ (T.put dd v) (S.set ⟨L + 1,d,0⟩ s) (hc.push (f:=⟨bf.foot S T dd,.slot ⟨L + 1,d,0⟩⟩) ⟨hr,bW9 (List.mem_singleton.2 rfl)⟩) hT hS
 exact ⟨x,T',S',by rw [af5,hop,hw,bq5]; exact k1,k2⟩
theorem g_alP {e : TypeId} {cs : List AV} (hcl : AV.ac4 cs = true) (hf : (A.all fun jt=>jt.free d) = true) (h : ∀ g,GO1 P m (accP acc (some [d],some [d])) r L f ((d,.ptr ⟨L + 1,d,0⟩ g 0 0) :: E) (.cel false [d] ⟨L + 1,d,0⟩ g e cs :: A) Φ) : GO1 P m acc (⟨some d,none,.here,.al e cs⟩ :: r) L f E A Φ:=by
 intro c T S hc hT hS
 have e1 : S.here d = ⟨L + 1,d,0⟩:=by rw [bu6,hS.lvl]
 exact cA6 (v:=.ptr ⟨L + 1,d,0⟩ (S.fresh ⟨L + 1,d,0⟩) 0 0) (s:=.obj (S.fresh ⟨L + 1,d,0⟩) e cs) (by simp only [bop,e1]) rfl hc (bz3 hS) (hT.put d _) (hS.push hf (it:=.cel false [d] ⟨L + 1,d,0⟩ _ e cs) (.inl rfl) ⟨AS.get_set_same ..,Pl.own _ _,fun a ha=>.c (az5 hcl a ha)⟩) (h _)
def RelA (n : Nat) (es : List (List V)) (a : AV) : Prop:=(es = [] ∧ ∃ p,a = .lit (.slice p 0 0)) ∨ ∃ sp ys,a = .list sp n ys ∧ ab8 es ys
omit [Cfg] in
theorem Gs.relA {S : AS} {n : Nat} {e : TypeId} {es : List (List V)} {a : AV} {F : List Loc} (h : Gs S n e es a F) : RelA n es a:=by
 rcases h with ⟨h1,h2,_⟩ | ⟨ys,h1,h2,_⟩ | ⟨q,k,ys,h1,h2,_⟩
 ·exact .inl ⟨h1,h2⟩
 ·exact .inr ⟨_,ys,h1,h2⟩
 ·exact .inr ⟨_,ys,h1,h2⟩
theorem s_iaA {α : Type} {x i : X} {a : AV} {xs : List α} {c : α → List V} {n : Nat} {k : IntKind} {j : Int} {e : α} (hx : opd E x = some a) (ha : RelA n (xs.map c) a) (hi : opd E i = some (.lit (.int k j))) (he : G.idx xs j = some e)
  : Stp P L f E A d .none (.ia n x i) af0 (fun u=>∃ zs,u = .cref zs ∧ RelP (c e) zs):=by
 unfold G.idx at he
 split at he
 ·rename_i h0
  rcases ha with ⟨hn,_⟩ | ⟨sp,ys,rfl,hr⟩
  ·have : xs = []:=by simpa using hn
   subst this
   simp at he
  ·obtain ⟨zs,h1,h2⟩:=hr.get (i:=j.toNat) (v:=c e) (by rw [List.getElem?_map,he]; rfl)
   exact aN7 (fun T S hT=>⟨_,by
    simp only [bop,hT.at hx,hT.at hi,iaV]
    rw [if_pos ⟨h0,trivial⟩,h1]
    rfl,zs,rfl,h2.toP⟩)
 ·cases he
omit [Cfg] in
theorem RelA.len {n : Nat} {es : List (List V)} {a : AV} (h : RelA n es a) : llV a = some (.lit (.int .i64 es.length)):=by
 rcases h with ⟨rfl,p,rfl⟩ | ⟨sp,ys,rfl,h⟩
 ·rfl
 ·show some _ = _
  rw [h.length]
theorem s_llA {α : Type} {x : X} {a : AV} {xs : List α} {c : α → List V} {n : Nat} (hx : opd E x = some a) (ha : RelA n (xs.map c) a) : Stp P L f E A d (.at x) (.ll x) (none,some []) (fun u=>u = .lit (.int .i64 xs.length)) :=
 aJ5 (fun T S hT _=>⟨_,by
  simp only [bop,hT.at hx,ha.len,Option.map_some,List.length_map],rfl⟩) (fun _ _ _ _=>⟨trivial,.inl rfl⟩)
theorem g_apP {s x : X} {a b : AV} {i n bytes : Nat} {e : TypeId} {F : List Loc} {α : Type} {c : α → List V} {xs ns zs : List α} (hl : Cfg.live f.fn d = false) (hs : opd E s = some a) (hx : opd E x = some b) (hA : A[i]? = some (.own up ks (.gs n e (xs.map c)) a F)) (hb : RelA n (ns.map c) b) (hby : Nat.ble bytes 100000 = true)
  (hf : cl4 [d] i A = true) (ho : (A.all fun jt=>okO ks jt) = true) (hz : G.app xs ns = some zs) (h : ∀ a' F',GO1 P m (accP acc (none,some (0 :: insK d ks))) r L f ((d,a') :: E) (A.set i (.own up (insK d ks) (.gs n e (zs.map c)) a' F')) Φ) (hro : f.ro = false ∨ up = false:=by first | exact .inl rfl | exact .inr rfl) : GO1 P m acc (⟨some d,none,.app s x,.ap e n bytes s x⟩ :: r) L f E A Φ:=by
 unfold G.app at hz
 split at hz
 case isFalse=>cases hz
 rename_i hlen
 cases hz
 intro cc T S hc hT hS
 obtain ⟨hk1,hk2⟩:=insK_mem d ks
 have hks : (ks.all fun k=>(insK d ks).contains k) = true:=List.all_eq_true.2 fun k hk=>List.contains_iff_mem.2 (hk2 k hk)
 have hmem:=List.mem_of_getElem? hA
 obtain ⟨hat,hpl⟩:=hS.its _ hmem
 unfold AtO at hat
 have hbE : ∃ news,al2 S n b = some news ∧ ab8 (ns.map c) news:=by
  rcases hb with ⟨h1,p,rfl⟩ | ⟨sp,ys,rfl,hr⟩
  ·exact ⟨[],rfl,by rw [h1]; unfold ab8; rfl⟩
  ·exact ⟨ys,aK4 n sp ys,hr⟩
 obtain ⟨news,k1,k2⟩:=hbE
 have hnl : news.length = ns.length:=by rw [k2.length,List.length_map]
 have hone:=bi2 k2
 have hby':=ag3 hby
 have e1 : S.here d = ⟨L + 1,d,0⟩:=by rw [bu6,hS.lvl]
 have hop : bop P S T (some d) (.ap e n bytes s x) = appB S d e n bytes a news:=by simp only [bop,hT.at hx,hT.at hs,k1]
 have hlive : Cfg.live S.fn d = false:=by rw [hS.fn]; exact hl
 -- nothing is laid
 have stay : appB S d e n bytes a news = some (.val a) → ns = [] → ∃ x1 T' S',finO m (aa8 P (ah6 P) cc (⟨some d,none,.app s x,.ap e n bytes s x⟩ :: r) T S) = some (x1,T',S') ∧ Φ x1 T' S':=by
  intro hv hns
  subst hns
  obtain ⟨x1,T',S',q1,q2⟩:=h a F _ (T.put (some d) a) S (hc.push (f:=⟨BF.foot S T (some d) (.app s x),.none⟩) ⟨trivial,.inl rfl⟩) (hT.put d a) (by
   rw [List.append_nil]
   exact ⟨hS.lvl,hS.fn,hS.dfr,hS.out,set_ok' (it:=.own up (insK d ks) (.gs n e (xs.map c)) a F) ⟨by unfold AtO; exact hat,fun q hq=>(hpl q hq).mono hks⟩ hS.its,hS.reg.set hA rfl rfl⟩)
  exact ⟨x1,T',S',by rw [af5,hop,hv,bo4]; exact q1,q2⟩
 -- a room is made
 have made : ∀ es : List (List AV),ab8 ((xs ++ ns).map c) es → F = [] → appB S d e n bytes a news = some (.chg (.list (.own ⟨L + 1,d,0⟩ (S.fresh ⟨L + 1,d,0⟩)) n es) ⟨L + 1,d,0⟩ (.tok (S.fresh ⟨L + 1,d,0⟩) es.length n e)) → ∃ x1 T' S',finO m (aa8 P (ah6 P) cc (⟨some d,none,.app s x,.ap e n bytes s x⟩ :: r) T S) = some (x1,T',S') ∧ Φ x1 T' S':=by
  intro es hr hF hv
  subst hF
  have hfree : ∀ j jt,A[j]? = some jt → j ≠ i → jt.free d = true:=by
   have key : ∀ {A : List It} {i : Nat},cl4 [d] i A = true → ∀ j jt,A[j]? = some jt → j ≠ i → jt.free d = true:=by
    intro A
    induction A with
    | nil=>intro i _ j jt hj; cases hj
    | cons a r ih =>
     intro i hf j jt hj hne
     cases i with
     | zero =>
      cases j with
      | zero=>exact absurd rfl hne
      | succ j =>
       have:=List.all_eq_true.1 hf jt (List.mem_of_getElem? (i:=j) hj)
       simpa using this
     | succ i =>
      simp only [cl4,Bool.and_eq_true] at hf
      cases j with
      | zero=>cases hj; simpa using hf.1
      | succ j=>exact ih hf.2 j jt hj (fun e=>hne (by rw [e]))
   exact key hf
  have hno : ∀ j jt,A[j]? = some jt → j ≠ i → (⟨L + 1,d,0⟩ : Loc) ∉ jt.foot:=fun j jt hj hne hm=>by
   obtain ⟨_,hp⟩:=It.there (hS.its jt (List.mem_of_getElem? hj)) _ hm
   have hfr:=hfree j jt hj hne
   rcases hp with h | h | h
   ·simp at h
   ·exact h.2.2 rfl
   ·exact It.b76 hfr h.2.2
  have hlt : i < A.length:=(List.getElem?_eq_some_iff.1 hA).1
  have hS' : StA (S.set ⟨L + 1,d,0⟩ (.tok (S.fresh ⟨L + 1,d,0⟩) es.length n e)) L f (A.set i (.own up (insK d ks) (.gs n e ((xs ++ ns).map c)) (.list (.own ⟨L + 1,d,0⟩ (S.fresh ⟨L + 1,d,0⟩)) n es) [⟨L + 1,d,0⟩])):=by
   have hset : ∀ (j : Nat) (jt : It),(A.set i (.own up (insK d ks) (.gs n e ((xs ++ ns).map c)) (.list (.own ⟨L + 1,d,0⟩ (S.fresh ⟨L + 1,d,0⟩)) n es) [⟨L + 1,d,0⟩]))[j]? = some jt → (j = i ∧ jt = .own up (insK d ks) (.gs n e ((xs ++ ns).map c)) (.list (.own ⟨L + 1,d,0⟩ (S.fresh ⟨L + 1,d,0⟩)) n es) [⟨L + 1,d,0⟩]) ∨ (j ≠ i ∧ A[j]? = some jt):=fun j jt hj=>by
    by_cases e : i = j
    ·subst e
     rw [List.getElem?_set_self hlt] at hj
     cases hj
     exact .inl ⟨rfl,rfl⟩
    ·rw [List.getElem?_set_ne e] at hj
     exact .inr ⟨fun e'=>e e'.symm,hj⟩
   refine ⟨hS.lvl,hS.fn,hS.dfr,hS.out.own (Nat.lt_succ_self L) _,fun jt hj=>?_,?_⟩
   ·obtain ⟨j,hj⟩:=List.getElem?_of_mem hj
    rcases hset j jt hj with ⟨_,rfl⟩ | ⟨hne,hj⟩
    ·refine ⟨?_,fun q hq=>?_⟩
     ·unfold AtO
      exact .inr (.inr ⟨_,_,es,rfl,hr,AS.get_set_same ..,rfl⟩)
     ·rw [List.mem_singleton.1 hq]
      exact .inr (.inr ⟨rfl,rfl,hk1⟩)
    ·exact It.ok_set (hS.its jt (List.mem_of_getElem? hj)) (hfree j jt hj hne)
   ·refine ⟨?_,fun jt hj q hq hle=>?_,fun q hq=>?_,hS.reg.upl⟩
    ·have key : ∀ {A : List It} {i : Nat} {a it : It} {q : Loc},(A.flatMap It.foot).Nodup → A[i]? = some a → a.foot = [] → it.foot = [q] → (∀ j jt,A[j]? = some jt → j ≠ i → q ∉ jt.foot) → ((A.set i it).flatMap It.foot).Nodup:=by
      intro A
      induction A with
      | nil=>intro i a it q _ h; cases h
      | cons b r ih =>
       intro i a it q hn hi ha hit hno
       rw [List.flatMap_cons] at hn
       have hn1:=List.nodup_append.1 hn
       cases i with
       | zero =>
        cases hi
        rw [List.set_cons_zero,List.flatMap_cons,hit,List.singleton_append,List.nodup_cons]
        refine ⟨fun hm=>?_,hn1.2.1⟩
        obtain ⟨jt,h1,h2⟩:=ao3 hm
        obtain ⟨j,hj⟩:=List.getElem?_of_mem h1
        exact hno (j + 1) jt hj (by omega) h2
       | succ i =>
        rw [List.set_cons_succ,List.flatMap_cons,List.nodup_append]
        refine ⟨hn1.1,ih hn1.2.1 hi ha hit fun j jt hj hne=>hno (j + 1) jt hj (by omega),fun x hx y hy e=>?_⟩
        subst e
        obtain ⟨jt,h1,h2⟩:=ao3 hy
        rcases List.mem_or_eq_of_mem_set h1 with h1 | rfl
        ·exact hn1.2.2 x hx x (List.mem_flatMap.2 ⟨jt,h1,h2⟩) rfl
        ·rw [hit,List.mem_singleton] at h2
         subst h2
         exact hno 0 b rfl (by omega) hx
     exact key hS.reg.sep hA rfl rfl hno
    ·obtain ⟨j,hj⟩:=List.getElem?_of_mem hj
     rcases hset j jt hj with ⟨_,rfl⟩ | ⟨hne,hj⟩
     ·rw [show It.foot (.own up (insK d ks) (.gs n e ((xs ++ ns).map c)) (.list (.own ⟨L + 1,d,0⟩ (S.fresh ⟨L + 1,d,0⟩)) n es) [⟨L + 1,d,0⟩]) = [⟨L + 1,d,0⟩] from rfl,List.mem_singleton] at hq
      subst hq
      simp only at hle
      omega
     ·exact hS.reg.upr jt (List.mem_of_getElem? hj) q hq hle
    ·obtain ⟨jt,h1,h2,h3⟩:=hS.reg.cov q hq
     obtain ⟨j,hj⟩:=List.getElem?_of_mem h1
     by_cases e : i = j
     ·subst e
      rw [hA] at hj; cases hj
      cases h3
     ·exact ⟨jt,List.mem_of_getElem? (i:=j) (by rw [List.getElem?_set_ne e]; exact hj),h2,h3⟩
  obtain ⟨x1,T',S',q1,q2⟩:=h _ _ _ (T.put (some d) _) _ (hc.push (a:=(none,some (0 :: insK d ks))) (f:=⟨BF.foot S T (some d) (.app s x),.slot ⟨L + 1,d,0⟩⟩) ⟨trivial,bW9 (List.mem_cons_of_mem _ hk1)⟩) (hT.put d _) hS'
  exact ⟨x1,T',S',by rw [af5,hop,hv,show (BO.ap e n bytes s x).w = true from rfl,bq5]; exact q1,q2⟩
 by_cases h0 : ns = []
 ·subst h0
  have hn0 : news = []:=List.length_eq_zero_iff.1 (by rw [hnl]; rfl)
  subst hn0
  refine stay ?_ rfl
  rcases hat with ⟨_,⟨p,rfl⟩,_⟩ | ⟨ys,rfl,_⟩ | ⟨q,k,ys,rfl,_⟩
  ·rfl
  ·exact aV7 d e n bytes _ _ _
  ·exact aV7 d e n bytes _ _ _
 ·have hpos : 0 < news.length:=by rw [hnl]; exact List.length_pos_iff.2 h0
  rcases hat with ⟨hxs,⟨p,rfl⟩,rfl⟩ | ⟨ys,rfl,hes,rfl⟩ | ⟨q,k,ys,rfl,hes,htok,rfl⟩
  ·have hxs : xs = []:=by simpa using hxs
   subst hxs
   refine made news (by simpa using k2) rfl ?_
   unfold appB
   rw [if_pos hone,if_neg (by omega)]
   simp only
   rw [if_pos (b80 hby' (by simp at hlen; omega)),aS3 hlive,e1]
  ·refine made (ys ++ news) (by rw [List.map_append]; exact hes.append k2) rfl ?_
   rw [cc1 hlive hone hpos hby' (by rw [hes.length,hnl,List.length_map]; exact hlen),List.length_append,e1]
  ·have hv:=cn9 (d0:=d) (S:=S) htok hone hpos hby' (by rw [hes.length,hnl,List.length_map]; exact hlen)
   have hS' : StA (S.set q (.tok k (ys.length + news.length) n e)) L f (A.set i (.own up (insK d ks) (.gs n e ((xs ++ ns).map c)) (.list (.own q k) n (ys ++ news)) [q])):=by
    refine hS.setI hA (p:=q) (List.mem_singleton.2 rfl) (it:=.own up (insK d ks) (.gs n e ((xs ++ ns).map c)) (.list (.own q k) n (ys ++ news)) [q]) ⟨?_,fun y hy=>(hpl y hy).mono hks⟩ rfl rfl ho (hro.imp id .inl)
    unfold AtO
    exact .inr (.inr ⟨q,k,ys ++ news,rfl,by rw [List.map_append]; exact hes.append k2,by rw [List.length_append]; exact AS.get_set_same ..,rfl⟩)
   obtain ⟨x1,T',S',q1,q2⟩:=h _ _ _ (T.put (some d) _) _ (hc.push (a:=(none,some (0 :: insK d ks))) (f:=⟨BF.foot S T (some d) (.app s x),.slot q⟩) ⟨trivial,.inr ⟨[q],rfl,by simp,fun y hy=>by
    rw [List.mem_singleton.1 hy]; exact ((hpl q (List.mem_singleton.2 rfl)).mono hks).key⟩⟩) (hT.put d _) hS'
   exact ⟨x1,T',S',by rw [af5,hop,hv,show (BO.ap e n bytes s x).w = true from rfl,bq5]; exact q1,q2⟩
end
theorem AtAs.closed {S : AS} : ∀ {rs : List RV} {l : List AV} {F : List Loc},AtAs S (rs.map OA.r) l F → RVLC rs l
 | [],l,F,h=>h.1
 | r :: rs,l,F,h=>by
  obtain ⟨a,t,F1,F2,rfl,rfl,h2,h3⟩:=h
  exact ⟨a,t,rfl,h2.1,h3.closed⟩
theorem RVLC.toS {L : Nat} : ∀ {rs : List RV} {l : List AV},RVLC rs l → RVL L rs l
 | [],l,h=>h
 | r :: rs,l,h=>by
  obtain ⟨a,t,rfl,h1,h2⟩:=h
  exact ⟨a,t,rfl,h1.toS,h2.toS⟩
theorem g_resP {x : AX} {L : Nat} {f : Fr} {E : Env} {A : List It} {br : List BR} {rs : List RV} {l : List AV} (h : ResI A E br (rs.map OA.r) l []) (hW : f.W = [] ∨ f.ro = true:=by first | exact .inl rfl | exact .inr rfl) (hx : x = .ret ∨ x = .normal:=by first | exact .inl rfl | exact .inr rfl) : G x L f E A (aQ1 L br rs):=fun T S hT hS=>by
 obtain ⟨h1,h2⟩:=ResI.at hT (fun it hi=>hS.its it hi) h fun _ h=>(nomatch h)
 exact ⟨hx,hS.dfr,hW.elim hS.out.outs hS.out.outs',l,h1,h2.closed.toS⟩
theorem cv7 {v : V} {a : AV} (h : RelC v a) : a.cells = [a]:=(h.toS (L:=0)).cells
theorem RelC.toA {n : Nat} {es : List (List V)} {a : AV} (h : RelC (.sl n es) a) : RelA n es a:=by
 unfold RelC at h
 rcases h with h | ⟨sp,ys,h1,_,h2⟩
 ·exact .inl h
 ·exact .inr ⟨sp,ys,h1,h2⟩
theorem rc1 {v : V} {a : AV} (h : RelC v a) : a.cells = [a] ∧ a.one = true:=⟨(h.toS (L:=0)).cells,(h.toS (L:=0)).one⟩
theorem RelA.cells {n : Nat} {es : List (List V)} {a : AV} (h : RelA n es a) : a.cells = [a] ∧ a.one = true:=by
 rcases h with ⟨_,p,rfl⟩ | ⟨sp,ys,rfl,_⟩ <;> exact ⟨rfl,rfl⟩
open Go.RowKit
section
variable [Cfg] {P : Program} {L : Nat} {f : Fr} {E : Env} {A B : List It} {Φ : ag1} {m : Option (List (Nat × Nat))} {acc : AAcc} {r : List BI} {d : Nat} {bf : BF}
variable {up u0 : Bool} {ks k0 : List Nat} {p : Loc} {g : Nat} {t : TypeId} {cs : List AV} {tp tb tu tz te fne fcc fws fwb fst : Nat}
end
theorem g_in {σ β ρ : Type} {L : Nat} {f : Fr} {E : Env} {A : List It} {id : Nat} {IN : σ → BT → AS → Prop} {IB : β → BT → AS → Prop} {IR : ρ → ag1} {r : ρ} (h : G .ret L f E A (IR r)) : G .ret L f E A (bb5 id IN IB IR (.ret r)):=fun T S hT hS=>⟨rfl,h T S hT hS⟩
inductive ce2 (E : Env) : List AV → List (Nat × Nat × X) → List AV → Prop where
 | nil {z z' : List AV} (h : z = z') : ce2 E z [] z'
 | cons {z ys cs : List AV} {off size : Nat} {x : X} {a : AV} {r : List (Nat × Nat × X)} (hx : opd E x = some a) (hc : a.cells = ys) (hn : ys.length = size) (hle : Nat.ble (off + size) z.length = true) (h : ce2 E (splice z off ys) r cs) : ce2 E z ((off,size,x) :: r) cs
theorem ce2.ok {E : Env} {T : BT} (hT : Ag E T) {z : List AV} {pl : List (Nat × Nat × X)} {cs : List AV} (h : ce2 E z pl cs) : aK6 T z pl = some cs:=by
 induction h with
 | nil h=>subst h; rfl
 | @cons z ys cs off size x a r hx hc hn hle h ih =>
  rw [br9 z off size x r (by rw [hT.at hx,hc]; exact hn) (ag3 hle),hT.at hx,hc]
  exact ih
section
variable [Cfg] {P : Program} {L : Nat} {f : Fr} {E : Env} {A : List It} {Φ : ag1} {m : Option (List (Nat × Nat))} {acc : AAcc} {r : List BI} {d : Nat}
theorem s_bdX {z cs : List AV} {pl : List (Nat × Nat × X)} (hp : ce2 E z pl cs) : Stp P L f E A d .none (.bd z pl) af0 (fun u=>u = .agg cs) :=
 aL6 fun T S hT=>by simp only [bop,hp.ok hT,Option.map_some]
theorem g_guaT {o : BO} {bf : BF} {dd : Option Nat} {t : Nat} {w : Bool} {u : AV} (ht : look E t = some u) (hw : cc9 w u = true) (h : GO1 P m acc (⟨dd,none,bf,o⟩ :: r) L f E A Φ) : GO1 P m acc (⟨dd,some (t,w),bf,o⟩ :: r) L f E A Φ:=by
 intro c T S hc hT hS
 have e : aF8 T (some (t,w)) = true:=by rw [aG4,hT t u ht,hw]
 obtain ⟨x,T',S',k1,k2⟩:=h c T S hc hT hS
 refine ⟨x,T',S',?_,k2⟩
 rw [bF6,e,ce4]
 exact k1
theorem g_guaF {o : BO} {bf : BF} {t : Nat} {w : Bool} {u : AV} (ht : look E t = some u) (hw : cc9 w u = false) (h : GO1 P m (accP acc af0) r L f ((d,.lit undef) :: E) A Φ) : GO1 P m acc (⟨some d,some (t,w),bf,o⟩ :: r) L f E A Φ:=by
 intro c T S hc hT hS
 have e : aF8 T (some (t,w)) = false:=by rw [aG4,hT t u ht,hw]
 obtain ⟨x,T',S',k1,k2⟩:=h _ (T.put (some d) (.lit undef)) S (hc.push (a:=af0) (f:=⟨.none,.none⟩) ⟨.inl rfl,.inl rfl⟩) (hT.put d _) hS
 refine ⟨x,T',S',?_,k2⟩
 rw [bF6,e,b05]
 exact k1
end
theorem cC9 {x : AX} {L : Nat} {f : Fr} {E : Env} {A : List It} {Φ : ag1} {i n : Nat} {e : TypeId} {es : List (List V)} {a : AV} {F : List Loc} {up : Bool} {ks : List Nat} (hA : A[i]? = some (.own up ks (.gs n e es) a F)) (h : RelS (L + 1) (.sl n es) a → G x L f E A Φ) (hW : f.W = [] ∨ up = false:=by first | exact .inl rfl | exact .inr rfl) : G x L f E A Φ:=fun T S hT hS=>by
 refine h ?_ T S hT hS
 have hm:=List.mem_of_getElem? hA
 obtain ⟨h1,h2⟩:=hS.its _ hm
 unfold AtO at h1
 rcases h1 with ⟨h3,h4,_⟩ | ⟨ys,rfl,h4,_⟩ | ⟨q,k,ys,rfl,h4,h5,rfl⟩
 ·exact .inl ⟨h3,h4⟩
 ·exact .inr ⟨_,ys,rfl,.inl rfl,h4⟩
 ·refine .inr ⟨_,ys,rfl,.inr ⟨q,k,rfl,?_⟩,h4⟩
  have hq : q ∈ It.foot (.own up ks (.gs n e es) (.list (.own q k) n ys) [q]):=List.mem_singleton.2 rfl
  rcases h2 q (List.mem_singleton.2 rfl) with h | h | h
  ·have:=hS.reg.upr _ hm q hq (by omega)
   rcases hW with e | e
   ·rw [e] at this; cases this.2
   ·rw [show It.up _ = up from rfl,e] at this; cases this.1
  ·exact h.1
  ·exact h.1
inductive ResS (L : Nat) (A : List It) (E : Env) : List BR → List RV → List AV → Prop
 | nil : ResS L A E [] [] []
 | t {n : Nat} {a : AV} {v : RV} {b : List BR} {r : List RV} {t : List AV} (hx : look E n = some a) (hv : v.S (L + 1) a) (h : ResS L A E b r t) : ResS L A E (.t n :: b) (v :: r) (a :: t)
 | c1 {n i g : Nat} {p : Loc} {cs : List AV} {a : AV} {v : RV} {b : List BR} {r : List RV} {t : List AV} (hx : look E n = some (.ptr p g 0 0)) (hA : cu7 A i p g cs) (hc : cs[0]? = some a) (hv : v.S (L + 1) a) (h : ResS L A E b r t) : ResS L A E (.c1 n :: b) (v :: r) (a :: t)
 | cn {n m i g : Nat} {p : Loc} {cs : List AV} {M : List V} {b : List BR} {r : List RV} {t : List AV} (hx : look E n = some (.ptr p g 0 0)) (hA : cu7 A i p g cs) (hM : aF4 (L + 1) M cs) (hm : M.length = m) (h : ResS L A E b r t) : ResS L A E (.cn n m :: b) (.agg M :: r) (.agg cs :: t)
theorem ResS.at {L : Nat} {A0 : List It} {E : Env} {T : BT} {S : AS} (hT : Ag E T) (h0 : ∀ it ∈ A0,it.ok S (L + 1)) {br : List BR} {rs : List RV} {l : List AV} (h : ResS L A0 E br rs l) : az2 S T br = some l ∧ RVL (L + 1) rs l:=by
 induction h with
 | nil=>exact ⟨rfl,rfl⟩
 | @t n a v b r t hx hv h ih =>
  refine ⟨?_,a,t,rfl,hv,ih.2⟩
  rw [an9,ih.1,bG2,hT n a hx]
  rfl
 | @c1 n i g p cs a v b r t hx hA0 hc hv h ih =>
  obtain ⟨u,ks,ty,hA0⟩:=hA0
  refine ⟨?_,a,t,rfl,hv,ih.2⟩
  rw [an9,ih.1,ce0,hT n _ hx]
  rw [bj7 (h0 _ (List.mem_of_getElem? hA0)).1 hc]
  rfl
 | @cn n m i g p cs M b r t hx hA0 hM hm h ih =>
  obtain ⟨u,ks,ty,hA0⟩:=hA0
  refine ⟨?_,_,t,rfl,⟨cs,rfl,hM⟩,ih.2⟩
  have hl : cs.length = m:=by rw [hM.length,hm]
  rw [an9,ih.1,cg2,hT n _ hx]
  rw [ba9 (h0 _ (List.mem_of_getElem? hA0)).1,if_pos (by simp [hl]),List.drop_zero,List.take_of_length_le (by omega)]
  rfl
theorem g_resS {x : AX} {L : Nat} {f : Fr} {E : Env} {A : List It} {br : List BR} {rs : List RV} {l : List AV} (h : ResS L A E br rs l) (hW : f.W = [] ∨ f.ro = true:=by first | exact .inl rfl | exact .inr rfl) (hx : x = .ret ∨ x = .normal:=by first | exact .inl rfl | exact .inr rfl) : G x L f E A (aQ1 L br rs):=fun T S hT hS=>by
 obtain ⟨h1,h2⟩:=ResS.at hT (fun it hi=>hS.its it hi) h
 exact ⟨hx,hS.dfr,hW.elim hS.out.outs hS.out.outs',l,h1,h2⟩
section
variable [Cfg] {P : Program} {L : Nat} {f : Fr} {E : Env} {A : List It} {Φ : ag1} {m : Option (List (Nat × Nat))} {acc : AAcc} {r : List BI} {d : Nat}
variable {up : Bool} {ks : List Nat} {k g : Nat} {t : TypeId} {cs : List AV}
theorem s_ldQ {x : X} {i off : Nat} {a : AV} (hx : opd E x = some (.ptr ⟨L + 1,k,0⟩ g 0 off)) (hA : A[i]? = some (.cel up ks ⟨L + 1,k,0⟩ g t cs)) (hc : cs[off]? = some a) : Stp P L f E A d (.at x) (.ld1 x) (some [k],some []) (fun u=>u = a):=by
 refine aJ5 (fun T S hT hS=>⟨a,?_,rfl⟩) (fun T S hT hS=>⟨cH9 (S:=S) (d:=some d) hT hx,.inl rfl⟩)
 simp only [bop,hT.at hx]
 rw [bj7 (hS.its _ (List.mem_of_getElem? hA)).1 hc]
 rfl
theorem s_ldnQ {x : X} {i off n : Nat} {N : List AV} (hx : opd E x = some (.ptr ⟨L + 1,k,0⟩ g 0 off)) (hA : A[i]? = some (.cel up ks ⟨L + 1,k,0⟩ g t cs)) (hn : Nat.ble (off + n) cs.length = true) (hN : (cs.drop off).take n = N) : Stp P L f E A d (.at x) (.ldn n x) (some [k],some []) (fun u=>u = .agg N):=by
 subst hN
 refine aJ5 (fun T S hT hS=>⟨_,?_,rfl⟩) (fun T S hT hS=>⟨cH9 (S:=S) (d:=some d) hT hx,.inl rfl⟩)
 have:=ag3 hn
 simp only [bop,hT.at hx]
 rw [ba9 (hS.its _ (List.mem_of_getElem? hA)).1,if_pos (by rw [List.length_drop]; omega)]
 rfl
theorem g_stQ {x v : X} {i off n : Nat} {b : AV} {cs' : List AV} (hx : opd E x = some (.ptr ⟨L + 1,k,0⟩ g 0 off)) (hv : opd E v = some b) (hA : A[i]? = some (.cel up ks ⟨L + 1,k,0⟩ g t cs)) (hn : b.cells.length = n) (hone : b.cells.all AV.one = true) (hco : ∀ a ∈ b.cells,Co (L + 1) a) (hle : Nat.ble (off + n) cs.length = true) (hcs : splice cs off b.cells = cs')
  (ho : (A.all fun jt=>okO ks jt) = true) (h : GO1 P m (accP acc (some [k],some [k])) r L f E (A.set i (.cel up ks ⟨L + 1,k,0⟩ g t cs')) Φ) : GO1 P m acc (⟨none,none,.at x,.st n x v⟩ :: r) L f E A Φ:=by
 intro c T S hc hT hS
 subst hcs
 have hit:=hS.its _ (List.mem_of_getElem? hA)
 have hle':=ag3 hle
 have hst:=bu8 (n:=n) (xs:=b.cells) hit.1 hn (off:=off) (by rw [hn]; exact hle') hone
 have hS' : StA (S.set ⟨L + 1,k,0⟩ (.obj g t (splice cs off b.cells))) L f (A.set i (.cel up ks ⟨L + 1,k,0⟩ g t (splice cs off b.cells))) :=
  hS.setI hA (p:=⟨L + 1,k,0⟩) (List.mem_singleton.2 rfl) (it:=.cel up ks ⟨L + 1,k,0⟩ g t (splice cs off b.cells)) ⟨AS.get_set_same ..,hit.2.1,fun a ha=>(aE9 ha).elim (hit.2.2 a) (hco a)⟩ rfl rfl ho (.inr (.inr (Nat.lt_succ_self L)))
 obtain ⟨x1,T',S',q1,q2⟩:=h _ (T.put none (.lit undef)) _ (hc.push (a:=(some [k],some [k])) (f:=⟨BF.foot S T none (.at x),.slot ⟨L + 1,k,0⟩⟩) ⟨cH9 (S:=S) (d:=none) hT hx,bW9 (List.mem_singleton.2 rfl)⟩) hT hS'
 refine ⟨x1,T',S',?_,q2⟩
 have hop : bop P S T none (.st n x v) = some (.chg (.lit undef) ⟨L + 1,k,0⟩ (.obj g t (splice cs off b.cells))):=by
  simp only [bop,hT.at hx,hT.at hv]
  rw [hst]
  rfl
 rw [af5,hop,show (BO.st n x v).w = true from rfl,bq5]
 exact q1
end
open Go.RowKit
structure TaF (P : Program) (t : TypeId) (zs : List AV) : Prop where
 und : ∃ d,P.underlying t = some d ∧ aE6 d = false
 zero : ∃ i z,P.info? t = some i ∧ i.zero = some z ∧ AV.ofV1 z = .agg zs
def TaV (t : TypeId) (Z : List V) (v : V) (M : List V) (b : Bool) : Prop:=(v = .nili ∧ M = Z ∧ b = false) ∨ ∃ s cs,v = .ifc s true cs ∧ ((s = t ∧ M = cs ∧ b = true) ∨ (s ≠ t ∧ M = Z ∧ b = false))
section
variable [Cfg] {P : Program} {L : Nat} {f : Fr} {E : Env} {A : List It} {d : Nat}
theorem s_ta {x : Operand} {it t ty : TypeId} {a : AV} {Z : List V} {v : V} {M : List V} {b : Bool} {zs : List AV} (hF : TaF P t zs) (hZ : ab1 Z zs) (hx : opd E (af1 x) = some a) (hr : RelC v a) (hv : TaV t Z v M b) : Stp P L f E A d .none (.gen (.typeAssert x it t true) ty) af0 (fun u=>∃ cs,u = .tup [.agg cs,.lit (.bool b)] ∧ ab1 M cs):=by
 refine aN7 fun T S hT=>?_
 have hxa : aevF T x = a:=hT.at hx
 obtain ⟨dd,hd,hi⟩:=hF.und
 obtain ⟨inf,z,h1,h2,h3⟩:=hF.zero
 rcases hv with ⟨rfl,rfl,rfl⟩ | ⟨s,cs,rfl,⟨rfl,rfl,rfl⟩ | ⟨hne,rfl,rfl⟩⟩
 ·unfold RelC at hr
  subst hr
  refine ⟨_,?_,zs,rfl,hZ⟩
  have e0 : ∃ z',z = .agg z' ∧ zs = z'.toList.map .lit:=by
   cases z with
   | agg z'=>exact ⟨z',rfl,by simp only [AV.ofV1,AV.agg.injEq] at h3; exact h3.symm⟩
   | _=>cases h3
  obtain ⟨z',rfl,e1⟩:=e0
  have e2 : aa3 P (Instr.typeAssert .nilIface it t true) = some (.tuple #[.agg z',.bool false]):=by
   unfold Instr.typeAssert
   simp only [aa7,ah9 hd,Option.bind_some]
   have : aa3 P (zeroValue t) = some (.agg z'):=by
    unfold zeroValue typeInfo
    simp only [aa7]
    show (Option.bind (aa3 P (match P.info? t with | some i=>pure i | none=>stuck _)) _) = _
    rw [h1]
    show aa3 P (match inf.zero with | some v=>pure v | none=>_) = _
    rw [h2]
    rfl
   cases dd <;> first | (simp [aE6] at hi; done) | (simp only [if_true,aa7,this,Option.bind_some]; rfl)
  have : bop P S T (some d) (.gen (.typeAssert x it t true) ty) = some (.val (AV.ofV (.tuple #[.agg z',.bool false]))):=by
   simp only [bop,aop,hxa,bs8,Option.map_none,an7]
   refine ay0 rfl (by simp [Op.operands,hxa,AV.toV]) ?_
   show aa3 P (do pure (Next.value (← Instr.typeAssert (((aevF T x).toV).getD undef) it t true)) : Sem Next) = _
   rw [hxa]
   exact as4 e2
  rw [this,e1]
  rfl
 ·unfold RelC at hr
  obtain ⟨ys,h4,⟨_,rfl⟩ | ⟨hb,_⟩⟩:=hr
  ·refine ⟨_,?_,ys,rfl,h4⟩
   simp only [bop,aop,hxa,bs8,hd,hi,Bool.false_eq_true,if_false,if_true,Option.map_some,an7]
  ·cases hb
 ·unfold RelC at hr
  obtain ⟨ys,h4,⟨_,rfl⟩ | ⟨hb,_⟩⟩:=hr
  ·refine ⟨_,?_,zs,rfl,hZ⟩
   simp only [bop,aop,hxa,bs8,hd,hi,Bool.false_eq_true,if_false,if_true,if_neg hne,h1,h2,Option.bind_some,Option.map_some,an7,h3]
  ·cases hb
end
def RVN (rs : List RV) (args : List AV) : Prop:=RVLC rs (args.map AV.ac1)
theorem RVLC.len : ∀ {rs : List RV} {l : List AV},RVLC rs l → l.length = rs.length
 | [],l,h=>by cases h; rfl
 | r :: rs,l,h=>by
  obtain ⟨a,t,rfl,_,h⟩:=h
  simp [h.len]
theorem RelA.nrm {n : Nat} {es : List (List V)} {a : AV} (h : RelA n es a) : RelC (.sl n es) a.as6:=by
 rcases h with ⟨rfl,p,rfl⟩ | ⟨sp,ys,rfl,h⟩
 ·exact RelC.nil n p
 ·exact RelC.list rfl h
theorem RelA.nrmA {n : Nat} {es : List (List V)} {a : AV} (h : RelA n es a) : RV.C (.sl n es) a.ac1:=by
 rcases h with ⟨rfl,p,rfl⟩ | ⟨sp,ys,rfl,h⟩
 ·exact RelC.nil n p
 ·exact RelC.list rfl h
theorem RV.C.nrmA {r : RV} {a : AV} (h : r.C a) : r.C a.ac1:=(h.toS (L:=0)).norm
section
variable [Cfg] {P : Program}
omit [Cfg] in
theorem bU6 [Cfg] {S S' : AS} {T : BT} {g : FuncId} {res : List BR} {x : AX} (hx : x = .ret ∨ x = .normal) (hd : S'.dfr = []) : bfin g res S (some (x,T,S')) = bret g S S' (az2 S' T res):=by
 rcases hx with rfl | rfl
 ·exact bo6 hd
 ·exact bj8 hd
theorem bC7 {f : FuncId} {b : BFn} {args : List AV} {rsA rs : List RV} (hg : Cfg.given f = none) (hf : ak2 P f = some b) (hup : ∀ h,Cfg.up f h = false) (hn : Nat.ble rsA.length b.nt = true) (hsz : Nat.ble (rs.length + (rs.map RV.size).sum + 5) 100000 = true)
  (h : ∀ L as1,RVLC rsA as1 → GC P b.code L f (numE 0 as1) [] (aQ1 L b.res rs)) (ha : RVN rsA args) : CallR P f args (ResC rs):=by
 intro S args0 he
 replace ha : RVN rsA args0:=by unfold RVN; rw [he]; exact ha
 clear he
 revert ha
 generalize args0 = args
 intro ha
 obtain ⟨x,T',S',h1,h2,h3,h4,as1,h5,h6⟩:=h S.lvl (args.map AV.ac1) ha (aC5 (args.map AV.ac1)) (S.enter f) (Ag.args _) ⟨rfl,rfl,rfl,FrOk.enter f (.inl rfl),fun _ hi=>(nomatch hi),RegA.none rfl⟩
 obtain ⟨v,k1,k2⟩:=cD1 S' h6 (ag3 hsz)
 have hl : args.length = rsA.length:=by have:=ha.len; rwa [List.length_map] at this
 refine ⟨v,a97 hg hf (by rw [hl]; exact ag3 hn) ?_,k2⟩
 rw [bt4 (hup _),h1,bU6 h2 h3,h5]
 unfold bret
 simp only
 rw [aM3 (hup _) h4,k1]
 rfl
omit [Cfg] in
theorem RV.C.closed {r : RV} {a : AV} (h : r.C a) : a.closed = true:=by
 cases r with
 | int k n=>cases h; rfl
 | bool b=>cases h; rfl
 | str l=>cases h; rfl
 | sl sz es=>exact RelC.closed h
 | v x=>exact RelC.closed h
 | agg M=>obtain ⟨cs,rfl,h⟩:=h; simp only [AV.closed]; exact ab1.closed h
omit [Cfg] in
theorem RVLC.closed : ∀ {rs : List RV} {l : List AV},RVLC rs l → AV.ac4 l = true
 | [],l,h=>by cases h; rfl
 | r :: rs,l,h=>by
  obtain ⟨a,t,rfl,h1,h2⟩:=h
  simp only [AV.ac4,h1.closed,RVLC.closed h2,Bool.and_self]
variable {L : Nat} {f : Fr} {E : Env} {A : List It} {d : Nat}
theorem s_miN {x : X} {zs : List AV} {M : List V} {t : TypeId} {v : V} (hx : opd E x = some (.agg zs)) (hM : ab1 M (zs.map AV.as6)) (hv : V.ifc t true M = v) : Stp P L f E A d .none (.mi t x) af0 (fun u=>RelC v u):=by
 subst hv
 exact aN7 fun T S hT=>⟨.iface t (.agg (zs.map AV.as6)),by simp only [bop,hT.at hx,AV.ac1],by unfold RelC; exact ⟨_,hM,.inl ⟨rfl,rfl⟩⟩⟩
end
open Go.RowKit
theorem bp9 {α : Type} {n : Nat} : ∀ {ys : List (List α)},(∀ y ∈ ys,y.length = n) → ys.flatten.length = ys.length * n
 | [],_=>by simp
 | y :: r,h=>by
  rw [List.flatten_cons,List.length_append,h y (List.mem_cons_self ..),bp9 fun z hz=>h z (List.mem_cons_of_mem _ hz),List.length_cons,Nat.succ_mul]
  omega
theorem bA5 {n : Nat} : ∀ {ys : List (List AV)} {j k : Nat} {y zs : List AV},(∀ y ∈ ys,y.length = n) → ys[j]? = some y → k + zs.length ≤ n → splice ys.flatten (j * n + k) zs = (ys.set j (splice y k zs)).flatten
 | [],_,_,_,_,_,h,_=>by cases h
 | x :: r,0,k,y,zs,h,hj,hk=>by
  have hy:=h x (List.mem_cons_self ..)
  cases hj
  simp only [Nat.zero_mul,Nat.zero_add,List.set_cons_zero,List.flatten_cons]
  unfold splice
  rw [List.take_append_of_le_length (by omega),List.drop_append_of_le_length (by omega)]
  simp only [List.append_assoc]
 | x :: r,j + 1,k,y,zs,h,hj,hk=>by
  have hy:=h x (List.mem_cons_self ..)
  have ih:=bA5 (ys:=r) (j:=j) (k:=k) (zs:=zs) (fun z hz=>h z (List.mem_cons_of_mem _ hz)) hj hk
  simp only [List.set_cons_succ,List.flatten_cons]
  rw [← ih]
  have e1 : (j + 1) * n + k = x.length + (j * n + k):=by rw [hy,Nat.succ_mul]; omega
  unfold splice
  rw [e1,List.take_append,List.drop_append]
  simp only [Nat.add_sub_cancel_left,List.append_assoc]
  rw [List.take_of_length_le (by omega),List.drop_eq_nil_of_le (by omega),List.nil_append]
  congr 4
  omega
theorem ab8.lens {n : Nat} : ∀ {es : List (List V)} {ys : List (List AV)},ab8 es ys → (∀ y ∈ es,y.length = n) → ∀ y ∈ ys,y.length = n
 | [],ys,h,_=>by unfold ab8 at h; subst h; exact fun y hy=>(nomatch hy)
 | e :: r,ys,h,hl=>by
  unfold ab8 at h
  obtain ⟨a,t,rfl,h1,h2⟩:=h
  intro y hy
  rcases List.mem_cons.1 hy with rfl | hy
  ·rw [h1.length]; exact hl e (List.mem_cons_self ..)
  ·exact h2.lens (fun z hz=>hl z (List.mem_cons_of_mem _ hz)) y hy
theorem ab8.set : ∀ {es : List (List V)} {ys : List (List AV)} {j : Nat} {e : List V} {y : List AV},ab8 es ys → ab1 e y → ab8 (es.set j e) (ys.set j y)
 | [],ys,j,e,y,h,_=>by unfold ab8 at h; subst h; unfold ab8; rfl
 | x :: r,ys,0,e,y,h,h'=>by
  unfold ab8 at h
  obtain ⟨a,t,rfl,h1,h2⟩:=h
  show ab8 (e :: r) (y :: t)
  unfold ab8
  exact ⟨y,t,rfl,h',h2⟩
 | x :: r,ys,j + 1,e,y,h,h'=>by
  unfold ab8 at h
  obtain ⟨a,t,rfl,h1,h2⟩:=h
  show ab8 (x :: r.set j e) (a :: t.set j y)
  unfold ab8
  exact ⟨a,_,rfl,h1,h2.set h'⟩
theorem idx_at {α : Type} {xs : List α} {j : Int} {el : α} (h : G.idx xs j = some el) : xs[j.toNat]? = some el:=by
 unfold G.idx at h
 split at h
 ·exact h
 ·cases h
section
variable [Cfg] {P : Program} {L : Nat} {f : Fr} {E : Env} {A B : List It} {Φ : ag1} {m : Option (List (Nat × Nat))} {acc : AAcc} {r : List BI} {d : Nat} {bf : BF}
variable {up xr : Bool} {ks : List Nat} {n : Nat} {e : TypeId} {α : Type} {c : α → List V} {xs : List α} {F : List Loc}
theorem g_iaR {x y : X} {a : AV} {i : Nat} {k : IntKind} {j : Int} {el : α} (hA : A[i]? = some (.own up ks (.rw xr n e (xs.map c)) a F)) (hx : opd E x = some a) (hi : opd E y = some (.lit (.int k j))) (he : G.idx xs j = some el)
  (h : ∀ q g N M,a = .row .room q g N 0 M n → GO1 P m (accP acc af0) r L f ((d,.ptr q g N (j.toNat * n)) :: E) A Φ) : GO1 P m acc (⟨some d,none,.none,.ia n x y⟩ :: r) L f E A Φ:=by
 intro cc T S hc hT hS
 have h1:=(hS.its _ (List.mem_of_getElem? hA)).1
 unfold AtO at h1
 unfold G.idx at he
 split at he
 case isFalse=>cases he
 rename_i h0
 have hlt:=(List.getElem?_eq_some_iff.1 he).1
 rcases h1 with ⟨h2,_⟩ | ⟨q,g,ys,zs,rfl,h2,h3,rfl⟩
 ·have : xs = []:=by simpa using h2
  subst this
  simp at hlt
 ·have hl : ys.length = xs.length:=by rw [h2.1.length,List.length_map]
  obtain ⟨x1,T',S',q1,q2⟩:=h q g (ys.length + zs.length) ys.length rfl _ (T.put (some d) _) S (hc.push (a:=af0) (f:=⟨BF.foot S T (some d) .none,.none⟩) ⟨.inl rfl,.inl rfl⟩) (hT.put d _) hS
  refine ⟨x1,T',S',?_,q2⟩
  have hop : bop P S T (some d) (.ia n x y) = some (.val (.ptr q g (ys.length + zs.length) (j.toNat * n))):=by
   simp only [bop,hT.at hx,hT.at hi,iaV]
   rw [if_pos ⟨h0,trivial,by rw [hl]; exact hlt⟩,Nat.zero_add]
   rfl
  rw [af5,hop,bo4]
  exact q1
theorem g_stR {x v : X} {i o j k w N M : Nat} {q : Loc} {g : Nat} {el el' : α} {b : AV} {Xs : List V} (hA : A[i]? = some (.own up ks (.rw xr n e (xs.map c)) (.row .room q g N 0 M n) F)) (hx : opd E x = some (.ptr q g N o)) (hv : opd E v = some b) (ho : o = j * n + k) (he : xs[j]? = some el) (hX : ab1 Xs b.cells) (hw : Xs.length = w) (hk : Nat.ble (k + w) n = true) (hel : bR7 (c el) k Xs = c el')
  (hoo : (A.all fun jt=>okO ks jt) = true) (h : GO1 P m (accP acc (some (0 :: ks),some (0 :: ks))) r L f E (A.set i (.own up ks (.rw xr n e ((xs.set j el').map c)) (.row .room q g N 0 M n) F)) Φ) (hro : f.ro = false ∨ up = false:=by first | exact .inl rfl | exact .inr rfl) : GO1 P m acc (⟨none,none,.at x,.st w x v⟩ :: r) L f E A Φ:=by
 intro cc T S hc hT hS
 subst ho hw
 have hm:=List.mem_of_getElem? hA
 obtain ⟨h1,hpl⟩:=hS.its _ hm
 unfold AtO at h1
 rcases h1 with ⟨h0,_⟩ | ⟨q',g',ys,zs,h2,h3,h4,rfl⟩
 ·have : xs = []:=by simpa using h0
  subst this
  cases he
 ·injection h2 with _ e1 e2 e3 _ e4
  subst e1 e2
  have hy:=h3.1.lens h3.2.1
  obtain ⟨y,k1,k2⟩:=h3.1.get (i:=j) (v:=c el) (by rw [List.getElem?_map,he]; rfl)
  have hk':=ag3 hk
  have hbl : b.cells.length = Xs.length:=ab1.length hX
  have hjl : j < ys.length:=(List.getElem?_eq_some_iff.1 k1).1
  have hyz : ∀ z ∈ ys ++ zs,z.length = n:=fun z hz=>(List.mem_append.1 hz).elim (hy z) (h3.2.2.2.1 z)
  have hsp:=bA5 (zs:=b.cells) hyz ((List.getElem?_append_left hjl).trans k1) (by rw [hbl]; exact hk')
  rw [List.set_append_left _ _ hjl] at hsp
  have hfl:=bp9 hyz
  rw [List.length_append] at hfl
  have hyl : y.length = n:=hy y (List.mem_of_getElem? k1)
  have hle : j * n + k + b.cells.length ≤ (ys ++ zs).flatten.length:=by
   rw [hfl,hbl]
   have : (j + 1) * n ≤ (ys.length + zs.length) * n:=Nat.mul_le_mul_right n (by omega)
   rw [Nat.succ_mul] at this
   omega
  have hst : stV Xs.length S b.cells (.ptr q g N (j * n + k)) = some (q,.row g (ys.length + zs.length) n e (ys.set j (splice y k b.cells) ++ zs).flatten):=by
   simp only [stV,AS.write,AS.ai0,h4,e3,and_self,if_true]
   rw [if_pos hbl,if_pos ⟨hle,ab1.ones hX⟩,hsp]
   rfl
  have hel2 : ab1 (c el') (splice y k b.cells):=by rw [← hel]; exact k2.spl k hX
  have hS' : StA (S.set q (.row g (ys.length + zs.length) n e (ys.set j (splice y k b.cells) ++ zs).flatten)) L f (A.set i (.own up ks (.rw xr n e ((xs.set j el').map c)) (.row .room q g N 0 M n) [q])):=by
   refine hS.setI hA (p:=q) (List.mem_singleton.2 rfl) ⟨?_,hpl⟩ rfl rfl hoo (hro.imp id .inl)
   unfold AtO
   refine .inr ⟨q,g,ys.set j (splice y k b.cells),zs,?_,⟨?_,fun z hz=>?_,h3.2.2.1,h3.2.2.2.1,h3.2.2.2.2.1,?_⟩,?_,rfl⟩
   ·simp only [List.length_set]; rw [e3,e4]
   ·rw [List.map_set]; exact h3.1.set hel2
   ·rw [List.map_set] at hz
    rcases List.mem_or_eq_of_mem_set hz with hz | rfl
    ·exact h3.2.1 z hz
    ·have:=hel2.length
     rw [← this]
     unfold splice
     simp only [List.length_append,List.length_take,List.length_drop,hyl,hbl]
     omega
   ·intro e0
    have : xs.set j el' = []:=by simpa using e0
    have : (xs.set j el').length = 0:=by rw [this]; rfl
    rw [List.length_set] at this
    have:=(List.getElem?_eq_some_iff.1 he).1
    omega
   ·rw [List.length_set]; exact AS.get_set_same ..
  obtain ⟨x1,T',S',q1,q2⟩:=h _ (T.put none (.lit undef)) _ (hc.push (a:=(some (0 :: ks),some (0 :: ks))) (f:=⟨BF.foot S T none (.at x),.slot q⟩) ⟨.inr ⟨[q],by show ae8 (x.at T) = _; rw [hT.at hx]; rfl,by simp,fun z hz=>by rw [List.mem_singleton.1 hz]; exact (hpl q (List.mem_singleton.2 rfl)).key⟩,.inr ⟨[q],rfl,by simp,fun z hz=>by rw [List.mem_singleton.1 hz]; exact (hpl q (List.mem_singleton.2 rfl)).key⟩⟩) hT hS'
  refine ⟨x1,T',S',?_,q2⟩
  have hop : bop P S T none (.st Xs.length x v) = some (.chg (.lit undef) q (.row g (ys.length + zs.length) n e (ys.set j (splice y k b.cells) ++ zs).flatten)):=by
   simp only [bop,hT.at hx,hT.at hv]
   rw [hst]
   rfl
  rw [af5,hop,show (BO.st Xs.length x v).w = true from rfl,bq5]
  exact q1
end
open Go.RowKit
abbrev Mp.o {K β : Type} (κ : K → Value) (χ : β → V) (m : List (K × β)) : OV:=.mp (m.map fun p=>κ p.1) (m.map fun p=>.c (χ p.2))
section
variable [Cfg] {P : Program} {L : Nat} {f : Fr} {E : Env} {A B : List It} {Φ : ag1} {m : Option (List (Nat × Nat))} {acc : AAcc} {r : List BI} {d : Nat} {bf : BF}
variable {up : Bool} {ks : List Nat} {K β : Type} [DecidableEq K] {κ : K → Value} {χ : β → V} {M : List (K × β)} {F : List Loc} {t kt vt ty : TypeId}
omit [DecidableEq K] in
theorem g_mkM (hf : (A.all fun jt=>jt.free d) = true) (h : ∀ g,GO1 P m (accP acc (some [d],some [d])) r L f ((d,.mref ⟨L + 1,d,0⟩ g) :: E) (.own false [d] (Mp.o κ χ []) (.mref ⟨L + 1,d,0⟩ g) [⟨L + 1,d,0⟩] :: A) Φ) : GO1 P m acc (⟨some d,none,.here,.gen (.makeMap t none) ty⟩ :: r) L f E A Φ:=by
 intro c T S hc hT hS
 have e1 : S.here d = ⟨L + 1,d,0⟩:=by rw [bu6,hS.lvl]
 refine cA6 (v:=.mref ⟨L + 1,d,0⟩ (S.fresh ⟨L + 1,d,0⟩)) (s:=.map (S.fresh ⟨L + 1,d,0⟩) [] 0) (by simp only [bop,aop,e1]) rfl hc (bz3 hS) (hT.put d _) (hS.push hf (it:=.own false [d] (Mp.o κ χ []) _ [⟨L + 1,d,0⟩]) (.inl rfl) ⟨?_,fun q hq=>by rw [List.mem_singleton.1 hq]; exact Pl.own _ _⟩) (h _)
 unfold AtO
 exact ⟨_,_,[],0,[],rfl,rfl,AS.get_set_same ..,rfl,List.nodup_nil,fun e he=>(nomatch he),by unfold AtL; exact ⟨rfl,rfl⟩⟩
end
section
variable [Cfg] {P : Program} {L : Nat} {f : Fr} {E : Env} {A B : List It} {Φ : ag1} {m : Option (List (Nat × Nat))} {acc : AAcc} {r : List BI} {d : Nat} {bf : BF}
def CoL (l : Nat) : List AV → Prop
 | []=>True
 | a :: r=>Co l a ∧ CoL l r
omit [Cfg] in
theorem CoL.mem {l : Nat} : ∀ {cs : List AV},CoL l cs → ∀ a ∈ cs,Co l a
 | _ :: _,h,a,ha=>by
  rcases List.mem_cons.1 ha with rfl | ha
  ·exact h.1
  ·exact CoL.mem h.2 a ha
theorem g_bxO {e : TypeId} {x : X} {a : AV} {cs : List AV} (hx : opd E x = some a) (hcs : a.cells = cs) (hcl : CoL (L + 1) cs) (hf : (A.all fun jt=>jt.free d) = true) (h : ∀ g,GO1 P m (accP acc (some [d],some [d])) r L f ((d,.ptr ⟨L + 1,d,0⟩ g 0 0) :: E) (.cel false [d] ⟨L + 1,d,0⟩ g e cs :: A) Φ) : GO1 P m acc (⟨some d,none,.here,.bx e x⟩ :: r) L f E A Φ:=by
 subst hcs
 intro c T S hc hT hS
 have e1 : S.here d = ⟨L + 1,d,0⟩:=by rw [bu6,hS.lvl]
 exact cA6 (v:=.ptr ⟨L + 1,d,0⟩ (S.fresh ⟨L + 1,d,0⟩) 0 0) (s:=.obj (S.fresh ⟨L + 1,d,0⟩) e a.cells) (by simp only [bop,e1,hT.at hx]) rfl hc (bz3 hS) (hT.put d _) (hS.push hf (it:=.cel false [d] ⟨L + 1,d,0⟩ _ e a.cells) (.inl rfl) ⟨AS.get_set_same ..,Pl.own _ _,hcl.mem⟩) (h _)
end
def oneO : OV → Bool
 | .mp _ _=>true
 | .ptr _ _=>true
 | o=>cw4 o
theorem cm1 {S : AS} {p : Loc} {g i : Nat} {o : OV} {a : AV} {F : List Loc} (h : AtO S p g i o a F) (ho : oneO o = true) : a.cells = [a] ∧ a.one = true:=by
 have gs : ∀ {n e es F},Gs S n e es a F → a.cells = [a] ∧ a.one = true:=fun h=>h.relA.cells
 cases o with
 | gs n e es=>unfold AtO at h; exact gs h
 | li n e es =>
  unfold AtO at h
  rcases h with h | ⟨_,rfl,_⟩
  ·exact gs h
  ·exact ⟨rfl,rfl⟩
 | rw x n e es =>
  unfold AtO at h
  rcases h with ⟨_,h⟩ | ⟨_,_,_,_,rfl,_⟩
  ·exact gs h
  ·exact ⟨rfl,rfl⟩
 | it s pos =>
  unfold AtO at h
  obtain ⟨_,_,rfl,_⟩:=h
  exact ⟨rfl,rfl⟩
 | mp ks vs =>
  unfold AtO at h
  obtain ⟨_,_,_,_,_,rfl,_⟩:=h
  exact ⟨rfl,rfl⟩
 | ptr t os =>
  unfold AtO at h
  obtain ⟨_,_,_,_,rfl,_⟩:=h
  exact ⟨rfl,rfl⟩
 | _=>cases ho
open Go.RowKit
def CallQ [Cfg] (P : Program) (f : FuncId) (ins : List OA) (rs : List RV) : Prop :=
 ∀ (S : AS) (args : List AV) (F : List Loc),AtAs S ins (args.map AV.ac1) F → F.Nodup → (∀ q ∈ F,q.l ≤ S.lvl) → ∃ v,ah6 P f args S = some (.ret v,none) ∧ ResC rs v
def ptrO : OA → Bool
 | .o (.ptr _ _)=>true
 | .o _=>false
 | .r _=>true
 | _=>false
def isO : OA → Bool
 | .o _=>true
 | _=>false
theorem cF5 {os : List OA} (h : os.all ptrO = true) : os.all OA.given = true:=by
 rw [List.all_eq_true] at h ⊢
 intro o ho
 have:=h o ho
 cases o <;> first | rfl | cases this
theorem ptr_nrm {os : List OA} (h : os.all ptrO = true) : os.all nrmO = true:=by
 rw [List.all_eq_true] at h ⊢
 intro o ho
 have:=h o ho
 cases o with
 | o v=>cases v <;> first | rfl | cases this
 | r v=>rfl
 | _=>cases this
theorem cE1 (a : AV) : a.as6.as6 = a.as6:=by cases a <;> rfl
theorem ce6 (a : AV) : a.ac1.ac1 = a.ac1:=by
 cases a with
 | agg cs =>
  simp only [AV.ac1,List.map_map]
  congr 1
  exact List.map_congr_left fun x _=>cE1 x
 | _=>rfl
theorem AtO.ptr {S : AS} {t : TypeId} {os : List OV} {a : AV} {F : List Loc} (h : AtO S aO6 0 0 (.ptr t os) a F) : ∃ q g,a = .ptr q g 0 0:=by
 unfold AtO at h
 obtain ⟨q,g,_,_,h,_⟩:=h
 exact ⟨q,g,h⟩
theorem AtAs.open {S : AS} : ∀ {ins : List OA} {l : List AV} {F : List Loc},AtAs S ins l F → ins.all ptrO = true → ins.any isO = true → AV.ac4 (l.map AV.ac1) = false
 | [],_,_,_,_,h=>by cases h
 | o :: r,l,F,h,hp,ha=>by
  obtain ⟨a,t,F1,F2,rfl,rfl,h2,h3⟩:=h
  simp only [List.all_cons,Bool.and_eq_true] at hp
  simp only [List.any_cons,Bool.or_eq_true] at ha
  rw [List.map_cons]
  unfold AV.ac4
  rcases ha with ha | ha
  ·cases o with
   | x=>cases ha
   | ag os=>cases ha
   | r v=>cases ha
   | o v =>
    cases v with
    | ptr ty os =>
     obtain ⟨q,g,rfl⟩:=AtO.ptr h2
     simp [AV.closed,AV.ac1,AV.as6]
    | _=>cases hp.1
  ·rw [h3.open hp.2 ha,Bool.and_false]
section
variable [Cfg] {P : Program}
theorem cg0 {f : FuncId} {b : BFn} {ins : List OA} {rs : List RV} (hg : Cfg.given f = none) (hf : ak2 P f = some b) (hup : ∀ h,Cfg.up f h = false) (hp : ins.all ptrO = true) (hn : Nat.ble ins.length b.nt = true) (hsz : Nat.ble (rs.length + (rs.map RV.size).sum + 5) 100000 = true)
  (h : ∀ L S0 F args A,InI ins args F A → GC P b.code L ⟨f,F,S0,false,true⟩ (numE 0 args) A (aQ1 L b.res rs)) : CallQ P f ins rs:=by
 intro S args F hat hnd hlv
 obtain ⟨A,k1,k2,k3,k4⟩:=InI.of hat (cF5 hp)
 obtain ⟨x,T',S',h1,h2,h3,h4,as1,h5,h6⟩:=h S.lvl S F (args.map AV.ac1) A k1 (aC5 (args.map AV.ac1)) (S.enter f) (Ag.args _)
  ⟨rfl,rfl,rfl,FrOk.enter f (.inl rfl),k4 _ _ (fun _=>rfl) (fun q hq=>by have:=hlv q hq; omega),by
   refine ⟨by rw [k2]; exact hnd,fun it hi q hq _=>⟨k3 it hi,?_⟩,fun q hq=>?_,hlv⟩
   ·rw [← k2]; exact List.mem_flatMap.2 ⟨it,hi,hq⟩
   ·have hq : q ∈ F:=hq
    rw [← k2] at hq
    obtain ⟨it,h1,h2⟩:=ao3 hq
    exact ⟨it,h1,k3 it h1,h2⟩⟩
 obtain ⟨v,q1,q2⟩:=cD1 S' h6 (ag3 hsz)
 refine ⟨v,a97 hg hf (by rw [← List.length_map (f:=AV.ac1),hat.length]; exact ag3 hn) ?_,q2⟩
 rw [bt4 (hup _),h1,bU6 h2 h3,h5]
 unfold bret
 simp only
 rw [aM3 (hup _) h4,q1]
 rfl
variable {L : Nat} {f : Fr} {E : Env} {A1 B : List It} {d : Nat}
theorem s_clQ {g0 : FuncId} {xs : List X} {args : List AV} {ins : List OA} {rs : List RV} {A : List It} (hup : ∀ h,Cfg.up g0 h = false) (hp : ins.all ptrO = true) (ha : ins.any isO = true) (hx : optL E xs = some args) (hin : InC ins args A1) (hA : A = A1 ++ B) (hc : CallQ P g0 ins rs) : Stp P L f E A d .none (.cl g0 xs) (none,some []) (ResC rs):=by
 subst hA
 intro T S hT hS
 have hat:=hin.at (S:=S) (L:=L + 1) (fun it hi=>hS.its it (List.mem_append.2 (.inl hi))) (ptr_nrm hp)
 have hsep:=hS.reg.sep
 rw [List.flatMap_append] at hsep
 obtain ⟨v,k1,k2⟩:=hc S args _ hat (List.nodup_append.1 hsep).1 (fun q hq=>by
  obtain ⟨it,h1,h2⟩:=ao3 hq
  obtain ⟨_,h3⟩:=It.there (hS.its it (List.mem_append.2 (.inl h1))) q h2
  rw [hS.lvl]
  rcases h3 with h | h | h
  ·omega
  ·omega
  ·omega)
 have hb : bop P S T (some d) (.cl g0 xs) = some (.call g0 args):=by simp only [bop]; rw [br8 hT hx]
 have hcl : AV.ac4 (args.map AV.ac1) = false:=by have:=hat.open hp ha; rwa [List.map_map,show AV.ac1 ∘ AV.ac1 = AV.ac1 from funext ce6] at this
 exact ⟨v,⟨.all,Upd.kind none⟩,k2,⟨trivial,.inl rfl⟩,fun c r=>by rw [af5,hb,show (BO.cl g0 xs).w = true from rfl,bX0,hup,hcl,Bool.not_false,Bool.true_and,aK2,k1,bA7]; rfl⟩
end
open Go.RowKit
section
variable {P : Program} {t e : TypeId}
theorem aop_nilS [Cfg] {S : AS} {ρ : Operand → AV} {d : Option Tmp} {op : BinOp} {ne : Bool} {x y : Operand} {yt ty : TypeId} {pos : String} {aft : Array Edge} {g : Option (Nat × Bool)} {p : Option Addr} (hn : neOp op = some ne) (hu : P.underlying t = some (.slice e)) (hx : ρ x = .lit (.slice p 0 0)) (hy : ρ y = .lit (.slice none 0 0)) :
  aop P S ρ ⟨d,.binOp op t x y yt,ty,pos,aft,g⟩ = some (.val (.lit (.bool (p.isNone != ne)))):=by
 refine ba1 (v:=.bool (p.isNone != ne)) (a:=.slice p 0 0) (b:=.slice none 0 0) (by rw [hx]; rfl) (by rw [hy]; rfl) (aI9 ?_) ?_ ?_
 ·rw [hx,hy]; unfold ax7; rw [hu]; cases p <;> rfl
 ·unfold eqGuard; split <;> rfl
 ·refine aA8 hn (by simp) (by simp) (by simp) (by simp) ?_
  show aa3 P (Op.equalIn (9999 + 1) t (.slice p 0 0) (.slice none 0 0)) = _
  unfold Op.equalIn
  rw [aa7,ah9 hu]
  cases p <;> simp [ah0]
variable [Cfg] {L : Nat} {f : Fr} {E : Env} {A : List It} {d : Nat} {ty : TypeId} {op : BinOp} {ne : Bool}
theorem s_nilS {x : Operand} {a : AV} {n : Nat} {es : List (List V)} (hn : neOp op = some ne) (hu : P.underlying t = some (.slice e)) (hx : opd E (af1 x) = some a) (ha : RelA n es a) :
  Stp P L f E A d .none (.gen (.binOp op t x (.const (.slice none 0 0)) t) ty) af0 (fun u=>∃ b : Bool,u = .lit (.bool (b != ne)) ∧ (b = true → es = [])):=aN7 fun T S hT=>by
 have hxa : aevF T x = a:=hT.at hx
 rcases ha with ⟨he,p,rfl⟩ | ⟨sp,ys,rfl,hr⟩
 ·exact ⟨_,by simp only [bop]; exact aop_nilS hn hu hxa rfl,p.isNone,rfl,fun _=>he⟩
 ·refine ⟨.lit (.bool (false != ne)),?_,false,rfl,fun h=>by cases h⟩
  have hy : aevF T (.const (.slice none 0 0)) = .lit (.slice none 0 0):=rfl
  rcases bb4 hn with ⟨rfl,rfl⟩ | ⟨rfl,rfl⟩ <;> simp only [bop,aop,hxa,hy,acmp,ax7,hu,aM4,if_true,Option.map_some,an7] <;> rfl
theorem s_fd1c {x : X} {off : Nat} {cs : List AV} {v : AV} (hx : opd E x = some (.agg cs)) (hv : cs[off]? = some v) : Stp P L f E A d .none (.fd1 off x) af0 (fun u=>u = v) :=
 aN7 fun T S hT=>⟨v,by simp only [bop,hT.at hx,fd1V,hv,Option.map_some],rfl⟩
end
def a15 (e n by' t tb : Nat) : BFn:=⟨8,[.t 2],.seq (.ops [⟨some 2,none,.none,.mv (.c (.lit (.slice none 0 0)))⟩])
 (.seq (.seq (.ops [⟨some 3,none,.none,.mv (.t 0)⟩,⟨some 4,none,.none,.gen (.binOp .eql t (.tmp 3) (.const (.slice none 0 0)) t) tb⟩]) (.cond (.t 4) (.seq (.ops [⟨some 2,none,.none,.mv (.c (.lit (.slice none 0 0)))⟩]) .ret) .skip))
  (.seq (.ops [⟨some 5,none,.here,.bsl e n []⟩,⟨some 6,none,.none,.mv (.t 0)⟩,⟨some 7,none,.app (.t 5) (.t 6),.ap e n by' (.t 5) (.t 6)⟩,⟨some 2,none,.none,.mv (.t 7)⟩]) .ret))⟩
def G.clone {α : Type} (xs : List α) : Option (List α):=G.app [] xs
section
variable [Cfg] {P : Program} {f : FuncId}
def cg5 (P : Program) (g : FuncId) (args : List AV) (Q : AV → Prop) : Prop:=∃ v,ah6 P g (args.map AV.ac1) .bare = some (.ret v,none) ∧ Q v
theorem CallR.b {g : FuncId} {args : List AV} {Q : AV → Prop} (h : CallR P g args Q) : cg5 P g args Q:=h .bare (args.map AV.ac1) (by rw [List.map_map,show AV.ac1 ∘ AV.ac1 = AV.ac1 from funext ce6])
theorem s_clB {L : Nat} {f : Fr} {E : Env} {A : List It} {d : Nat} {g : FuncId} {xs : List X} {args : List AV} {rs : List RV} {Q : AV → Prop} (hup : ∀ h,Cfg.up g h = false) (hx : optL E xs = some args) (hn : RVN rs args) (hc : RVN rs args → cg5 P g args Q) : Stp P L f E A d .none (.cl g xs) af0 Q :=
 s_clX hup hx (RVLC.closed hn) (hc hn)
theorem clone_ok {α : Type} {c : α → List V} {e n by' t tb : Nat} (hg : Cfg.given f = none) (hf : ak2 P f = some (a15 e n by' t tb)) (hup : ∀ h,Cfg.up f h = false) (hl : ∀ d,Cfg.live f d = false) (hu : P.underlying t = some (.slice e)) (hb : Nat.ble by' 100000 = true)
  (a0 r : List α) (h : G.clone a0 = some r) (_k0 : Nat) (args : List AV) (ha : RVN [.sl n (a0.map c)] args) : CallR P f args (ResC [.sl n (r.map c)]):=by
 refine bC7 (b:=a15 e n by' t tb) hg hf hup rfl rfl ?_ ha
 rintro L _ ⟨av0,_,rfl,ar0,rfl⟩
 unfold G.clone at h
 show GC P _ L f [(0,av0)] [] (aQ1 L [.t 2] [.sl n (r.map c)])
 refine cx1 ?_
 refine cD8 ?_
 refine cG3 (s_mv rfl) ?_
 refine cG5 ?_
 refine cC7 ?_
 refine cx1 ?_
 refine cx1 ?_
 refine cD8 ?_
 refine cG3 (s_mv rfl) ?_
 refine cG9 (s_nilS (ne:=false) rfl hu rfl (RelC.toA ar0)) ?_
 rintro _ ⟨b,rfl,hnil⟩
 refine cG5 ?_
 refine cC7 ?_
 cases b with
 | true =>
  obtain rfl : a0 = []:=by simpa using hnil rfl
  obtain rfl : r = []:=by
   unfold G.app at h
   rw [if_pos (by simp)] at h
   simpa using h.symm
  refine g_cT rfl rfl ?_
  refine cx1 ?_
  refine cD8 ?_
  refine cG3 (s_mv rfl) ?_
  refine cG5 ?_
  refine cC7 ?_
  refine g_ret ?_
  refine g_thnR ?_
  exact g_resP (.tr rfl (RelC.nil n none) .nil)
 | false =>
  refine g_cF rfl rfl ?_
  refine g_skip ?_
  refine cC7 ?_
  refine cx1 ?_
  refine cD8 ?_
  refine cG9 (s_bsl (es':=List.map c []) (hl _) .nil rfl) ?_
  rintro v1 ⟨r1,k1⟩
  refine cG3 (s_mv rfl) ?_
  refine go_mv (Mv.addF (ks:=[5]) (n:=n) (e:=e) (a:=v1) r1 k1) ?_
  rintro _ rfl
  refine g_apP (i:=0) (c:=c) (hl _) rfl rfl rfl (RelC.toA ar0) hb rfl rfl h fun w1 F1=>?_
  refine cG3 (s_mv rfl) ?_
  refine cG5 ?_
  refine cC7 ?_
  refine g_ret ?_
  refine cC9 (i:=0) rfl (fun rs=>?_)
  exact g_resS (.t rfl rs .nil)
end
end Go.Proofs.YtdcfkmgnkhkoeaaGreatDoor
