/-
  A part of the proof: packed by a program.
-/
import Derived.WalkKit
import Derived.Handy
import Derived.Maps.AppendAt
import Derived.Laws.AppendOwnNone
import Derived.StillTail
import Derived.Deep.Quiet
import Derived.Lib.Hide
import Derived.LoopN
import Derived.Recover
import Derived.Laws.CopyRow
import Derived.Laws.Cover4
import Derived.Laws.MakeOwn
import Derived.Laws.BytesString
import Derived.Lib.OthersKept
import Derived.MapKept
set_option maxRecDepth 100000
set_option maxHeartbeats 4000000
set_option linter.unusedVariables false
set_option linter.unusedSimpArgs false
namespace Go.Proofs.YtdcfkmgnkhkoeaaGreatDoor
open Go.RowKit
structure Loc where
 l : Nat
 k : Nat
 i : Nat
 deriving DecidableEq
inductive ap1 where
 | no
 | full
 | own (p : Loc) (g : Nat)
inductive Room where
 | no
 | full
 | room
inductive AV where
 | lit (v : Value)
 | agg (cs : List AV)
 | tup (cs : List AV)
 | ptr (p : Loc) (g n off : Nat)
 | cref (cs : List AV)
 | list (sp : ap1) (sz : Nat) (es : List (List AV))
 | row (sp : Room) (p : Loc) (g n off len sz : Nat)
 | mref (p : Loc) (g : Nat)
 | iface (t : TypeId) (a : AV)
 | fn (f : FuncId) (cs : List AV)
structure ah8 where
 key : Value
 val : AV
 born : Nat
inductive ab3 where
 | obj (g : Nat) (t : TypeId) (cs : List AV)
 | tok (g n sz : Nat) (e : TypeId)
 | row (g n sz : Nat) (e : TypeId) (cs : List AV)
 | map (g : Nat) (es : List ah8) (clock : Nat)
 | iter (g : Nat) (s : ByteArray) (pos : Nat)
 | dead (g n : Nat)
def ab3.gen : ab3 → Nat
 | .obj g _ _=>g
 | .tok g _ _ _=>g
 | .row g _ _ _ _=>g
 | .map g _ _=>g
 | .iter g _ _=>g
 | .dead g _=>g
def ab3.ext : ab3 → Nat
 | .obj _ _ _=>0
 | .tok _ n _ _=>n
 | .row _ n _ _ _=>n
 | .map _ _ _=>0
 | .iter _ _ _=>0
 | .dead _ n=>n
def ab3.live : ab3 → Bool
 | .dead _ _=>false
 | _=>true
def Loc.before (p q : Loc) : Bool:=decide (p.l < q.l) || (decide (p.l = q.l) && (decide (p.k < q.k) || (decide (p.k = q.k) && decide (p.i < q.i))))
abbrev Tab:=List (Loc × ab3)
def Tab.get : Tab → Loc → Option ab3
 | [],_=>none
 | (q,s) :: r,p=>if q = p then some s else Tab.get r p
def Tab.put : Tab → Loc → ab3 → Tab
 | [],p,s=>[(p,s)]
 | (q,t) :: r,p,s=>if q = p then (p,s) :: r else if q.before p then (q,t) :: Tab.put r p s else (p,s) :: (q,t) :: r
def Tab.cut (l : Nat) : Tab → Tab
 | []=>[]
 | (q,s) :: r=>if q.l ≤ l then (q,s) :: Tab.cut l r else Tab.cut l r
def ap9 : List Loc → Loc → List Loc
 | [],p=>[p]
 | q :: r,p=>if q = p then q :: r else if q.before p then q :: ap9 r p else p :: q :: r
def aH7 : List Loc → List Loc → List Loc
 | l,[]=>l
 | l,p :: r=>aH7 (ap9 l p) r
structure AS where
 lvl : Nat
 fn : FuncId
 tab : Tab
 log : List Loc
 dfr : List (FuncId × List AV)
abbrev Upd:=Option (Tab × List Loc)
inductive AE where
 | ret (v : AV)
 | pan (v : AV)
class Cfg where
 live : FuncId → Tmp → Bool
 up : FuncId → FuncId → Bool
 same : FuncId → Bool
 given : FuncId → Option (List AV → AS → Option (AE × Upd))
 tabs : List (Nat × Nat × (Value → Prop)):=[]
def AS.get (S : AS) (p : Loc) : Option ab3:=S.tab.get p
def AS.set (S : AS) (p : Loc) (s : ab3) : AS:={ S with tab:=S.tab.put p s,log:=ap9 S.log p }
def AS.fresh (S : AS) (p : Loc) : Nat:=match S.get p with
 | none=>0
 | some s=>s.gen + 1
def AS.here (S : AS) (d : Tmp) : Loc:=⟨S.lvl,d,0⟩
mutual
def AV.toV : AV → Option Value
 | .lit v=>some v
 | .agg cs=>(AV.toVL cs).map fun vs=>.agg vs.toArray
 | .tup cs=>(AV.toVL cs).map fun vs=>.tuple vs.toArray
 | .iface t a=>(AV.toV a).map (.iface t)
 | _=>none
def AV.toVL : List AV → Option (List Value)
 | []=>some []
 | a :: r=>match AV.toV a,AV.toVL r with
  | some v,some vs=>some (v :: vs)
  | _,_=>none
end
def ap1.closed : ap1 → Bool
 | .own _ _=>false
 | _=>true
mutual
def AV.closed : AV → Bool
 | .lit _=>true
 | .agg cs=>AV.ac4 cs
 | .tup cs=>AV.ac4 cs
 | .cref cs=>AV.ac4 cs
 | .fn _ cs=>AV.ac4 cs
 | .iface _ a=>a.closed
 | .list sp _ es=>sp.closed && AV.ah3 es
 | _=>false
def AV.ac4 : List AV → Bool
 | []=>true
 | a :: r=>a.closed && AV.ac4 r
def AV.ah3 : List (List AV) → Bool
 | []=>true
 | e :: r=>AV.ac4 e && AV.ah3 r
end
def ap1.lv (l : Nat) : ap1 → Bool
 | .own p _=>decide (p.l ≤ l)
 | _=>true
mutual
def AV.lv (l : Nat) : AV → Bool
 | .lit _=>true
 | .agg cs=>AV.lvL l cs
 | .tup cs=>AV.lvL l cs
 | .ptr p _ _ _=>decide (p.l ≤ l)
 | .cref cs=>AV.lvL l cs
 | .list sp _ es=>sp.lv l && AV.lvLL l es
 | .row _ p _ _ _ _ _=>decide (p.l ≤ l)
 | .mref p _=>decide (p.l ≤ l)
 | .iface _ a=>a.lv l
 | .fn _ cs=>AV.lvL l cs
def AV.lvL (l : Nat) : List AV → Bool
 | []=>true
 | a :: r=>a.lv l && AV.lvL l r
def AV.lvLL (l : Nat) : List (List AV) → Bool
 | []=>true
 | e :: r=>AV.lvL l e && AV.lvLL l r
end
def ab3.lv (l : Nat) : ab3 → Bool
 | .obj _ _ cs=>AV.lvL l cs
 | .row _ _ _ _ cs=>AV.lvL l cs
 | .map _ es _=>es.all fun e=>e.val.lv l
 | _=>true
def AV.as6 : AV → AV
 | .list _ sz es=>.list .no sz es
 | a=>a
def AV.ac1 : AV → AV
 | .agg cs=>.agg (cs.map AV.as6)
 | a=>a.as6
def AV.cells : AV → List AV
 | .lit v=>v.cells.toList.map AV.lit
 | .agg cs=>cs
 | a=>[a]
def AV.one : AV → Bool
 | .lit v=>v.oneCell'
 | .agg _ | .tup _=>false
 | _=>true
def AV.ofV1 : Value → AV
 | .agg cs=>.agg (cs.toList.map .lit)
 | v=>.lit v
def AV.ofV : Value → AV
 | .agg cs=>.agg (cs.toList.map .lit)
 | .tuple vs=>.tup (vs.toList.map AV.ofV1)
 | v=>.lit v
def aa3 (P : Program) {α : Type} : Sem α → Option α
 | .pure a=>some a
 | .program k=>aa3 P (k P)
 | .mark _ k=>aa3 P k
 | _=>none
abbrev TM:=List AV
def aev (T : TM) : Operand → AV
 | .tmp t=>T.getD t (.lit undef)
 | .const v=>AV.ofV v
 | .global g=>.lit (.pointer (some ⟨g,0,none⟩))
 | .func f=>.lit (.func (.func f) #[] #[])
def TM.put (T : TM) (d : Option Tmp) (v : AV) : TM:=match d with
 | some d=>T.set d v
 | none=>T
def ao1 (ops : Array Oper) (T : TM) (j : Nat) : Option Bool :=
 match ((ops[j]?).bind (·.dst)).bind (T[·]?) with
 | some (.lit (.bool b))=>some b
 | _=>none
inductive AR where
 | val (v : AV)
 | chg (v : AV) (p : Loc) (s : ab3)
 | call (f : FuncId) (args : List AV)
 | pan (v : AV)
 | dfr (f : FuncId) (args : List AV)
def aJ0 : Op → Bool
 | .select ..=>false
 | _=>true
def aD3 (P : Program) (ρ : Operand → AV) (o : Oper) : Option AR :=
 if aJ0 o.op && o.op.operands.all (fun x=>(ρ x).toV.isSome) then
  match aa3 P (execOp (fun x=>((ρ x).toV).getD undef) o) with
  | some (.value v)=>some (.val (AV.ofV v))
  | _=>none
 else none
def bQ7 : TypeDesc → Bool
 | .struct _ | .array _ _=>true
 | _=>false
def AS.ai0 (S : AS) (p : Loc) (g n : Nat) : Option (List AV):=match S.get p with
 | some (.obj g' _ cs)=>if g' = g ∧ n = 0 then some cs else none
 | some (.row g' n' _ _ cs)=>if g' = g ∧ n' = n then some cs else none
 | _=>none
def ab3.aF7 (cs : List AV) : ab3 → ab3
 | .obj g t _=>.obj g t cs
 | .row g n sz e _=>.row g n sz e cs
 | s=>s
def bg7 (S : AS) : AV → Option (List AV)
 | .ptr p g n off=>(S.ai0 p g n).map (·.drop off)
 | .cref cs=>some cs
 | _=>none
def bV1 (P : Program) (S : AS) (t : TypeId) (a : AV) : Option AV :=
 match bg7 S a,P.underlying t,P.info? t with
 | some cs,some d,some i=>if bQ7 d then (if i.size ≤ cs.length then some (.agg (cs.take i.size)) else none) else cs.head?
 | _,_,_=>none
def splice (cs : List AV) (off : Nat) (xs : List AV) : List AV:=cs.take off ++ xs ++ cs.drop (off + xs.length)
def AS.write (S : AS) (p : Loc) (g n off : Nat) (ys : List AV) : Option (Loc × ab3) :=
 match S.ai0 p g n,S.get p with
 | some cs,some s=>if off + ys.length ≤ cs.length ∧ ys.all AV.one = true then some (p,s.aF7 (splice cs off ys)) else none
 | _,_=>none
def bR4 (P : Program) (S : AS) (t : TypeId) (a x : AV) : Option (Loc × ab3) :=
 match a,P.info? t with
 | .ptr p g n off,some i=>if x.cells.length = i.size then S.write p g n off x.cells else none
 | _,_=>none
def apart' (P : Program) (t : TypeId) (cs : List AV) (off : Nat) : Option AV :=
 match P.underlying t,P.info? t with
 | some d,some i=>if bQ7 d then (if off + i.size ≤ cs.length then some (.agg ((cs.drop off).take i.size)) else none) else cs[off]?
 | _,_=>none
def by9 (place : Nat → Option (Nat × Nat)) : List AV → List (Nat × AV) → Option (List AV)
 | cs,[]=>some cs
 | cs,(i,v) :: rest=>match place i with
  | some (off,size)=>if v.cells.length = size ∧ off + size ≤ cs.length then by9 place (splice cs off v.cells) rest else none
  | none=>none
def bX7 (P : Program) (fields : Array Field) : Option (List (Nat × Nat)) :=
 if fields.toList.all (fun f=>(P.info? f.type).isSome) then some (fields.toList.map fun f=>(f.offset,((P.info? f.type).map (·.size)).getD 0)) else none
def bA4 (P : Program) (t : TypeId) (parts : List (Nat × AV)) : Option AV :=
 match P.underlying t,(P.info? t).bind (·.zero) with
 | some (.struct fields),some z=>match bX7 P fields with
  | some pl=>(by9 (pl[·]?) (z.cells.toList.map .lit) parts).map .agg
  | none=>none
 | some (.array _ elem),some z=>match P.info? elem with
  | some i=>(by9 (fun j=>some (j * i.size,i.size)) (z.cells.toList.map .lit) parts).map .agg
  | none=>none
 | _,_=>none
def az8 (P : Program) (S : AS) [Cfg] (d : Option Tmp) (t : TypeId) (len : Nat) (parts : List (Nat × AV)) : Option AR :=
  match P.underlying t,d with
  | some (.slice elem),some d=>match P.info? elem with
    | some i=>match i.zero with
      | some z => if z.cells.size = i.size ∧ 0 < i.size ∧ len * i.size ≤ 2 ^ 24 ∧ parts.map Prod.fst = List.range len ∧ parts.all (fun p => p.2.cells.length == i.size) = true ∧ parts.all (fun p => p.2.cells.all AV.one) = true then
          (if Cfg.live S.fn d then some (.chg (.row .room (S.here d) (S.fresh (S.here d)) len 0 len i.size) (S.here d) (.row (S.fresh (S.here d)) len i.size elem (parts.flatMap fun p=>p.2.cells)))
           else some (.val (.list .full i.size (parts.map fun p=>p.2.cells)))) else none
      | none=>none
    | none=>none
  | _,_=>none
def a99 (P : Program) (s : TypeId) (a : AV) (f : Nat) : Option AV :=
 match P.underlying s with
 | some (.struct fields)=>match fields[f]? with
  | some fd=>if ((P.info? fd.type).map (·.size)).getD 0 = 0 then none else match a with
   | .ptr p g n off=>some (.ptr p g n (off + fd.offset))
   | .cref cs=>some (.cref (cs.drop fd.offset))
   | _=>none
  | none=>none
 | _=>none
def b39 (P : Program) (s : TypeId) (a : AV) (f : Nat) : Option AV :=
 match P.underlying s,a with
 | some (.struct fields),.agg cs=>match fields[f]? with
  | some fd=>apart' P fd.type cs fd.offset
  | none=>none
 | _,_=>none
def aA3 (P : Program) (t : TypeId) (a x : AV) : Option AV :=
 match P.underlying t,a,x with
 | some (.slice elem),.list _ sz es,.lit (.int _ i)=>if 0 ≤ i ∧ (P.info? elem).map (·.size) = some sz then (es[i.toNat]?).map .cref else none
 | some (.slice elem),.row _ p g n off len sz,.lit (.int _ i)=>if 0 ≤ i ∧ (P.info? elem).map (·.size) = some sz ∧ i.toNat < len then some (.ptr p g n (off + i.toNat * sz)) else none
 | some (.array len elem),a,.lit (.int _ i)=>match P.info? elem with
  | some inf=>if 0 ≤ i ∧ i < len then match a with
    | .ptr p g n off=>some (.ptr p g n (off + i.toNat * inf.size))
    | .cref cs=>some (.cref (cs.drop (i.toNat * inf.size)))
    | _=>none
   else none
  | none=>none
 | _,_,_=>none
def b59 (P : Program) (t : TypeId) (a x : AV) : Option AV :=
 match P.underlying t,a,x with
 | some (.array len elem),.agg cs,.lit (.int _ i)=>match P.info? elem with
  | some inf=>if 0 ≤ i ∧ i < len then apart' P elem cs (i.toNat * inf.size) else none
  | none=>none
 | _,_,_=>none
def an6 (d : Nat) : Option AV → Option Nat
 | none=>some d
 | some (.lit (.int _ i))=>if 0 ≤ i then some i.toNat else none
 | _=>none
def Room.cut (sp : Room) (isMax m h l : Nat) : Room:=if isMax = 1 then (if m = h then .full else .no) else if h = l ∧ 0 < l then .no else match sp with
 | .room=>.room
 | _=>.no
def bv5 (P : Program) (t : TypeId) (a : AV) (lo hi mx : Option AV) : Option AV :=
 match P.underlying t,a with
 | some (.slice elem),.list sp sz es =>
  match an6 0 lo,an6 es.length hi,an6 es.length mx with
  | some l,some h,some m =>
   if (P.info? elem).map (·.size) = some sz ∧ l ≤ h ∧ h ≤ m ∧ m ≤ es.length ∧ (mx.isSome → hi.isSome) then
    some (.list (if mx.isSome then (if m = h then .full else .no) else if l = 0 ∧ h = es.length then sp else .no) sz ((es.drop l).take (h - l))) else none
  | _,_,_=>none
 | some (.slice elem),.row sp p g n off len sz =>
  match an6 0 lo,an6 len hi,an6 len mx with
  | some l,some h,some m =>
   if (P.info? elem).map (·.size) = some sz ∧ l ≤ h ∧ h ≤ m ∧ m ≤ len ∧ (mx.isSome → hi.isSome) then
    some (if h = l ∧ mx.isSome ∧ m = h then .list .full sz [] else .row (sp.cut (if mx.isSome then 1 else 0) m h l) p g n (off + l * sz) (h - l) sz) else none
  | _,_,_=>none
 | some (.array len elem),.ptr p g n off=>match P.info? elem,an6 0 lo,an6 len hi,an6 len mx with
  | some i,some l,some h,some m=>if l ≤ h ∧ h ≤ m ∧ m ≤ len ∧ len ≤ maxLen ∧ (mx.isSome → hi.isSome) then some (.row .no p g n (off + l * i.size) (h - l) i.size) else none
  | _,_,_,_=>none
 | _,_=>none
def anil : AV → Option AV
 | .ptr p g n off=>some (.ptr p g n off)
 | .cref cs=>some (.cref cs)
 | .fn f cs=>some (.fn f cs)
 | .iface t a=>some (.iface t a)
 | _=>none
def aE6 : TypeDesc → Bool
 | .interface _=>true
 | _=>false
def bs8 (P : Program) (asserted : TypeId) (commaOk : Bool) : AV → Option AV
 | .iface t a=>match P.underlying asserted with
  | some d=>if aE6 d then none else if t = asserted then some (if commaOk then .tup [a,.lit (.bool true)] else a) else
    if commaOk then ((P.info? asserted).bind (·.zero)).map fun z=>.tup [AV.ofV1 z,.lit (.bool false)] else none
  | none=>none
 | _=>none
def aM4 : TypeDesc → AV → Value → Bool
 | .slice _,.list ..,.slice none _ _=>true
 | .slice _,.row ..,.slice none _ _=>true
 | .map _ _,.mref ..,.map none=>true
 | .interface _,.iface ..,.nilIface=>true
 | .pointer _,.ptr ..,.pointer none=>true
 | .pointer _,.cref _,.pointer none=>true
 | .func _ _ _,.fn ..,.nilFunc=>true
 | _,_,_=>false
def ax7 (P : Program) (t : TypeId) (a b : AV) : Option Bool :=
 match P.underlying t,b with
 | some d,.lit v=>if aM4 d a v then some false else none
 | some (.pointer e),.ptr p g n off=>match a with
  | .ptr p' g' n' off'=>if p' = p ∧ g' = g ∧ n' = n ∧ ((P.info? e).map (·.size)).getD 0 ≠ 0 then some (decide (off' = off)) else none
  | .lit (.pointer none)=>some false
  | _=>none
 | _,_=>none
def acmp (P : Program) (op : BinOp) (t : TypeId) (a b : AV) : Option AV :=
 match op with
 | .eql=>(ax7 P t a b).map fun z=>.lit (.bool z)
 | .neq=>(ax7 P t a b).map fun z=>.lit (.bool !z)
 | _=>none
def chunks (sz : Nat) : Nat → List AV → List (List AV)
 | 0,_=>[]
 | n + 1,cs=>cs.take sz :: chunks sz n (cs.drop sz)
def al2 (S : AS) (sz : Nat) : AV → Option (List (List AV))
 | .list _ sz' es=>if sz' = sz then some es else none
 | .row _ p g n off len sz'=>match S.ai0 p g n with
  | some cs=>if sz' = sz ∧ off + len * sz ≤ cs.length then some (chunks sz len (cs.drop off)) else none
  | none=>none
 | .lit (.slice _ 0 0)=>some []
 | .lit (.string s)=>if sz = 1 then some (s.data.toList.map fun b=>[.lit (.int .u8 b.toNat)]) else none
 | _=>none
def ay3 [Cfg] (S : AS) (d : Tmp) (e : TypeId) (sz : Nat) (es : List (List AV)) : AR :=
 if Cfg.live S.fn d then .chg (.row .room (S.here d) (S.fresh (S.here d)) es.length 0 es.length sz) (S.here d) (.row (S.fresh (S.here d)) es.length sz e es.flatten)
 else .chg (.list (.own (S.here d) (S.fresh (S.here d))) sz es) (S.here d) (.tok (S.fresh (S.here d)) es.length sz e)
def aI5 [Cfg] (P : Program) (S : AS) (d : Option Tmp) (t : TypeId) (s x : AV) : Option AR :=
  match P.underlying t,d with
  | some (.slice e),some d=>match P.info? e with
    | some i=>match i.zero with
      | some z=>match al2 S i.size x with
        | some news =>
          if z.cells.size = i.size ∧ 0 < i.size ∧ news.all (fun e=>e.all AV.one) = true then
            if news.length = 0 then (match s with
              | .lit (.slice _ 0 0)=>some (.val s)
              | .list ..=>some (.val s)
              | .row ..=>some (.val s)
              | _=>none) else
            match s with
            | .lit (.slice _ 0 0)=>if news.length ≤ maxLen ∧ news.length * i.bytes ≤ 140737488355328 then some (ay3 S d e i.size news) else none
            | .list .full sz es => if sz = i.size ∧ es.length + news.length ≤ maxLen ∧ (es.length + news.length) * i.bytes ≤ 140737488355328 then
                some (ay3 S d e i.size (es ++ news)) else none
            | .list (.own p g) sz es=>match S.get p with
              | some (.tok g' n sz' e') => if g' = g ∧ n = es.length ∧ sz' = i.size ∧ e' = e ∧ sz = i.size ∧ es.length + news.length ≤ maxLen ∧ (es.length + news.length) * i.bytes ≤ 140737488355328 then
                  some (.chg (.list (.own p g) i.size (es ++ news)) p (.tok g (es.length + news.length) i.size e)) else none
              | _=>none
            | .row .room p g n off len sz=>match S.get p with
              | some (.row g' n' sz' e' cs) => if g' = g ∧ n' = n ∧ sz' = i.size ∧ e' = e ∧ sz = i.size ∧ off = 0 ∧ cs.length = n * i.size then
                  (if len + news.length ≤ n then some (.chg (.row .room p g n 0 (len + news.length) sz) p (.row g n sz e (splice cs (len * sz) news.flatten)))
                   else if len = n ∧ n + news.length ≤ maxLen ∧ (n + news.length) * i.bytes ≤ 140737488355328 then
                     some (.chg (.row .room p g (n + news.length) 0 (n + news.length) sz) p (.row g (n + news.length) sz e (cs ++ news.flatten)))
                   else none) else none
              | _=>none
            | .row .full p g n off len sz=>match al2 S i.size s with
              | some es=>if sz = i.size ∧ es.length + news.length ≤ maxLen ∧ (es.length + news.length) * i.bytes ≤ 140737488355328 then some (ay3 S d e i.size (es ++ news)) else none
              | none=>none
            | _=>none
          else none
        | none=>none
      | none=>none
    | none=>none
  | _,_=>none
def alen (P : Program) (S : AS) (t : TypeId) (x : AV) : Option AV :=
 match P.underlying t,x with
 | some (.slice _),.list _ _ es=>some (.lit (.int .i64 es.length))
 | some (.slice _),.row _ _ _ _ _ len _=>some (.lit (.int .i64 len))
 | some (.array n _),_=>some (.lit (.int .i64 n))
 | some (.map _ _),.mref p g=>match S.get p with
  | some (.map g' es _)=>if g' = g then some (.lit (.int .i64 es.length)) else none
  | _=>none
 | _,_=>none
def br6 [Cfg] (P : Program) (S : AS) (d : Option Tmp) : List AV → List TypeId → Option AR
 | [s,x],[t,u]=>match P.underlying u with
  | some (.slice _)=>aI5 P S d t s x
  | some .string=>aI5 P S d t s x
  | _=>none
 | _,_=>none
def b26 (P : Program) (S : AS) : List AV → List TypeId → Option AR
 | [x],[t]=>(alen P S t x).map .val
 | _,_=>none
def cq0 (P : Program) (S : AS) : List AV → List TypeId → Option AR
 | [d,x],t :: _=>match P.underlying t with
  | some (.slice e)=>match P.info? e with
   | some i=>match al2 S i.size x with
    | some es=>match d with
     | .row _ p g n off len sz=>if sz = i.size ∧ 0 < i.size then (S.write p g n off (es.take len).flatten).map fun y=>.chg (.lit (.int .i64 (min es.length len))) y.1 y.2 else none
     | _=>none
    | none=>none
   | none=>none
  | _=>none
 | _,_=>none
def aI7 [Cfg] (P : Program) (S : AS) (d : Option Tmp) (t : TypeId) (l c : AV) : Option AR :=
  match P.underlying t,d,l,c with
  | some (.slice e),some d,.lit (.int _ l),.lit (.int _ c)=>match P.info? e with
    | some i=>match i.zero with
      | some z => if z.cells.size = i.size ∧ 0 < i.size ∧ 0 ≤ l ∧ l ≤ c ∧ c ≤ 1000000 ∧ c * i.bytes ≤ 140737488355328 then
          (if l = 0 ∧ Cfg.live S.fn d = false then some (.chg (.list (.own (S.here d) (S.fresh (S.here d))) i.size []) (S.here d) (.tok (S.fresh (S.here d)) 0 i.size e))
           else some (.chg (.row .room (S.here d) (S.fresh (S.here d)) l.toNat 0 l.toNat i.size) (S.here d) (.row (S.fresh (S.here d)) l.toNat i.size e (List.replicate l.toNat (z.cells.toList.map AV.lit)).flatten)))
        else none
      | none=>none
    | none=>none
  | _,_,_,_=>none
def bx8 (P : Program) (kt : TypeId) (empty : Bool) (k : Value) (ks : List Value) : Option (Option Nat) :=
 match aa3 P (Instr.checkKey empty 10000 kt k),aa3 P (Instr.findKey kt k (ks.map fun x=>⟨x,undef,0⟩)) with
 | some (),some r=>some (r.map Prod.fst)
 | _,_=>none
def aM5 (P : Program) (S : AS) (t : TypeId) (m k : AV) (ok : Bool) : Option AV :=
 match P.underlying t,k.toV with
 | some (.map kt vt),some k=>match (match m with
   | .lit (.map none)=>some []
   | .mref p g=>match S.get p with
    | some (.map g' es _)=>if g' = g then some es else none
    | _=>none
   | _=>none : Option (List ah8)) with
  | some es=>match bx8 P kt es.isEmpty k (es.map (·.key)),(P.info? vt).bind (·.zero) with
   | some r,some z=>match r with
    | some i=>(es[i]?).map fun e=>if ok then .tup [e.val,.lit (.bool true)] else e.val
    | none=>some (if ok then .tup [AV.ofV1 z,.lit (.bool false)] else AV.ofV1 z)
   | _,_=>none
  | none=>none
 | _,_=>none
def aJ8 (P : Program) (S : AS) (t : TypeId) (m k x : AV) : Option AR :=
 match P.underlying t,m,k.toV with
 | some (.map kt _),.mref p g,some k=>match S.get p with
  | some (.map g' es ck)=>if g' = g then match bx8 P kt false k (es.map (·.key)) with
    | some (some i)=>match es[i]? with
     | some e=>if Instr.sameBits 10000 e.key k then some (.chg (.lit undef) p (.map g (es.set i ⟨k,x,e.born⟩) ck)) else none
     | none=>none
    | some none=>some (.chg (.lit undef) p (.map g (es ++ [⟨k,x,ck⟩]) (ck + 1)))
    | none=>none
   else none
  | _=>none
 | _,_,_=>none
def ay9 (P : Program) (S : AS) (t : TypeId) (m k : AV) : Option AR :=
 match P.underlying t,m,k.toV with
 | some (.map kt vt),.mref p g,some k=>match S.get p,(P.info? vt).bind (·.zero) with
  | some (.map g' es ck),some z=>if g' = g then match bx8 P kt false k (es.map (·.key)) with
    | some (some i)=>match es[i]? with
     | some e=>if Instr.sameBits 10000 e.key k then (if bx8 P kt false k (List.map ah8.key (es.set i ⟨k,e.val,e.born⟩)) = some (some i) then some (.chg (.tup [e.val,.lit (.int .i64 e.born)]) p (.map g (es.set i ⟨k,e.val,e.born⟩) ck)) else none) else none
     | none=>none
    | some none=>if bx8 P kt false k (List.map ah8.key (es ++ [⟨k,AV.ofV1 z,ck⟩])) = some (some es.length) then some (.chg (.tup [AV.ofV1 z,.lit (.int .i64 ck)]) p (.map g (es ++ [⟨k,AV.ofV1 z,ck⟩]) (ck + 1))) else none
    | none=>none
   else none
  | _,_=>none
 | _,_,_=>none
def aM9 (S : AS) (m st x : AV) : Option AR :=
 match m,st with
 | .mref p g,.lit (.int _ b)=>match S.get p with
  | some (.map g' es ck)=>if g' = g then match es.findIdx? (fun e=>(e.born : Int) == b) with
    | some i=>match es[i]? with
     | some e=>some (.chg (.lit undef) p (.map g (es.set i ⟨e.key,x,e.born⟩) ck))
     | none=>none
    | none=>none
   else none
  | _=>none
 | _,_=>none
def anext (S : AS) (it : AV) : Option AR :=
  match it with
  | .ptr p g 0 0=>match S.get p with
    | some (.iter g' s pos) => if g' = g then
        (if pos < s.size then some (.chg (.tup [.lit (.bool true),.lit (.int .i64 pos),.lit (.int .i32 (Utf8.decode s pos).1)]) p (.iter g s (pos + (Utf8.decode s pos).2)))
         else some (.val (.tup [.lit (.bool false)]))) else none
    | _=>none
  | _=>none
def aC8 : AV → Option (FuncId × List AV)
 | .lit (.func (.func f) first cap)=>if first.size = 0 ∧ cap.size = 0 then some (f,[]) else none
 | .fn f cs=>some (f,cs)
 | _=>none
def an7 (r : Option AR) (P : Program) (ρ : Operand → AV) (o : Oper) : Option AR:=match r with
 | some r=>some r
 | none=>aD3 P ρ o
def bytesOf : List (List AV) → Option (List UInt8)
 | []=>some []
 | [.lit (.int .u8 n)] :: r=>(bytesOf r).map (UInt8.ofNat n.toNat :: ·)
 | _=>none
def runesOf : List (List AV) → Option (List UInt8)
 | []=>some []
 | [.lit (.int .i32 n)] :: r=>(runesOf r).map ((Utf8.encode n).data.toList ++ ·)
 | _=>none
def aE5 (P : Program) (S : AS) (src dst : TypeId) (x : AV) : Option AR :=
 match P.underlying src,P.underlying dst with
 | some (.slice e),some .string=>match P.underlying e with
  | some (.int .u8)=>match x with
   | .list .. | .row ..=>match al2 S 1 x with
    | some es=>(bytesOf es).map fun bs=>.val (.lit (.string ⟨bs.toArray⟩))
    | none=>none
   | _=>none
  | some (.int .i32)=>match x with
   | .list .. | .row ..=>match al2 S 1 x with
    | some es=>(runesOf es).map fun bs=>.val (.lit (.string ⟨bs.toArray⟩))
    | none=>none
   | _=>none
  | _=>none
 | _,_=>none
def aE1 (P : Program) (S : AS) (src dst : TypeId) (x : AV) : Option AR :=
 match P.underlying src,P.underlying dst,x with
 | some (.pointer t),some .unsafePointer,.ptr p g 0 off=>match S.get p,P.info? t with
  | some (.obj g' _ cs),some i=>if g' = g ∧ off < cs.length ∧ i.size ≠ 0 then some (.val (.ptr p g 0 off)) else none
  | _,_=>none
 | some .unsafePointer,some (.pointer u),.ptr p g 0 off=>match S.get p,P.info? u with
  | some (.obj g' t cs),some _=>if g' = g ∧ liesAt P P.depth t (cs.length / P.cellsOf t) off u 1 = true then some (.val (.ptr p g 0 off)) else none
  | _,_=>none
 | _,_,_=>none
def orA : Option AR → Option AR → Option AR
 | some r,_=>some r
 | none,b=>b
def aop [Cfg] (P : Program) (S : AS) (ρ : Operand → AV) (o : Oper) : Option AR :=
 match o.op with
 | .move x | .assign x=>some (.val (ρ x))
 | .pick c a b=>match ρ c with
  | .lit (.bool t)=>some (.val (if t then ρ a else ρ b))
  | _=>none
 | .alloc elem=>match o.dst,(P.info? elem).bind (·.zero) with
  | some d,some z=>some (.chg (.ptr (S.here d) (S.fresh (S.here d)) 0 0) (S.here d) (.obj (S.fresh (S.here d)) elem (z.cells.toList.map .lit)))
  | _,_=>none
 | .box e x=>match o.dst with
  | some d=>some (.chg (.ptr (S.here d) (S.fresh (S.here d)) 0 0) (S.here d) (.obj (S.fresh (S.here d)) e (ρ x).cells))
  | none=>none
 | .build t parts=>(bA4 P t (parts.toList.map fun (i,x)=>(i,ρ x))).map .val
 | .buildSlice t len parts=>az8 P S o.dst t len (parts.toList.map fun (i,x)=>(i,ρ x))
 | .load t x=>(bV1 P S t (ρ x)).map .val
 | .store t x v=>(bR4 P S t (ρ x) (ρ v)).map fun x=>.chg (.lit undef) x.1 x.2
 | .nilCheck x=>an7 ((anil (ρ x)).map .val) P ρ o
 | .binOp op t x y _=>an7 ((acmp P op t (ρ x) (ρ y)).map .val) P ρ o
 | .makeInterface t x=>match P.underlying t with
  | some d=>if aE6 d then none else some (.val (.iface t (ρ x).ac1))
  | none=>none
 | .makeFunc fn first cap=>match fn with
  | .func f=>if first.size = 0 then some (.val (.fn f (cap.toList.map ρ))) else none
  | _=>none
 | .makeMap _ r=>match o.dst,r with
  | some d,none=>some (.chg (.mref (S.here d) (S.fresh (S.here d))) (S.here d) (.map (S.fresh (S.here d)) [] 0))
  | _,_=>none
 | .makeSlice t l c=>aI7 P S o.dst t (ρ l) (ρ c)
 | .slice t x lo hi mx=>an7 ((bv5 P t (ρ x) (lo.map ρ) (hi.map ρ) (mx.map ρ)).map .val) P ρ o
 | .fieldAddr s x f=>(a99 P s (ρ x) f).map .val
 | .field s x f=>(b39 P s (ρ x) f).map .val
 | .indexAddr t x i=>(aA3 P t (ρ x) (ρ i)).map .val
 | .index t x i=>an7 ((b59 P t (ρ x) (ρ i)).map .val) P ρ o
 | .lookup t m k ok=>(aM5 P S t (ρ m) (ρ k) ok).map .val
 | .mapUpdate t m k x | .insert t m k x=>aJ8 P S t (ρ m) (ρ k) (ρ x).as6
 | .mapEntry t m k=>ay9 P S t (ρ m) (ρ k)
 | .entryStore _ m st x=>aM9 S (ρ m) (ρ st) (ρ x).as6
 | .range t x=>match P.underlying t,ρ x,o.dst with
  | some .string,.lit (.string s),some d=>some (.chg (.ptr (S.here d) (S.fresh (S.here d)) 0 0) (S.here d) (.iter (S.fresh (S.here d)) s 0))
  | _,_,_=>none
 | .next it isString=>if isString then anext S (ρ it) else none
 | .typeAssert x _ asserted ok=>an7 ((bs8 P asserted ok (ρ x)).map .val) P ρ o
 | .extract t i=>match ρ t with
  | .tup cs=>(cs[i]?).map .val
  | _=>none
 | .convert src dst x=>an7 (orA (aE5 P S src dst (ρ x)) (aE1 P S src dst (ρ x))) P ρ o
 | .unOp ..=>aD3 P ρ o
 | .panic x=>match ρ x with
  | .iface t a=>some (.pan (.iface t a))
  | _=>none
 | .defer c=>match c.callee with
  | .value f=>match aC8 (ρ f) with
   | some (f,cs)=>some (.dfr f (c.args.toList.map ρ ++ cs))
   | none=>none
  | _=>none
 | .call c=>match c.callee with
  | .builtin .append=>br6 P S o.dst (c.args.toList.map ρ) c.argTypes.toList
  | .builtin .len=>an7 (b26 P S (c.args.toList.map ρ) c.argTypes.toList) P ρ o
  | .builtin .copy=>cq0 P S (c.args.toList.map ρ) c.argTypes.toList
  | .builtin .min | .builtin .max=>aD3 P ρ o
  | .value f=>match aC8 (ρ f) with
   | some (f,cs)=>match P.funcs[f]? with
    | some fn=>if fn.body.isNone then (if Cfg.same f then (match c.args.toList.map ρ ++ cs with
      | [a]=>some (.val a)
      | _=>none) else aD3 P ρ o) else some (.call f (c.args.toList.map ρ ++ cs))
    | none=>none
   | none=>none
  | _=>none
 | _=>none
inductive FK where
 | none
 | slots (L : List Loc)
 | all
structure Foot where
 rd : FK
 wr : FK
def FK.clear : FK → FK → Bool
 | .none,_=>true
 | _,.none=>true
 | .slots L,.slots M=>L.all fun p=>!M.contains p
 | _,_=>false
def FK.slot (p : Loc) : FK:=.slots [p]
def Foot.b64 (a b : Foot) : Bool:=a.wr.clear b.rd && a.wr.clear b.wr && b.wr.clear a.rd
def ae8 : AV → FK
 | .ptr p _ _ _=>.slot p
 | .row _ p _ _ _ _ _=>.slot p
 | .mref p _=>.slot p
 | .list (.own p _) _ _=>.slot p
 | _=>.none
def FK.with : FK → FK → FK
 | .none,b=>b
 | a,.none=>a
 | .slots L,.slots M=>.slots (L ++ M)
 | _,_=>.all
def aH2 (S : AS) (d : Option Tmp) : FK:=match d with
 | some d=>.slot (S.here d)
 | none=>.none
def aC9 (S : AS) (d : Option Tmp) : List AV → FK
 | [s,x]=>match s with
  | .list (.own p _) _ _=>(FK.slot p).with (ae8 x)
  | .row .room p _ _ _ _ _=>(FK.slot p).with (ae8 x)
  | s=>((aH2 S d).with (ae8 s)).with (ae8 x)
 | _=>.all
def aA6 (S : AS) (ρ : Operand → AV) (o : Oper) : FK :=
 match o.op with
 | .alloc _ | .box _ _ | .makeMap _ _ | .makeSlice _ _ _ | .buildSlice _ _ _ | .range _ _=>aH2 S o.dst
 | .load _ x=>ae8 (ρ x)
 | .store _ x _=>ae8 (ρ x)
 | .lookup _ m _ _=>ae8 (ρ m)
 | .mapUpdate _ m _ _ | .insert _ m _ _ | .mapEntry _ m _ | .entryStore _ m _ _=>ae8 (ρ m)
 | .next it _=>ae8 (ρ it)
 | .convert _ _ x=>ae8 (ρ x)
 | .call c=>match c.callee with
  | .builtin .append=>aC9 S o.dst (c.args.toList.map ρ)
  | .builtin .len=>match c.args.toList.map ρ with
   | [x]=>ae8 x
   | _=>.none
  | .builtin .copy=>.all
  | _=>.none
 | _=>.none
def AS.after (S : AS) : Upd → AS
 | none=>S
 | some (t,l)=>{ S with tab:=t,log:=aH7 S.log l }
def Upd.kind : Upd → FK
 | none=>.none
 | some (_,l)=>.slots l
def AS.bare : AS:=⟨0,0,[],[],[]⟩
abbrev af4:=FuncId → List AV → AS → Option (AE × Upd)
def mayW (o : Oper) : Bool:=match o.op with
 | .alloc _ | .box _ _ | .store .. | .makeMap .. | .makeSlice .. | .buildSlice .. | .range .. | .mapUpdate .. | .insert .. | .mapEntry .. | .entryStore .. | .next ..=>true
 | .call c=>match c.callee with
  | .builtin .append=>true
  | .builtin .copy=>true
  | .builtin _=>false
  | _=>true
 | .defer _=>true
 | _=>false
def mayR (o : Oper) : Bool:=match o.op with
 | .load .. | .lookup .. | .convert ..=>true
 | .call c=>match c.callee with
  | .builtin .len=>true
  | _=>mayW o
 | _=>mayW o
def ai8 [Cfg] (P : Program) (Δ : af4) (ops : Array Oper) (o : Oper) (T : TM) (S : AS) : Option (Foot × TM × AS × Option AV) :=
 if Region.wanted o (ao1 ops T) then
  match aop P S (aev T) o with
  | some (.val v)=>some (⟨aA6 S (aev T) o,.none⟩,T.put o.dst v,S,none)
  | some (.chg v p s)=>if mayW o then some (⟨aA6 S (aev T) o,.slot p⟩,T.put o.dst v,S.set p s,none) else none
  | some (.call f args)=>if mayW o then (if !Cfg.up f S.fn && AV.ac4 (args.map AV.ac1) then (match Δ f (args.map AV.ac1) .bare with
    | some (.ret v,none)=>some (⟨aA6 S (aev T) o,.none⟩,T.put o.dst v,S,none)
    | some (.pan v,none)=>some (⟨.all,.all⟩,T,S,some v)
    | _=>none)
   else (match Δ f args S with
    | some (.ret v,u)=>some (⟨.all,u.kind⟩,T.put o.dst v,S.after u,none)
    | some (.pan v,u)=>some (⟨.all,.all⟩,T,S.after u,some v)
    | none=>none)) else none
  | some (.pan v)=>some (⟨.all,.all⟩,T,S,some v)
  | some (.dfr f args)=>if mayW o then some (⟨.all,.all⟩,T.put o.dst (.lit undef),{ S with dfr:=(f,args) :: S.dfr },none) else none
  | none=>none
 else some (⟨.none,.none⟩,T.put o.dst (.lit undef),S,none)
def aj8 [Cfg] (P : Program) (Δ : af4) (ops : Array Oper) : List Oper → TM → AS → Option (List Foot × TM × AS × Option AV)
 | [],T,S=>some ([],T,S,none)
 | o :: r,T,S=>match ai8 P Δ ops o T S with
  | some (f,T',S',none)=>match aj8 P Δ ops r T' S' with
   | some (fs,T'',S'',x)=>some (f :: fs,T'',S'',x)
   | none=>none
  | some (f,T',S',some v)=>some ([f],T',S',some v)
  | none=>none
def reach (ops : Array Oper) : Nat → Nat → Nat → Bool
 | 0,_,_=>false
 | n + 1,i,j=>match ops[i]? with
  | some o=>o.after.any fun e=>Region.binds .any e && (e.on == j || reach ops n e.on j)
  | none=>false
def aC2 (ops : Array Oper) : List (Nat × Nat) :=
 ops.toList.zipIdx.flatMap fun (oi,i)=>(ops.toList.zipIdx.take i).filterMap fun (oj,j) =>
  if (mayW oj && mayR oi) || (mayW oi && mayR oj) then (if reach ops 3 i j then none else some (j,i)) else none
def noDefer (o : Oper) : Bool:=match o.op with
 | .defer _=>false
 | _=>true
def bS3 (ops : Array Oper) : Bool :=
 Region.noSelect ops && ops.toList.all noDefer &&
 ops.toList.zipIdx.all fun (oi,i)=>oi.after.all (fun e=>!Region.binds .any e || decide (e.on < i)) &&
  (ops.toList.zipIdx.take i).all fun (oj,j)=>oj.apart ops oi || reach ops 3 i j
def twins (ops : Array Oper) (p : Nat × Nat) : Bool:=match ops[p.1]?,ops[p.2]? with
 | some a,some b=>match a.op,b.op with
  | .lookup t (.tmp m) (.tmp k) false,.mapEntry t' (.tmp m') (.tmp k')=>t == t' && m == m' && k == k'
  | _,_=>false
 | _,_=>false
def bO7 (ops : Array Oper) (fs : List Foot) (p : Nat × Nat) : Bool:=twins ops p || match fs[p.1]?,fs[p.2]? with
 | some a,some b=>a.b64 b
 | _,_=>false
inductive AX where
 | normal
 | exit (id : Nat)
 | ret
 | pan (v : AV)
def aY6 (f : TM → AS → Option (AX × TM × AS)) : Nat → TM → AS → Option (AX × TM × AS)
 | 0,_,_=>none
 | n + 1,T,S=>match f T S with
  | some (.normal,T',S')=>aY6 f n T' S'
  | r=>r
def regionEnd (T : TM) (S : AS) : Option AV → AX × TM × AS
 | none=>(.normal,T,S)
 | some v=>(.pan v,T,S)
def ay8 [Cfg] (P : Program) (Δ : af4) (ops : Array Oper) (draw : Bool) (T : TM) (S : AS) : Option (AX × TM × AS) :=
 match aj8 P Δ ops ops.toList T S with
 | some (fs,T',S',x)=>if draw then (if x.isNone && bS3 ops && (aC2 ops).all (bO7 ops fs) then some (.normal,T',S') else none) else some (regionEnd T' S' x)
 | none=>none
def ae6 [Cfg] (P : Program) (Δ : af4) (n : Nat) : Code → TM → AS → Option (AX × TM × AS)
 | .skip,T,S=>some (.normal,T,S)
 | .label _,T,S=>some (.normal,T,S)
 | .region _ ops draw,T,S=>ay8 P Δ ops draw T S
 | .seq a b,T,S=>match ae6 P Δ n a T S with
  | some (.normal,T',S')=>ae6 P Δ n b T' S'
  | r=>r
 | .cond c a b,T,S=>match aev T c with
  | .lit (.bool t)=>if t then ae6 P Δ n a T S else ae6 P Δ n b T S
  | _=>none
 | .block id b,T,S=>match ae6 P Δ n b T S with
  | some (.exit j,T',S')=>if j = id then some (.normal,T',S') else some (.exit j,T',S')
  | r=>r
 | .loop b,T,S=>aY6 (ae6 P Δ n b) n T S
 | .exit id,T,S=>some (.exit id,T,S)
 | .ret,T,S=>some (.ret,T,S)
 | _,_,_=>none
def aX8 (P : Program) (S : AS) (T : TM) : ResultVar → Option AV
 | .tmp t=>some (T.getD t (.lit undef))
 | .cell a t=>bV1 P S t (T.getD a (.lit undef))
def aG3 (P : Program) (S : AS) (T : TM) : List ResultVar → Option (List AV)
 | []=>some []
 | r :: rs=>match aX8 P S T r with
  | some v=>match aG3 P S T rs with
   | some vs=>some (v :: vs)
   | none=>none
  | none=>none
def ao0 : List AV → AV
 | [v]=>v
 | vs=>.tup vs
def az0 (P : Program) (fn : Func) (S : AS) (T : TM) : Option AV:=(aG3 P S T fn.results.toList).map ao0
mutual
def frz (l : Nat) (S : AS) : Nat → AV → Option AV
 | 0,_=>none
 | n + 1,a=>if a.lv l then some a else match a with
  | .agg cs=>(frzL l S n cs).map .agg
  | .tup cs=>(frzL l S n cs).map .tup
  | .cref cs=>(frzL l S n cs).map .cref
  | .fn f cs=>(frzL l S n cs).map (.fn f)
  | .iface t x=>(frz l S n x).map (.iface t)
  | .list sp sz es=>(br5 l S n es).map (.list (if sp.lv l then sp else .no) sz)
  | .ptr p g k off=>match S.ai0 p g k with
   | some cs=>(frzL l S n (cs.drop off)).map .cref
   | none=>none
  | .row sp p g k off len sz=>match al2 S sz (.row sp p g k off len sz) with
   | some es=>(br5 l S n es).map (.list .no sz)
   | none=>none
  | _=>none
def frzL (l : Nat) (S : AS) : Nat → List AV → Option (List AV)
 | 0,_=>none
 | _ + 1,[]=>some []
 | n + 1,a :: r=>match frz l S n a,frzL l S n r with
  | some x,some y=>some (x :: y)
  | _,_=>none
def br5 (l : Nat) (S : AS) : Nat → List (List AV) → Option (List (List AV))
 | 0,_=>none
 | _ + 1,[]=>some []
 | n + 1,a :: r=>if AV.lvLL l (a :: r) then some (a :: r) else match frzL l S n a,br5 l S n r with
  | some x,some y=>some (x :: y)
  | _,_=>none
end
def frzE (l : Nat) (S : AS) (n : Nat) : List ah8 → Option (List ah8)
 | []=>some []
 | e :: r=>match frz l S n e.val,frzE l S n r with
  | some x,some y=>some (⟨e.key,x,e.born⟩ :: y)
  | _,_=>none
def frzS (l : Nat) (S : AS) (n : Nat) : ab3 → Option ab3
 | .obj g t cs=>(frzL l S n cs).map (.obj g t)
 | .row g k sz e cs=>(frzL l S n cs).map (.row g k sz e)
 | .map g es ck=>(frzE l S n es).map fun es=>.map g es ck
 | s=>some s
abbrev Names:=List (Loc × Loc × Nat)
def Names.get : Names → Loc → Option (Loc × Nat)
 | [],_=>none
 | (q,r) :: t,p=>if q = p then some r else Names.get t p
mutual
def ren (l : Nat) (S : AS) (N : Names) : AV → Option AV
 | .lit v=>some (.lit v)
 | .agg cs=>(renL l S N cs).map .agg
 | .tup cs=>(renL l S N cs).map .tup
 | .cref cs=>(renL l S N cs).map .cref
 | .fn f cs=>(renL l S N cs).map (.fn f)
 | .iface t x=>(ren l S N x).map (.iface t)
 | .list sp sz es=>(bB3 l S N es).map (.list (match sp with
   | .own p g=>if p.l ≤ l then .own p g else match Names.get N p,S.get p with
    | some (q,h),some (.tok g' n _ _)=>if g' = g ∧ n = es.length then .own q h else .no
    | _,_=>.no
   | sp=>sp) sz)
 | .ptr p g k off=>if p.l ≤ l then some (.ptr p g k off) else match Names.get N p,S.get p with
  | some (q,h),some s=>if s.live && s.gen == g && s.ext == k then some (.ptr q h k off) else none
  | _,_=>none
 | .row sp p g k off len sz=>if p.l ≤ l then some (.row sp p g k off len sz) else match Names.get N p,S.get p with
  | some (q,h),some s=>if s.live && s.gen == g && s.ext == k then some (.row sp q h k off len sz) else none
  | _,_=>none
 | .mref p g=>if p.l ≤ l then some (.mref p g) else match Names.get N p,S.get p with
  | some (q,h),some s=>if s.live && s.gen == g && s.ext == 0 then some (.mref q h) else none
  | _,_=>none
def renL (l : Nat) (S : AS) (N : Names) : List AV → Option (List AV)
 | []=>some []
 | a :: r=>match ren l S N a,renL l S N r with
  | some x,some y=>some (x :: y)
  | _,_=>none
def bB3 (l : Nat) (S : AS) (N : Names) : List (List AV) → Option (List (List AV))
 | []=>some []
 | a :: r=>match renL l S N a,bB3 l S N r with
  | some x,some y=>some (x :: y)
  | _,_=>none
end
def renE (l : Nat) (S : AS) (N : Names) : List ah8 → Option (List ah8)
 | []=>some []
 | e :: r=>match ren l S N e.val,renE l S N r with
  | some x,some y=>some (⟨e.key,x,e.born⟩ :: y)
  | _,_=>none
def renS (l : Nat) (S : AS) (N : Names) (g : Nat) : ab3 → Option ab3
 | .obj _ t cs=>(renL l S N cs).map (.obj g t)
 | .row _ k sz e cs=>(renL l S N cs).map (.row g k sz e)
 | .map _ es ck=>(renE l S N es).map fun es=>.map g es ck
 | .tok _ n sz e=>some (.tok g n sz e)
 | .iter _ s pos=>some (.iter g s pos)
 | .dead _ _=>none
mutual
def AV.deep (l : Nat) : AV → List Loc
 | .lit _=>[]
 | .agg cs=>AV.am4 l cs
 | .tup cs=>AV.am4 l cs
 | .cref cs=>AV.am4 l cs
 | .fn _ cs=>AV.am4 l cs
 | .iface _ x=>AV.deep l x
 | .list sp _ es=>(match sp with
   | .own p _=>if p.l ≤ l then [] else [p]
   | _=>[]) ++ AV.cq5 l es
 | .ptr p _ _ _=>if p.l ≤ l then [] else [p]
 | .row _ p _ _ _ _ _=>if p.l ≤ l then [] else [p]
 | .mref p _=>if p.l ≤ l then [] else [p]
def AV.am4 (l : Nat) : List AV → List Loc
 | []=>[]
 | a :: r=>AV.deep l a ++ AV.am4 l r
def AV.cq5 (l : Nat) : List (List AV) → List Loc
 | []=>[]
 | a :: r=>AV.am4 l a ++ AV.cq5 l r
end
def ab3.deep (l : Nat) : ab3 → List Loc
 | .obj _ _ cs=>AV.am4 l cs
 | .row _ _ _ _ cs=>AV.am4 l cs
 | .map _ es _=>es.flatMap fun e=>AV.deep l e.val
 | _=>[]
def Tab.weight (l : Nat) (t : Tab) : Nat:=(t.map fun x=>(x.2.deep l).length).sum
def reached (l : Nat) (S : AS) : Nat → List Loc → List Loc → List Loc
 | 0,_,seen=>seen
 | _,[],seen=>seen
 | n + 1,p :: r,seen=>if seen.contains p then reached l S n r seen else match S.get p with
  | some s=>reached l S n (s.deep l ++ r) (ap9 seen p)
  | none=>reached l S n r seen
def aG8 (l : Nat) : Tab → Nat
 | []=>1
 | (q,_) :: r=>if q.l = l ∧ q.k = 0 then max (q.i + 1) (aG8 l r) else aG8 l r
def aC7 (l : Nat) : Nat → List Loc → Names
 | _,[]=>[]
 | j,p :: r=>(p,⟨l,0,j⟩,0) :: aC7 l (j + 1) r
def AS.outs (l : Nat) (S' : AS) : List Loc:=S'.log.filter (fun p=>decide (p.l ≤ l))
def ax8 (f : Loc → ab3 → Option ab3) (S' : AS) : List Loc → Tab → Option Tab
 | [],t=>some t
 | p :: r,t=>match S'.get p with
  | some s=>match f p s with
   | some s'=>ax8 f S' r (t.put p s')
   | none=>none
  | none=>none
def aD8 (l : Nat) (S' : AS) (N : Names) : Names → Tab → Option Tab
 | [],t=>some t
 | (p,q,h) :: r,t=>match S'.get p with
  | some s=>match renS l S' N h s with
   | some s'=>aD8 l S' N r (t.put q s')
   | none=>none
  | none=>none
def nodupB : List Loc → Bool
 | []=>true
 | p :: r=>!r.contains p && nodupB r
def aM0 (l : Nat) (S' : AS) (N : Names) : Bool :=
 N.all (fun x=>decide (l < x.1.l) && x.2.1.l == l && (S'.get x.2.1).isNone && x.2.2 == 0 && (match S'.get x.1 with
  | some s=>s.live
  | none=>false)) && nodupB (N.map (·.1)) && nodupB (N.map (·.2.1))
def ak3 [Cfg] (f : FuncId) (S S' : AS) (v : AV) : Option (AV × Upd) :=
 let outs:=S'.outs S.lvl
 if Cfg.up f S.fn then
  let D:=v.deep S.lvl ++ outs.flatMap fun p=>match S'.get p with
   | some s=>s.deep S.lvl
   | none=>[]
  let N:=aC7 S.lvl (aG8 S.lvl (S'.tab.cut S.lvl)) (reached S.lvl S' (D.length + S'.tab.weight S.lvl + 1) D [])
  if !aM0 S.lvl S' N then none else match ren S.lvl S' N v with
  | some v'=>match outs,N with
   | [],[]=>some (v',none)
   | outs,N=>match ax8 (fun _ s=>renS S.lvl S' N s.gen s) S' outs S.tab with
    | some t=>match aD8 S.lvl S' N N t with
     | some t=>some (v',some (t,outs ++ N.map fun x=>x.2.1))
     | none=>none
    | none=>none
  | none=>none
 else match frz S.lvl S' 100000 v with
  | some v'=>match outs with
   | []=>some (v',none)
   | outs=>match ax8 (fun _ s=>frzS S.lvl S' 100000 s) S' outs S.tab with
    | some t=>some (v',some (t,outs))
    | none=>none
  | none=>none
abbrev AM:=Option (AV × Bool)
def AM.settle : AM → AM
 | some (_,true)=>none
 | m=>m
def am6 [Cfg] (P : Program) (Δ : af4) (ops : Array Oper) : List Oper → TM → AS → AM → Option (TM × AS × AM × Option AV)
 | [],T,S,m=>some (T,S,m,none)
 | o :: r,T,S,m=>match o.op with
  | .call ⟨.builtin .recover,_,_⟩=>if Region.wanted o (ao1 ops T) then (match m with
    | some (v,false)=>am6 P Δ ops r (T.put o.dst v) S (some (v,true))
    | m=>am6 P Δ ops r (T.put o.dst (.lit .nilIface)) S m)
   else am6 P Δ ops r (T.put o.dst (.lit undef)) S m
  | _=>match ai8 P Δ ops o T S with
   | some (_,T',S',none)=>am6 P Δ ops r T' S' m
   | some (_,T',S',some v)=>some (T',S',m,some v)
   | none=>none
def an4 [Cfg] (P : Program) (Δ : af4) (n : Nat) : Code → TM → AS → AM → Option (AX × TM × AS × AM)
 | .region _ ops false,T,S,m=>match am6 P Δ ops ops.toList T S m with
  | some (T',S',m',none)=>some (.normal,T',S',m')
  | some (T',S',m',some v)=>some (.pan v,T',S',m')
  | none=>none
 | .seq a b,T,S,m=>match an4 P Δ n a T S m with
  | some (.normal,T',S',m')=>an4 P Δ n b T' S' m'
  | r=>r
 | c,T,S,m=>(ae6 P Δ n c T S).map fun r=>(r.1,r.2.1,r.2.2,m)
def aq9 (fn : Func) (args : List AV) : TM:=args ++ List.replicate (fn.ntmps - args.length) (.lit undef)
def AS.enter (S : AS) (f : FuncId) : AS:=⟨S.lvl + 1,f,S.tab,[],[]⟩
def ai1 [Cfg] (P : Program) (Δ : af4) (n : Nat) : List (FuncId × List AV) → AM → AS → Option (AM × AS)
 | [],m,S=>some (m,S)
 | (f,args) :: r,m,S=>match P.funcs[f]? with
  | none=>none
  | some fn=>match fn.body with
   | none=>none
   | some c => if (fn.name == "runtime.NumGoroutine") = false ∧ args.length ≤ fn.ntmps then
     match an4 P Δ n c (aq9 fn args) (S.enter f) m with
     | some (x,T',S',m')=>if S'.dfr.isEmpty && (az0 P fn S' T').isSome then match x with
      | .exit _=>none
      | .pan _=>none
      | _=>match ak3 f S S' (.tup []) with
       | some (_,u)=>ai1 P Δ n r m'.settle (S.after u)
       | none=>none
      else none
     | none=>none
    else none
def aJ9 [Cfg] (P : Program) (fn : Func) (f : FuncId) (S S' : AS) (T' : TM) : AM → Option (AE × Upd)
 | none=>match az0 P fn S' T' with
  | some v=>(ak3 f S S' v).map fun y=>(.ret y.1,y.2)
  | none=>none
 | some (v,false)=>(ak3 f S S' v).map fun y=>(.pan y.1,y.2)
 | some (_,true)=>none
def aE8 [Cfg] (_f _g : FuncId) (args : List AV) : List AV:=args.map AV.ac1
def aj2 [Cfg] (P : Program) : Nat → af4
 | 0=>fun _ _ _=>none
 | n + 1=>fun f args S=>match Cfg.given f with
  | some h=>h args S
  | none=>match P.funcs[f]? with
  | none=>none
  | some fn=>match fn.body with
   | none=>none
   | some c =>
    if (fn.name == "runtime.NumGoroutine") = false ∧ args.length ≤ fn.ntmps then
     match ae6 P (aj2 P n) n c (aq9 fn (aE8 f S.fn args)) (S.enter f) with
     | some (x,T',S')=>match (match x with
       | .normal | .ret=>some none
       | .pan v=>some (some (v,false))
       | .exit _=>none : Option AM) with
      | some m=>match S'.dfr with
       | []=>aJ9 P fn f S S' T' m
       | ds=>match ai1 P (aj2 P n) n ds m { S' with dfr:=[] } with
        | some (m',S'')=>aJ9 P fn f S S'' T' m'
        | none=>none
      | none=>none
     | none=>none
    else none
open Go.RowKit
structure Gh where
 own : Loc → Nat → Nat → Option (Nat × Nat)
 imm : Nat → Nat → Option Value
 far : Nat
structure Gh.le (G H : Gh) : Prop where
 own : ∀ p g n x,G.own p g n = some x → H.own p g n = some x
 imm : ∀ b o v,G.imm b o = some v → H.imm b o = some v
 far : H.far = G.far
theorem Gh.le.refl (G : Gh) : G.le G:=⟨fun _ _ _ _ h=>h,fun _ _ _ h=>h,rfl⟩
theorem Gh.le.trans {G H I : Gh} (h : G.le H) (k : H.le I) : G.le I:=⟨fun _ _ _ _ e=>k.own _ _ _ _ (h.own _ _ _ _ e),fun _ _ _ e=>k.imm _ _ _ (h.imm _ _ _ e),k.far.trans h.far⟩
def ap1.ok (G : Gh) (b off n cap : Nat) : ap1 → Prop
 | .no=>True
 | .full=>cap = n
 | .own p g=>off = 0 ∧ G.own p g n = some (b,cap)
theorem ap1.ok.mono {G H : Gh} (h : G.le H) {b off n cap : Nat} {sp : ap1} (k : sp.ok G b off n cap) : sp.ok H b off n cap:=by
 cases sp with
 | no=>trivial
 | full=>exact k
 | own p g=>exact ⟨k.1,h.own _ _ _ _ k.2⟩
def Room.ok (off o len cap sz c : Nat) : Room → Prop
 | .no=>True
 | .full=>cap = len
 | .room=>o = off ∧ off + cap * sz = c * sz
inductive VRel (G : Gh) : AV → Value → Prop
 | lit (v : Value) : VRel G (.lit v) v
 | agg (xs : List AV) (vs : List Value) (hl : xs.length = vs.length) (h : ∀ (i : Nat) a v,xs[i]? = some a → vs[i]? = some v → VRel G a v) : VRel G (.agg xs) (.agg vs.toArray)
 | tup (xs : List AV) (vs : List Value) (hl : xs.length = vs.length) (h : ∀ (i : Nat) a v,xs[i]? = some a → vs[i]? = some v → VRel G a v) : VRel G (.tup xs) (.tuple vs.toArray)
 | ptr (p : Loc) (g n off b c : Nat) (h : G.own p g n = some (b,c)) : VRel G (.ptr p g n off) (.pointer (some ⟨b,off,none⟩))
 | cref (xs : List AV) (b off : Nat) (val : Nat → Value) (h1 : ∀ i,i < xs.length → G.imm b (off + i) = some (val i)) (h2 : ∀ (i : Nat) a,xs[i]? = some a → VRel G a (val i)) :
   VRel G (.cref xs) (.pointer (some ⟨b,off,none⟩))
 | list (sp : ap1) (sz : Nat) (es : List (List AV)) (b off cap : Nat) (val : Nat → Nat → Value) (hn : es.length ≤ cap) (hm : cap ≤ maxLen) (hsz : ∀ e ∈ es,e.length = sz)
   (h1 : ∀ i j,i < es.length → j < sz → G.imm b (off + (i * sz + j)) = some (val i j)) (h2 : ∀ (i j : Nat) e a,es[i]? = some e → e[j]? = some a → VRel G a (val i j)) (hs : sp.ok G b off es.length cap) :
   VRel G (.list sp sz es) (.slice (some ⟨b,off,none⟩) es.length cap)
 | row (sp : Room) (p : Loc) (g n off len sz b c o cap : Nat) (h : G.own p g n = some (b,c)) (ho : 0 < len → o = off) (hn : len ≤ cap) (hm : cap ≤ maxLen) (hs : sp.ok off o len cap sz c) :
   VRel G (.row sp p g n off len sz) (.slice (some ⟨b,o,none⟩) len cap)
 | mref (p : Loc) (g b c : Nat) (h : G.own p g 0 = some (b,c)) : VRel G (.mref p g) (.map (some b))
 | iface (t : TypeId) (a : AV) (v : Value) (h : VRel G a v) : VRel G (.iface t a) (.iface t v)
 | fn (f : FuncId) (xs : List AV) (vs : List Value) (hl : xs.length = vs.length) (h : ∀ (i : Nat) a v,xs[i]? = some a → vs[i]? = some v → VRel G a v) : VRel G (.fn f xs) (.func (.func f) #[] vs.toArray)
theorem VRel.mono {G H : Gh} (hg : G.le H) {a : AV} {v : Value} (h : VRel G a v) : VRel H a v:=by
 induction h with
 | lit v=>exact .lit v
 | agg xs vs hl _ ih=>exact .agg xs vs hl ih
 | tup xs vs hl _ ih=>exact .tup xs vs hl ih
 | ptr p g n off b c h=>exact .ptr p g n off b c (hg.own _ _ _ _ h)
 | cref xs b off val h1 _ ih=>exact .cref xs b off val (fun i hi=>hg.imm _ _ _ (h1 i hi)) ih
 | list sp sz es b off cap val hn hm hsz h1 _ hs ih=>exact .list sp sz es b off cap val hn hm hsz (fun i j hi hj=>hg.imm _ _ _ (h1 i j hi hj)) ih (hs.mono hg)
 | row sp p g n off len sz b c o cap h ho hn hm hs=>exact .row sp p g n off len sz b c o cap (hg.own _ _ _ _ h) ho hn hm hs
 | mref p g b c h=>exact .mref p g b c (hg.own _ _ _ _ h)
 | iface t a v _ ih=>exact .iface t a v ih
 | fn f xs vs hl _ ih=>exact .fn f xs vs hl ih
def CRel (G : Gh) (xs : List AV) (vs : List Value) : Prop:=xs.length = vs.length ∧ ∀ (i : Nat) a v,xs[i]? = some a → vs[i]? = some v → VRel G a v
theorem CRel.mono {G H : Gh} (hg : G.le H) {xs : List AV} {vs : List Value} (h : CRel G xs vs) : CRel H xs vs:=⟨h.1,fun i a v ha hv=>(h.2 i a v ha hv).mono hg⟩
theorem CRel.nil (G : Gh) : CRel G [] []:=⟨rfl,fun i a v h _=>by simp at h⟩
theorem CRel.cons {G : Gh} {a : AV} {v : Value} {xs : List AV} {vs : List Value} (h : VRel G a v) (k : CRel G xs vs) : CRel G (a :: xs) (v :: vs):=by
 refine ⟨by simp [k.1],fun i x y hx hy=>?_⟩
 cases i with
 | zero=>simp at hx hy; subst hx hy; exact h
 | succ i=>exact k.2 i x y (by simpa using hx) (by simpa using hy)
theorem CRel.head {G : Gh} {a : AV} {v : Value} {xs : List AV} {vs : List Value} (h : CRel G (a :: xs) (v :: vs)) : VRel G a v:=h.2 0 a v rfl rfl
theorem CRel.tail {G : Gh} {a : AV} {v : Value} {xs : List AV} {vs : List Value} (h : CRel G (a :: xs) (v :: vs)) : CRel G xs vs :=
 ⟨by have:=h.1; simpa using this,fun i x y hx hy=>h.2 (i + 1) x y (by simpa using hx) (by simpa using hy)⟩
theorem CRel.append {G : Gh} {xs bs : List AV} {vs us : List Value} (h : CRel G xs vs) (k : CRel G bs us) : CRel G (xs ++ bs) (vs ++ us):=by
 refine ⟨by simp [h.1,k.1],fun i x y hx hy=>?_⟩
 by_cases hi : i < xs.length
 ·rw [List.getElem?_append_left hi] at hx
  rw [List.getElem?_append_left (by rw [← h.1]; exact hi)] at hy
  exact h.2 i x y hx hy
 ·rw [List.getElem?_append_right (by omega)] at hx
  rw [List.getElem?_append_right (by rw [← h.1]; omega),← h.1] at hy
  exact k.2 _ x y hx hy
theorem CRel.drop {G : Gh} {xs : List AV} {vs : List Value} (h : CRel G xs vs) (n : Nat) : CRel G (xs.drop n) (vs.drop n) :=
 ⟨by simp [h.1],fun i x y hx hy=>h.2 (n + i) x y (by simpa [List.getElem?_drop] using hx) (by simpa [List.getElem?_drop] using hy)⟩
theorem CRel.take {G : Gh} {xs : List AV} {vs : List Value} (h : CRel G xs vs) (n : Nat) : CRel G (xs.take n) (vs.take n):=by
 refine ⟨by simp [h.1],fun i x y hx hy=>?_⟩
 rw [List.getElem?_take] at hx hy
 split at hx
 ·rename_i hi; rw [if_pos hi] at hy; exact h.2 i x y hx hy
 ·cases hx
theorem CRel.lits (G : Gh) (vs : List Value) : CRel G (vs.map AV.lit) vs:=by
 refine ⟨by simp,fun i a v ha hv=>?_⟩
 simp [hv] at ha
 subst ha
 exact .lit v
theorem CRel.get {G : Gh} {xs : List AV} {vs : List Value} (h : CRel G xs vs) {i : Nat} {a : AV} (ha : xs[i]? = some a) : ∃ v,vs[i]? = some v ∧ VRel G a v:=by
 have hlt:=(List.getElem?_eq_some_iff.1 ha).1
 have hlt' : i < vs.length:=by rw [← h.1]; exact hlt
 exact ⟨vs[i],List.getElem?_eq_getElem hlt',h.2 i a _ ha (List.getElem?_eq_getElem hlt')⟩
theorem CRel.set {G : Gh} {xs : List AV} {vs : List Value} (h : CRel G xs vs) {i : Nat} {a : AV} {v : Value} (ha : VRel G a v) : CRel G (xs.set i a) (vs.set i v):=by
 refine ⟨by simp [h.1],fun j x y hx hy=>?_⟩
 rw [List.getElem?_set] at hx hy
 by_cases hij : i = j
 ·subst hij
  simp only [if_true] at hx hy
  split at hx
  ·rename_i hi
   rw [if_pos (by rw [← h.1]; exact hi)] at hy
   cases hx; cases hy
   exact ha
  ·cases hx
 ·rw [if_neg hij] at hx hy
  exact h.2 j x y hx hy
theorem VRel.aN1 {G : Gh} {xs : List AV} {vs : List Value} (h : CRel G xs vs) : VRel G (.agg xs) (.agg vs.toArray):=.agg xs vs h.1 h.2
theorem VRel.bs5 {G : Gh} {xs : List AV} {v : Value} (h : VRel G (.agg xs) v) : ∃ vs,v = .agg vs.toArray ∧ CRel G xs vs:=by
 cases h with
 | agg _ vs hl h=>exact ⟨vs,rfl,hl,h⟩
theorem VRel.bR6 {G : Gh} {xs : List AV} {v : Value} (h : VRel G (.tup xs) v) : ∃ vs,v = .tuple vs.toArray ∧ CRel G xs vs:=by
 cases h with
 | tup _ vs hl h=>exact ⟨vs,rfl,hl,h⟩
theorem VRel.al0 {G : Gh} {u v : Value} (h : VRel G (.lit u) v) : v = u:=by
 cases h with
 | lit=>rfl
theorem AV.aL2 {l : Nat} : ∀ {xs : List AV} {i : Nat} {a : AV},AV.lvL l xs = true → xs[i]? = some a → a.lv l = true
 | [],_,_,_,h=>by simp at h
 | x :: r,0,a,h,ha=>by
  simp only [List.getElem?_cons_zero,Option.some.injEq] at ha
  simp only [AV.lvL,Bool.and_eq_true] at h
  rw [← ha]; exact h.1
 | x :: r,i + 1,a,h,ha=>by
  simp only [AV.lvL,Bool.and_eq_true] at h
  exact AV.aL2 h.2 (by simpa using ha)
theorem AV.b23 {l : Nat} : ∀ {es : List (List AV)} {i : Nat} {e : List AV},AV.lvLL l es = true → es[i]? = some e → AV.lvL l e = true
 | [],_,_,_,h=>by simp at h
 | x :: r,0,a,h,ha=>by
  simp only [List.getElem?_cons_zero,Option.some.injEq] at ha
  simp only [AV.lvLL,Bool.and_eq_true] at h
  rw [← ha]; exact h.1
 | x :: r,i + 1,a,h,ha=>by
  simp only [AV.lvLL,Bool.and_eq_true] at h
  exact AV.b23 h.2 (by simpa using ha)
def Gh.cut (G : Gh) (l : Nat) : Gh:={ own:=fun p g n=>if p.l ≤ l then G.own p g n else none,imm:=G.imm,far:=G.far }
theorem VRel.cut {G : Gh} {l : Nat} {a : AV} {v : Value} (h : VRel G a v) : a.lv l = true → VRel (G.cut l) a v:=by
 induction h with
 | lit v=>exact fun _=>.lit v
 | agg xs vs hl _ ih=>exact fun h=>.agg xs vs hl fun i a v ha hv=>ih i a v ha hv (AV.aL2 h ha)
 | tup xs vs hl _ ih=>exact fun h=>.tup xs vs hl fun i a v ha hv=>ih i a v ha hv (AV.aL2 h ha)
 | ptr p g n off b c h =>
  intro hv
  refine .ptr p g n off b c ?_
  simp only [Gh.cut]
  rw [if_pos (by simpa [AV.lv] using hv)]
  exact h
 | cref xs b off val h1 _ ih=>exact fun h=>.cref xs b off val h1 fun i a ha=>ih i a ha (AV.aL2 h ha)
 | list sp sz es b off cap val hn hm hsz h1 _ hs ih =>
  intro h
  simp only [AV.lv,Bool.and_eq_true] at h
  refine .list sp sz es b off cap val hn hm hsz h1 (fun i j e a he ha=>ih i j e a he ha (AV.aL2 (AV.b23 h.2 he) ha)) ?_
  cases sp with
  | no=>trivial
  | full=>exact hs
  | own p g =>
   refine ⟨hs.1,?_⟩
   simp only [Gh.cut]
   rw [if_pos (by simpa [ap1.lv] using h.1)]
   exact hs.2
 | row sp p g n off len sz b c o cap h ho hn hm hs =>
  intro hv
  refine .row sp p g n off len sz b c o cap ?_ ho hn hm hs
  simp only [Gh.cut]
  rw [if_pos (by simpa [AV.lv] using hv)]
  exact h
 | mref p g b c h =>
  intro hv
  refine .mref p g b c ?_
  simp only [Gh.cut]
  rw [if_pos (by simpa [AV.lv] using hv)]
  exact h
 | iface t a v _ ih=>exact fun h=>.iface t a v (ih h)
 | fn f xs vs hl _ ih=>exact fun h=>.fn f xs vs hl fun i a v ha hv=>ih i a v ha hv (AV.aL2 h ha)
theorem AV.bC6 {l : Nat} : ∀ {xs : List AV},(∀ (i : Nat) a,xs[i]? = some a → a.lv l = true) → AV.lvL l xs = true
 | [],_=>rfl
 | a :: r,h=>by
  simp only [AV.lvL,Bool.and_eq_true]
  exact ⟨h 0 a rfl,AV.bC6 fun i x hx=>h (i + 1) x (by simpa using hx)⟩
theorem AV.cC6 {l : Nat} : ∀ {es : List (List AV)},(∀ (i : Nat) e,es[i]? = some e → AV.lvL l e = true) → AV.lvLL l es = true
 | [],_=>rfl
 | a :: r,h=>by
  simp only [AV.lvLL,Bool.and_eq_true]
  exact ⟨h 0 a rfl,AV.cC6 fun i x hx=>h (i + 1) x (by simpa using hx)⟩
theorem VRel.lvs {G : Gh} {l : Nat} (hG : ∀ p g n x,G.own p g n = some x → p.l ≤ l) {a : AV} {v : Value} (h : VRel G a v) : a.lv l = true:=by
 induction h with
 | lit v=>rfl
 | agg xs vs hl _ ih =>
  refine AV.bC6 fun i a ha=>?_
  have hi : i < vs.length:=by rw [← hl]; exact (List.getElem?_eq_some_iff.1 ha).1
  exact ih i a vs[i] ha (List.getElem?_eq_getElem hi)
 | tup xs vs hl _ ih =>
  refine AV.bC6 fun i a ha=>?_
  have hi : i < vs.length:=by rw [← hl]; exact (List.getElem?_eq_some_iff.1 ha).1
  exact ih i a vs[i] ha (List.getElem?_eq_getElem hi)
 | ptr p g n off b c h=>exact decide_eq_true (hG _ _ _ _ h)
 | cref xs b off val h1 _ ih=>exact AV.bC6 fun i a ha=>ih i a ha
 | list sp sz es b off cap val hn hm hsz h1 _ hs ih =>
  simp only [AV.lv,Bool.and_eq_true]
  refine ⟨?_,AV.cC6 fun i e he=>AV.bC6 fun j a ha=>ih i j e a he ha⟩
  cases sp with
  | no=>rfl
  | full=>rfl
  | own p g=>exact decide_eq_true (hG _ _ _ _ hs.2)
 | row sp p g n off len sz b c o cap h ho hn hm hs=>exact decide_eq_true (hG _ _ _ _ h)
 | mref p g b c h=>exact decide_eq_true (hG _ _ _ _ h)
 | iface t a v _ ih=>exact ih
 | fn f xs vs hl _ ih =>
  refine AV.bC6 fun i a ha=>?_
  have hi : i < vs.length:=by rw [← hl]; exact (List.getElem?_eq_some_iff.1 ha).1
  exact ih i a vs[i] ha (List.getElem?_eq_getElem hi)
theorem CRel.lvs {G : Gh} {l : Nat} (hG : ∀ p g n x,G.own p g n = some x → p.l ≤ l) {xs : List AV} {vs : List Value} (h : CRel G xs vs) : AV.lvL l xs = true :=
 AV.bC6 fun i a ha=>by
  obtain ⟨v,hv,hr⟩:=h.get ha
  exact hr.lvs hG
theorem AV.aw1 : ∀ {xs : List AV} {i : Nat} {a : AV},AV.ac4 xs = true → xs[i]? = some a → a.closed = true
 | [],_,_,_,h=>by simp at h
 | x :: r,0,a,h,ha=>by
  simp only [List.getElem?_cons_zero,Option.some.injEq] at ha
  simp only [AV.ac4,Bool.and_eq_true] at h
  rw [← ha]; exact h.1
 | x :: r,i + 1,a,h,ha=>by
  simp only [AV.ac4,Bool.and_eq_true] at h
  exact AV.aw1 h.2 (by simpa using ha)
theorem AV.bw6 : ∀ {es : List (List AV)} {i : Nat} {e : List AV},AV.ah3 es = true → es[i]? = some e → AV.ac4 e = true
 | [],_,_,_,h=>by simp at h
 | x :: r,0,a,h,ha=>by
  simp only [List.getElem?_cons_zero,Option.some.injEq] at ha
  simp only [AV.ah3,Bool.and_eq_true] at h
  rw [← ha]; exact h.1
 | x :: r,i + 1,a,h,ha=>by
  simp only [AV.ah3,Bool.and_eq_true] at h
  exact AV.bw6 h.2 (by simpa using ha)
theorem VRel.closed {G H : Gh} (hG : ∀ b o v,G.imm b o = some v → H.imm b o = some v) {a : AV} {v : Value} (h : VRel G a v) : a.closed = true → VRel H a v:=by
 induction h with
 | lit v=>exact fun _=>.lit v
 | agg xs vs hl _ ih=>exact fun h=>.agg xs vs hl fun i a v ha hv=>ih i a v ha hv (AV.aw1 h ha)
 | tup xs vs hl _ ih=>exact fun h=>.tup xs vs hl fun i a v ha hv=>ih i a v ha hv (AV.aw1 h ha)
 | ptr p g n off b c h=>intro h; cases h
 | cref xs b off val h1 _ ih=>exact fun h=>.cref xs b off val (fun i hi=>hG _ _ _ (h1 i hi)) fun i a ha=>ih i a ha (AV.aw1 h ha)
 | list sp sz es b off cap val hn hm hsz h1 _ hs ih =>
  intro h
  simp only [AV.closed,Bool.and_eq_true] at h
  refine .list sp sz es b off cap val hn hm hsz (fun i j hi hj=>hG _ _ _ (h1 i j hi hj)) (fun i j e a he ha=>ih i j e a he ha (AV.aw1 (AV.bw6 h.2 he) ha)) ?_
  cases sp with
  | no=>trivial
  | full=>exact hs
  | own p g=>cases h.1
 | row sp p g n off len sz b c o cap h ho hn hm hs=>intro h; cases h
 | mref p g b c h=>intro h; cases h
 | iface t a v _ ih=>exact fun h=>.iface t a v (ih h)
 | fn f xs vs hl _ ih=>exact fun h=>.fn f xs vs hl fun i a v ha hv=>ih i a v ha hv (AV.aw1 h ha)
theorem VRel.as6 {G : Gh} {a : AV} {v : Value} (h : VRel G a v) : VRel G a.as6 v:=by
 cases h with
 | list sp sz es b off cap val hn hm hsz h1 h2 hs=>exact .list .no sz es b off cap val hn hm hsz h1 h2 trivial
 | lit v=>exact .lit v
 | agg xs vs hl h=>exact .agg xs vs hl h
 | tup xs vs hl h=>exact .tup xs vs hl h
 | ptr p g n off b c h=>exact .ptr p g n off b c h
 | cref xs b off val h1 h2=>exact .cref xs b off val h1 h2
 | row sp p g n off len sz b c o cap h ho hn hm hs=>exact .row sp p g n off len sz b c o cap h ho hn hm hs
 | mref p g b c h=>exact .mref p g b c h
 | iface t a v h=>exact .iface t a v h
 | fn f xs vs hl h=>exact .fn f xs vs hl h
theorem CRel.as6 {G : Gh} {xs : List AV} {vs : List Value} (h : CRel G xs vs) : CRel G (xs.map AV.as6) vs:=by
 refine ⟨by simp [h.1],fun i a v ha hv=>?_⟩
 rw [List.getElem?_map] at ha
 cases hx : xs[i]? with
 | none=>simp [hx] at ha
 | some x =>
  simp [hx] at ha
  rw [← ha]
  exact (h.2 i x v hx hv).as6
theorem VRel.ac1 {G : Gh} {a : AV} {v : Value} (h : VRel G a v) : VRel G a.ac1 v:=by
 unfold AV.ac1
 split
 ·obtain ⟨vs,rfl,hc⟩:=h.bs5
  exact VRel.aN1 hc.as6
 ·exact h.as6
theorem CRel.ac1 {G : Gh} {xs : List AV} {vs : List Value} (h : CRel G xs vs) : CRel G (xs.map AV.ac1) vs:=by
 refine ⟨by simp [h.1],fun i a v ha hv=>?_⟩
 rw [List.getElem?_map] at ha
 cases hx : xs[i]? with
 | none=>simp [hx] at ha
 | some x =>
  simp [hx] at ha
  rw [← ha]
  exact (h.2 i x v hx hv).ac1
theorem VRel.cells {G : Gh} {a : AV} {v : Value} (h : VRel G a v) : CRel G a.cells v.cells.toList:=by
 cases h with
 | lit v=>exact CRel.lits G _
 | agg xs vs hl h=>exact ⟨by simpa [AV.cells,Value.cells] using hl,by simpa [AV.cells,Value.cells] using h⟩
 | tup xs vs hl h=>exact CRel.cons (.tup xs vs hl h) (CRel.nil G)
 | ptr p g n off b c h=>exact CRel.cons (.ptr p g n off b c h) (CRel.nil G)
 | row sp p g n off len sz b c o cap h ho hn hm hs=>exact CRel.cons (.row sp p g n off len sz b c o cap h ho hn hm hs) (CRel.nil G)
 | mref p g b c h=>exact CRel.cons (.mref p g b c h) (CRel.nil G)
 | cref xs b off val h1 h2=>exact CRel.cons (.cref xs b off val h1 h2) (CRel.nil G)
 | list sp sz es b off cap val hn hm hsz h1 h2 hs=>exact CRel.cons (.list sp sz es b off cap val hn hm hsz h1 h2 hs) (CRel.nil G)
 | iface t a v h=>exact CRel.cons (.iface t a v h) (CRel.nil G)
 | fn f xs vs hl h=>exact CRel.cons (.fn f xs vs hl h) (CRel.nil G)
theorem VRel.one {G : Gh} {a : AV} {v : Value} (h : VRel G a v) (h1 : a.one = true) : v.oneCell' = true:=by
 cases h <;> first | exact h1 | rfl | (simp [AV.one] at h1)
theorem Loc.am0 {p q : Loc} : p.before q = true ↔ p.l < q.l ∨ (p.l = q.l ∧ (p.k < q.k ∨ (p.k = q.k ∧ p.i < q.i))):=by simp [Loc.before]
theorem Loc.cq2 {p q : Loc} : p ≠ q ↔ (p.l ≠ q.l ∨ p.k ≠ q.k ∨ p.i ≠ q.i):=by
 constructor
 ·intro h
  by_cases h1 : p.l = q.l
  ·by_cases h2 : p.k = q.k
   ·by_cases h3 : p.i = q.i
    ·exact absurd (by cases p; cases q; simp_all) h
    ·exact .inr (.inr h3)
   ·exact .inr (.inl h2)
  ·exact .inl h1
 ·rintro h rfl
  simp at h
theorem Tab.aG6 : ∀ (t : Tab) (p : Loc) (s : ab3),(t.put p s).get p = some s
 | [],p,s=>by simp [Tab.put,Tab.get]
 | (q,t) :: r,p,s=>by
  unfold Tab.put
  split
  ·simp [Tab.get]
  ·rename_i h
   split
   ·simp [Tab.get,h,Tab.aG6 r p s]
   ·simp [Tab.get]
theorem Tab.a98 : ∀ (t : Tab) {p q : Loc} (s : ab3),q ≠ p → (t.put p s).get q = t.get q
 | [],p,q,s,h=>by simp [Tab.put,Tab.get,Ne.symm h]
 | (x,t) :: r,p,q,s,h=>by
  unfold Tab.put
  split
  ·rename_i hx; subst hx; simp [Tab.get,Ne.symm h]
  ·split
   ·simp only [Tab.get]; split
    ·rfl
    ·exact Tab.a98 r s h
   ·simp [Tab.get,Ne.symm h]
theorem Tab.put_comm : ∀ (t : Tab) {p q : Loc} (s u : ab3),p ≠ q → (t.put p s).put q u = (t.put q u).put p s
 | [],p,q,s,u,h=>by
  have h':=Ne.symm h
  have:=Loc.cq2.1 h
  simp only [Tab.put,h,h',if_false]
  by_cases hb : p.before q = true
  ·have hb' : q.before p = false:=by
    rw [Bool.eq_false_iff]; intro e; rw [Loc.am0] at hb e; omega
   simp [hb,hb']
  ·have hb' : q.before p = true:=by
    rw [Loc.am0] at hb ⊢; omega
   simp [hb,hb']
 | (x,t) :: r,p,q,s,u,h=>by
  have h':=Ne.symm h
  have hn:=Loc.cq2.1 h
  by_cases hxp : x = p
  ·subst hxp
   have hb : x.before q = false → q.before x = true:=fun e=>by
    rw [Bool.eq_false_iff,Ne,Loc.am0] at e; rw [Loc.am0]; omega
   cases hxq : x.before q with
   | true =>
    have hqx : q.before x = false:=by rw [Bool.eq_false_iff]; intro e; rw [Loc.am0] at hxq e; omega
    simp [Tab.put,h,hxq]
   | false=>simp [Tab.put,h,h',hxq,hb hxq]
  ·by_cases hxq : x = q
   ·subst hxq
    have hb : x.before p = false → p.before x = true:=fun e=>by
     rw [Bool.eq_false_iff,Ne,Loc.am0] at e; rw [Loc.am0]; omega
    cases hx : x.before p with
    | true=>simp [Tab.put,h',hx]
    | false=>simp [Tab.put,h,h',hx,hb hx]
   ·have n1:=Loc.cq2.1 hxp
    have n2:=Loc.cq2.1 hxq
    cases h1 : x.before p with
    | true=>cases h2 : x.before q with
     | true=>simp [Tab.put,hxp,hxq,h1,h2,Tab.put_comm r s u h]
     | false =>
      have hqp : q.before p = true:=by
       rw [Bool.eq_false_iff,Ne,Loc.am0] at h2; rw [Loc.am0] at h1 ⊢; omega
      simp [Tab.put,hxp,hxq,h',h1,h2,hqp]
    | false=>cases h2 : x.before q with
     | true =>
      have hpq : p.before q = true:=by
       rw [Bool.eq_false_iff,Ne,Loc.am0] at h1; rw [Loc.am0] at h2 ⊢; omega
      simp [Tab.put,hxp,hxq,h,h1,h2,hpq]
     | false =>
      cases h3 : p.before q with
      | true =>
       have hqp : q.before p = false:=by rw [Bool.eq_false_iff]; intro e; rw [Loc.am0] at h3 e; omega
       simp [Tab.put,hxp,hxq,h,h',h1,h2,h3,hqp]
      | false =>
       have hqp : q.before p = true:=by
        rw [Bool.eq_false_iff,Ne,Loc.am0] at h3; rw [Loc.am0]; omega
       simp [Tab.put,hxp,hxq,h,h',h1,h2,h3,hqp]
theorem ae5 : ∀ {l : List Loc} {p q : Loc},q ∈ ap9 l p ↔ q ∈ l ∨ q = p
 | [],p,q=>by simp [ap9]
 | x :: r,p,q=>by
  unfold ap9
  split
  ·rename_i h; subst h; simp only [List.mem_cons]; exact ⟨fun h=>.inl h,fun h=>h.elim id .inl⟩
  ·split
   ·simp [ae5 (l:=r),or_assoc]
   ·simp only [List.mem_cons]; exact or_comm
theorem ce9 : ∀ (l : List Loc) (p q : Loc),ap9 (ap9 l p) q = ap9 (ap9 l q) p
 | l,p,q=>by
  have h:=fun (h : p ≠ q)=>congrArg (List.map Prod.fst) (Tab.put_comm (l.map fun x=>(x,ab3.dead 0 0)) (.dead 0 0) (.dead 0 0) h)
  have e : ∀ (l : List Loc) (p : Loc),(Tab.put (l.map fun x=>(x,ab3.dead 0 0)) p (.dead 0 0)) = (ap9 l p).map fun x=>(x,ab3.dead 0 0):=by
   intro l p
   induction l with
   | nil=>rfl
   | cons x r ih =>
    simp only [List.map_cons,Tab.put,ap9]
    split
    ·rename_i hx; subst hx; rfl
    ·split
     ·simp [ih]
     ·rfl
  by_cases hpq : p = q
  ·rw [hpq]
  ·have h:=h hpq
   rw [e,e,e,e] at h
   simpa [Function.comp_def] using h
theorem AS.get_set_same (S : AS) (p : Loc) (s : ab3) : (S.set p s).get p = some s:=Tab.aG6 _ _ _
theorem AS.ad6 (S : AS) {p q : Loc} (s : ab3) (h : q ≠ p) : (S.set p s).get q = S.get q:=Tab.a98 _ _ h
theorem AS.set_comm (S : AS) {p q : Loc} (s u : ab3) (h : p ≠ q) : (S.set p s).set q u = (S.set q u).set p s:=by
 simp only [AS.set,AS.mk.injEq,true_and]
 exact ⟨Tab.put_comm _ _ _ h,ce9 _ _ _,trivial⟩
def ERel (G : Gh) : List ah8 → List MapEntry → Prop
 | [],[]=>True
 | a :: r,e :: t=>a.key = e.key ∧ a.born = e.born ∧ VRel G a.val e.val ∧ ERel G r t
 | _,_=>False
theorem ERel.mono {G H : Gh} (hg : G.le H) : ∀ {xs : List ah8} {es : List MapEntry},ERel G xs es → ERel H xs es
 | [],[],_=>trivial
 | _ :: _,_ :: _,h=>⟨h.1,h.2.1,h.2.2.1.mono hg,ERel.mono hg h.2.2.2⟩
 | [],_ :: _,h=>h
 | _ :: _,[],h=>h
def FrzOK (fr : Nat × Nat) (lim size : Nat) : Prop:=∀ o,o < size → fr.1 ≤ o → o < fr.2 → o < lim
def ax2 (G : Gh) (w : World) (b c : Nat) : ab3 → Prop
 | .obj _ t cs=>(∀ o,G.imm b o = none) ∧ ∃ vs fr,w.heap[b]? = some (.cells vs t fr) ∧ FrzOK fr 0 vs.size ∧ CRel G cs vs.toList
 | .tok _ n sz e=>(∀ o,n * sz ≤ o → G.imm b o = none) ∧ ∃ vs fr,w.heap[b]? = some (.cells vs e fr) ∧ vs.size = c * sz ∧ n ≤ c ∧ fr.2 ≤ n * sz
 | .row _ n sz e cs=>(∀ o,G.imm b o = none) ∧ ∃ vs fr,w.heap[b]? = some (.cells vs e fr) ∧ vs.size = c * sz ∧ n ≤ c ∧ cs.length = n * sz ∧ FrzOK fr 0 vs.size ∧ CRel G cs (vs.toList.take (n * sz))
 | .map _ es ck=>∃ ents,w.heap[b]? = some (.map ents ck) ∧ ERel G es ents.toList
 | .iter _ s pos=>w.heap[b]? = some (.stringIter s pos)
 | .dead _ _=>False
structure WRel [Cfg] (G : Gh) (S : AS) (w : World) (B : Nat → Nat) : Prop where
 imm : ∀ b o v,G.imm b o = some v → w.cell? ⟨b,o,none⟩ = some v
 slot : ∀ p s,S.get p = some s → s.live = true → ∀ b c,G.own p s.gen s.ext = some (b,c) → ax2 G w b c s
 lvs : ∀ p s,S.get p = some s → s.lv S.lvl = true
 apart : ∀ p q s t,S.get p = some s → S.get q = some t → s.live = true → t.live = true → ∀ b c d,G.own p s.gen s.ext = some (b,c) → G.own q t.gen t.ext = some (b,d) → p = q
 dom : ∀ p g n x,G.own p g n = some x → p.l ≤ S.lvl ∧ ∃ s,S.get p = some s ∧ (g < s.gen ∨ (g = s.gen ∧ n ≤ s.ext))
 base : ∀ p g n b c,G.own p g n = some (b,c) → B p.l ≤ b ∧ b < w.heap.size
 mono : ∀ l m,l ≤ m → m ≤ S.lvl → B l ≤ B m
 fits : ∀ l,l ≤ S.lvl → B l ≤ w.heap.size
 far : G.far ≤ B 0 ∧ ∀ x ∈ Cfg.tabs,∃ v,G.imm x.1 x.2.1 = some v ∧ x.2.2 v
theorem WRel.bu3 [Cfg] {G : Gh} {S : AS} {w : World} {B : Nat → Nat} (h : WRel G S w B) : ∀ p g n x,G.own p g n = some x → p.l ≤ S.lvl:=fun p g n x e=>(h.dom p g n x e).1
def bm0 (G : Gh) (x y : Option Obj) (b : Nat) : Prop:=∃ vs t fr fr',x = some (.cells vs t fr) ∧ y = some (.cells vs t fr') ∧ (∃ o v,G.imm b o = some v) ∧ G.far ≤ b ∧
 ∀ o,o < fr'.2 → o < fr.2 ∨ ∃ o' v,o ≤ o' ∧ G.imm b o' = some v
theorem bm0.mono {G H : Gh} (h : G.le H) {x y : Option Obj} {b : Nat} (k : bm0 G x y b) : bm0 H x y b:=by
 obtain ⟨vs,t,fr,fr',h1,h2,⟨o,v,h3⟩,hf,h4⟩:=k
 exact ⟨vs,t,fr,fr',h1,h2,⟨o,v,h.imm _ _ _ h3⟩,by rw [h.far]; exact hf,fun o ho=>(h4 o ho).imp id fun ⟨o',v,k1,k2⟩=>⟨o',v,k1,h.imm _ _ _ k2⟩⟩
theorem bm0.trans {G : Gh} {x y z : Option Obj} {b : Nat} (h : bm0 G x y b) (k : bm0 G y z b) : bm0 G x z b:=by
 obtain ⟨vs,t,fr,fr',h1,h2,h3,hf,h4⟩:=h
 obtain ⟨us,u,gr,gr',k1,k2,_,_,k4⟩:=k
 rw [h2] at k1
 cases k1
 refine ⟨vs,t,fr,gr',h1,k2,h3,hf,fun o ho=>?_⟩
 rcases k4 o ho with m | m
 ·exact h4 o m
 ·exact .inr m
structure Mod (G : Gh) (S : AS) (w : World) (G' : Gh) (S' : AS) (w' : World) : Prop where
 le : G.le G'
 lvl : S'.lvl = S.lvl
 fn : S'.fn = S.fn
 log : ∃ nl : Loc → Prop,(∀ p,p ∈ S'.log ↔ p ∈ S.log ∨ nl p) ∧ (∀ b,b < w.heap.size → w'.heap[b]? = w.heap[b]? ∨ bm0 G' w.heap[b]? w'.heap[b]? b ∨ ∃ p,nl p ∧ ∃ g n c,G'.own p g n = some (b,c)) ∧
  (∀ p,p.l ≤ S.lvl → ¬ nl p → S'.get p = S.get p ∧ ∀ g n,G'.own p g n = G.own p g n) ∧
  (∀ b o v,G'.imm b o = some v → G.imm b o = some v ∨ w.heap.size ≤ b ∨ ∃ p,nl p ∧ ∃ g n c,G'.own p g n = some (b,c))
 os : w'.os = w.os
 tape : w'.tape = w.tape
 output : w'.output = w.output
 size : w.heap.size ≤ w'.heap.size
theorem Mod.refl (G : Gh) (S : AS) (w : World) : Mod G S w G S w :=
 ⟨Gh.le.refl G,rfl,rfl,⟨fun _=>False,fun _=>by simp,fun _ _=>.inl rfl,fun _ _ _=>⟨rfl,fun _ _=>rfl⟩,fun _ _ _ h=>.inl h⟩,rfl,rfl,rfl,Nat.le_refl _⟩
theorem Mod.trans {G H I : Gh} {S T U : AS} {a b c : World} (h : Mod G S a H T b) (k : Mod H T b I U c) : Mod G S a I U c:=by
 obtain ⟨n1,e1,b1,s1,i1⟩:=h.log
 obtain ⟨n2,e2,b2,s2,i2⟩:=k.log
 refine ⟨h.le.trans k.le,k.lvl.trans h.lvl,k.fn.trans h.fn,⟨fun p=>n1 p ∨ n2 p,fun p=>by rw [e2,e1,or_assoc],fun x hx=>?_,fun p hl hp=>?_,fun x o v hi=>?_⟩,k.os.trans h.os,k.tape.trans h.tape,k.output.trans h.output,Nat.le_trans h.size k.size⟩
 ·rcases b2 x (Nat.lt_of_lt_of_le hx h.size) with h2 | h2 | ⟨p,hp,g,n,d,ho⟩
  ·rcases b1 x hx with h1 | h1 | ⟨p,hp,g,n,d,ho⟩
   ·exact .inl (h2.trans h1)
   ·rw [h2]; exact .inr (.inl (h1.mono k.le))
   ·exact .inr (.inr ⟨p,.inl hp,g,n,d,k.le.own _ _ _ _ ho⟩)
  ·rcases b1 x hx with h1 | h1 | ⟨p,hp,g,n,d,ho⟩
   ·rw [h1] at h2; exact .inr (.inl h2)
   ·exact .inr (.inl ((h1.mono k.le).trans h2))
   ·exact .inr (.inr ⟨p,.inl hp,g,n,d,k.le.own _ _ _ _ ho⟩)
  ·exact .inr (.inr ⟨p,.inr hp,g,n,d,ho⟩)
 ·have hp1 : ¬ n1 p:=fun e=>hp (.inl e)
  have hp2 : ¬ n2 p:=fun e=>hp (.inr e)
  have hl2 : p.l ≤ T.lvl:=by rw [h.lvl]; exact hl
  exact ⟨(s2 p hl2 hp2).1.trans (s1 p hl hp1).1,fun g n=>((s2 p hl2 hp2).2 g n).trans ((s1 p hl hp1).2 g n)⟩
 ·rcases i2 x o v hi with h2 | h2 | ⟨p,hp,g,n,d,ho⟩
  ·rcases i1 x o v h2 with h1 | h1 | ⟨p,hp,g,n,d,ho⟩
   ·exact .inl h1
   ·exact .inr (.inl h1)
   ·exact .inr (.inr ⟨p,.inl hp,g,n,d,k.le.own _ _ _ _ ho⟩)
  ·exact .inr (.inl (Nat.le_trans h.size h2))
  ·exact .inr (.inr ⟨p,.inr hp,g,n,d,ho⟩)
open Go.RowKit
theorem aB1 {w : World} {a : Addr} {v : Value} (h : w.cell? a = some v) (o : Obj) : (w.alloc o).cell? a = some v :=
 (World.cell?_alloc_lt w o a (World.block_lt_of_cell? w a h)).trans h
theorem ax2.move {G G' : Gh} {w w' : World} {b c : Nat} {s : ab3} (hle : G.le G') (hh : w'.heap[b]? = w.heap[b]?) (hi : ∀ o,G'.imm b o = G.imm b o) (h : ax2 G w b c s) : ax2 G' w' b c s:=by
 cases s with
 | obj g t cs =>
  obtain ⟨h1,vs,fr,h2,h3,h4⟩:=h
  exact ⟨fun o=>(hi o).trans (h1 o),vs,fr,hh.trans h2,h3,h4.mono hle⟩
 | tok g n sz e =>
  obtain ⟨h1,vs,fr,h2,h3⟩:=h
  exact ⟨fun o ho=>(hi o).trans (h1 o ho),vs,fr,hh.trans h2,h3⟩
 | row g n sz e cs =>
  obtain ⟨h1,vs,fr,h2,h3,h4,h5,h6,h7⟩:=h
  exact ⟨fun o=>(hi o).trans (h1 o),vs,fr,hh.trans h2,h3,h4,h5,h6,h7.mono hle⟩
 | map g es ck =>
  obtain ⟨ents,h1,h2⟩:=h
  exact ⟨ents,hh.trans h1,h2.mono hle⟩
 | iter g s pos=>exact hh.trans h
 | dead g n=>exact h
theorem ax2.live {G : Gh} {w : World} {b c : Nat} {s : ab3} (h : ax2 G w b c s) : s.live = true:=by
 cases s with
 | dead g n=>exact absurd h id
 | _=>rfl
theorem WRel.drew [Cfg] {G : Gh} {S : AS} {w : World} {B : Nat → Nat} (h : WRel G S w B) : WRel G S w.drew B :=
 ⟨h.imm,fun p s hp hl b c ho=>(h.slot p s hp hl b c ho).move (Gh.le.refl G) rfl fun _=>rfl,h.lvs,h.apart,h.dom,h.base,h.mono,h.fits,h.far⟩
theorem Mod.drew (G : Gh) (S : AS) (w : World) : Mod G S w G S w.drew :=
 ⟨Gh.le.refl G,rfl,rfl,⟨fun _=>False,fun _=>by simp,fun _ _=>.inl rfl,fun _ _ _=>⟨rfl,fun _ _=>rfl⟩,fun _ _ _ h=>.inl h⟩,rfl,rfl,rfl,Nat.le_refl _⟩
theorem WRel.cG6 [Cfg] {G : Gh} {S : AS} {w : World} {B : Nat → Nat} (h : WRel G S w B) {b o : Nat} {v : Value} (hi : G.imm b o = some v) : b < w.heap.size :=
 World.block_lt_of_cell? w ⟨b,o,none⟩ (h.imm b o v hi)
theorem WRel.cF1 [Cfg] {G : Gh} {S : AS} {w : World} {B : Nat → Nat} (h : WRel G S w B) (o : Nat) : G.imm w.heap.size o = none:=by
 cases hi : G.imm w.heap.size o with
 | none=>rfl
 | some v=>exact absurd (h.cG6 hi) (Nat.lt_irrefl _)
theorem WRel.newImm [Cfg] {G : Gh} {S : AS} {w : World} {B : Nat → Nat} (h : WRel G S w B) (vs : List Value) (e : TypeId) :
  ∃ G',WRel G' S (w.alloc (.cells vs.toArray e)) B ∧ Mod G S w G' S (w.alloc (.cells vs.toArray e)) ∧ ∀ o v,vs[o]? = some v → G'.imm w.heap.size o = some v:=by
 have hlt : ∀ b,b < w.heap.size → (w.alloc (.cells vs.toArray e)).heap[b]? = w.heap[b]?:=fun b hb=>Below.heap_alloc w _ b hb
 have hle : G.le { own:=G.own,imm:=fun b o=>if b = w.heap.size then vs[o]? else G.imm b o,far:=G.far }:=⟨fun _ _ _ _ h=>h,fun b o v hi=>by
  simp only
  rw [if_neg (Nat.ne_of_lt (h.cG6 hi))]
  exact hi,rfl⟩
 refine ⟨{ own:=G.own,imm:=fun b o=>if b = w.heap.size then vs[o]? else G.imm b o,far:=G.far },⟨?_,?_,h.lvs,h.apart,h.dom,?_,h.mono,?_,h.far.1,fun x hx=>(h.far.2 x hx).imp fun _ k=>⟨hle.imm _ _ _ k.1,k.2⟩⟩,
  ⟨hle,rfl,rfl,⟨fun _=>False,fun _=>by simp,fun b hb=>.inl (hlt b hb),fun _ _ _=>⟨rfl,fun _ _=>rfl⟩,fun b o v hi=>?_⟩,rfl,rfl,rfl,by simp⟩,fun o v ho=>by simp [ho]⟩
 ·intro b o v hi
  simp only at hi
  split at hi
  ·rename_i hb
   subst hb
   simp only [World.cell?,heap_alloc_new]
   simpa using hi
  ·exact aB1 (h.imm b o v hi) _
 ·intro p s hp hl b c ho
  have hb:=(h.base p s.gen s.ext b c ho).2
  exact (h.slot p s hp hl b c ho).move hle (hlt b hb) fun o=>if_neg (Nat.ne_of_lt hb)
 ·intro p g n b c ho
  obtain ⟨h1,h2⟩:=h.base p g n b c ho
  exact ⟨h1,by simp; omega⟩
 ·intro l hl
  have:=h.fits l hl
  simp
  omega
 ·simp only at hi
  split at hi
  ·rename_i hb; exact .inr (.inl (by omega))
  ·exact .inl hi
theorem WRel.froze [Cfg] {G : Gh} {S : AS} {w w' : World} {B : Nat → Nat} (h : WRel G S w B) {b : Nat} (hf : bm0 G w.heap[b]? w'.heap[b]? b) (ho : ∀ x,x ≠ b → w'.heap[x]? = w.heap[x]?) (hsz : w'.heap.size = w.heap.size)
  (hos : w'.os = w.os) (htape : w'.tape = w.tape) (hout : w'.output = w.output) : WRel G S w' B ∧ Mod G S w G S w':=by
 obtain ⟨vs,t,fr,fr',h1,h2,⟨o0,v0,h3⟩,hfar,h4⟩:=hf
 have hcell : ∀ x o,w'.cell? ⟨x,o,none⟩ = w.cell? ⟨x,o,none⟩:=fun x o=>by
  by_cases hx : x = b
  ·subst hx; simp only [World.cell?,h1,h2]
  ·exact World.cell?_of_block (w:=w) (ho x hx)
 refine ⟨⟨fun x o v hi=>(hcell x o).trans (h.imm x o v hi),fun p s hp hl x c hown=>?_,h.lvs,h.apart,h.dom,fun p g n x c hown=>by rw [hsz]; exact h.base p g n x c hown,h.mono,fun l hl=>by rw [hsz]; exact h.fits l hl,h.far⟩,
  ⟨Gh.le.refl G,rfl,rfl,⟨fun _=>False,fun _=>by simp,fun x hx=>?_,fun _ _ _=>⟨rfl,fun _ _=>rfl⟩,fun _ _ _ h=>.inl h⟩,hos,htape,hout,by omega⟩⟩
 ·have hs:=h.slot p s hp hl x c hown
  by_cases hx : x = b
  ·subst hx
   cases s with
   | obj g t cs=>rw [hs.1 o0] at h3; cases h3
   | row g n sz e cs=>rw [hs.1 o0] at h3; cases h3
   | tok g n sz e =>
    obtain ⟨k1,us,gr,k2,k3,k4,k5⟩:=hs
    rw [h1] at k2
    cases k2
    refine ⟨k1,vs,fr',h2,k3,k4,Nat.le_of_not_lt fun hgt=>?_⟩
    rcases h4 (n * sz) hgt with m1 | ⟨o',v,m1,m2⟩
    ·omega
    ·rw [k1 o' m1] at m2; cases m2
   | map g es ck =>
    obtain ⟨ents,k1,_⟩:=hs
    rw [h1] at k1
    cases k1
   | iter g s pos =>
    have k1 : w.heap[x]? = some (.stringIter s pos):=hs
    rw [h1] at k1
    cases k1
   | dead g n=>exact hs
  ·exact hs.move (Gh.le.refl G) (ho x hx) fun _=>rfl
 ·by_cases hxb : x = b
  ·subst hxb
   exact .inr (.inl ⟨vs,t,fr,fr',h1,h2,⟨o0,v0,h3⟩,hfar,h4⟩)
  ·exact .inl (ho x hxb)
def Gh.upd (G : Gh) (p : Loc) (g n : Nat) (x : Nat × Nat) (imm : Nat → Nat → Option Value) : Gh :=
 { own:=fun q h m=>if q = p ∧ h = g ∧ m = n then some x else G.own q h m,imm,far:=G.far }
theorem WRel.upd [Cfg] {G : Gh} {S : AS} {w : World} {B : Nat → Nat} (h : WRel G S w B) {p : Loc} {s : ab3} {b c : Nat} {imm : Nat → Nat → Option Value} {w' : World}
  (h1 : p.l ≤ S.lvl) (h2 : ∀ x,G.own p s.gen s.ext = some x → x = (b,c)) (h3 : ∀ t,S.get p = some t → t.gen < s.gen ∨ (t.gen = s.gen ∧ t.ext ≤ s.ext))
  (h4 : ∀ q t d,q ≠ p → S.get q = some t → t.live = true → G.own q t.gen t.ext = some (b,d) → False)
  (h5 : ∀ x,x < w.heap.size → x ≠ b → w'.heap[x]? = w.heap[x]?) (h6 : w.heap.size ≤ w'.heap.size) (h7 : b < w'.heap.size) (h8 : B p.l ≤ b)
  (h9 : ∀ x o v,imm x o = some v → w'.cell? ⟨x,o,none⟩ = some v) (h10 : ∀ x o,x ≠ b → imm x o = G.imm x o) (h11 : ∀ x o v,G.imm x o = some v → imm x o = some v)
  (h12 : ax2 (G.upd p s.gen s.ext (b,c) imm) w' b c s) (h13 : s.lv S.lvl = true) (hos : w'.os = w.os) (htape : w'.tape = w.tape) (hout : w'.output = w.output) :
  WRel (G.upd p s.gen s.ext (b,c) imm) (S.set p s) w' B ∧ Mod G S w (G.upd p s.gen s.ext (b,c) imm) (S.set p s) w':=by
 have hle : G.le (G.upd p s.gen s.ext (b,c) imm):=⟨fun q g n x ho=>by
  simp only [Gh.upd]
  split
  ·rename_i e
   obtain ⟨rfl,rfl,rfl⟩:=e
   rw [h2 x ho]
  ·exact ho,h11,rfl⟩
 have hlive : s.live = true:=h12.live
 have hother : ∀ q,q ≠ p → ∀ g n,(G.upd p s.gen s.ext (b,c) imm).own q g n = G.own q g n:=fun q hq g n=>by
  simp only [Gh.upd]
  rw [if_neg (fun e=>hq e.1)]
 have hcur : (G.upd p s.gen s.ext (b,c) imm).own p s.gen s.ext = some (b,c):=by simp [Gh.upd]
 refine ⟨⟨h9,?_,?_,?_,?_,?_,h.mono,?_,h.far.1,fun x hx=>(h.far.2 x hx).imp fun _ k=>⟨hle.imm _ _ _ k.1,k.2⟩⟩,⟨hle,rfl,rfl,⟨fun q=>q = p,fun q=>ae5,fun x hx=>?_,fun q _ hq=>?_,fun x o v hi=>?_⟩,hos,htape,hout,h6⟩⟩
 ·intro q t hq hl x d ho
  by_cases hqp : q = p
  ·subst hqp
   rw [AS.get_set_same] at hq
   cases hq
   rw [hcur] at ho
   cases ho
   exact h12
  ·rw [AS.ad6 _ _ hqp] at hq
   rw [hother q hqp] at ho
   have hxb : x ≠ b:=fun e=>h4 q _ d hqp hq hl (by rw [← e]; exact ho)
   exact (h.slot q t hq hl x d ho).move hle (h5 x (h.base _ _ _ x d ho).2 hxb) fun o=>h10 x o hxb
 ·intro q t hq
  by_cases hqp : q = p
  ·subst hqp
   rw [AS.get_set_same] at hq
   cases hq
   exact h13
  ·rw [AS.ad6 _ _ hqp] at hq
   exact h.lvs q t hq
 ·intro q r t u hq hr ht hu x d d' ho ho'
  by_cases hqp : q = p
  ·by_cases hrp : r = p
   ·rw [hqp,hrp]
   ·subst hqp
    rw [AS.get_set_same] at hq
    cases hq
    rw [hcur] at ho
    cases ho
    rw [AS.ad6 _ _ hrp] at hr
    rw [hother r hrp] at ho'
    exact (h4 r u d' hrp hr hu ho').elim
  ·by_cases hrp : r = p
   ·subst hrp
    rw [AS.get_set_same] at hr
    cases hr
    rw [hcur] at ho'
    cases ho'
    rw [AS.ad6 _ _ hqp] at hq
    rw [hother q hqp] at ho
    exact (h4 q t d hqp hq ht ho).elim
   ·rw [AS.ad6 _ _ hqp] at hq
    rw [AS.ad6 _ _ hrp] at hr
    rw [hother q hqp] at ho
    rw [hother r hrp] at ho'
    exact h.apart q r t u hq hr ht hu x d d' ho ho'
 ·intro q g n x ho
  by_cases hqp : q = p
  ·subst hqp
   refine ⟨h1,s,AS.get_set_same _ _ _,?_⟩
   simp only [Gh.upd] at ho
   split at ho
   ·rename_i e
    obtain ⟨_,rfl,rfl⟩:=e
    exact .inr ⟨rfl,Nat.le_refl _⟩
   ·obtain ⟨_,t,ht,hlt⟩:=h.dom q g n x ho
    have:=h3 t ht
    omega
  ·rw [hother q hqp] at ho
   obtain ⟨k1,t,ht,hlt⟩:=h.dom q g n x ho
   exact ⟨k1,t,by rw [AS.ad6 _ _ hqp]; exact ht,hlt⟩
 ·intro q g n x d ho
  simp only [Gh.upd] at ho
  split at ho
  ·rename_i e
   obtain ⟨rfl,_,_⟩:=e
   cases ho
   exact ⟨h8,h7⟩
  ·obtain ⟨k1,k2⟩:=h.base q g n x d ho
   exact ⟨k1,Nat.lt_of_lt_of_le k2 h6⟩
 ·intro l hl
  exact Nat.le_trans (h.fits l hl) h6
 ·by_cases hxb : x = b
  ·subst hxb
   exact .inr (.inr ⟨p,rfl,_,_,_,hcur⟩)
  ·exact .inl (h5 x hx hxb)
 ·have hqp : q ≠ p:=hq
  exact ⟨AS.ad6 _ _ hqp,fun g n=>hother q hqp g n⟩
 ·by_cases hxb : x = b
  ·subst hxb
   exact .inr (.inr ⟨p,rfl,_,_,_,hcur⟩)
  ·exact .inl ((h10 x o hxb).symm.trans hi)
theorem AS.bz4 {S : AS} {p : Loc} {t : ab3} (h : S.get p = some t) : t.gen < S.fresh p:=by
 simp [AS.fresh,h]
theorem WRel.bt0 [Cfg] {G : Gh} {S : AS} {w : World} {B : Nat → Nat} (h : WRel G S w B) (p : Loc) (n : Nat) : G.own p (S.fresh p) n = none:=by
 cases ho : G.own p (S.fresh p) n with
 | none=>rfl
 | some x =>
  obtain ⟨_,s,hs,hlt⟩:=h.dom _ _ _ _ ho
  have:=AS.bz4 hs
  omega
theorem WRel.bz7 [Cfg] {G : Gh} {S : AS} {w : World} {B : Nat → Nat} (h : WRel G S w B) {p : Loc} {t : ab3} (ht : S.get p = some t) {n : Nat} (hn : t.ext < n) : G.own p t.gen n = none:=by
 cases ho : G.own p t.gen n with
 | none=>rfl
 | some x =>
  obtain ⟨_,s,hs,hlt⟩:=h.dom _ _ _ _ ho
  rw [ht] at hs
  cases hs
  omega
theorem Gh.cK1 {G : Gh} {p : Loc} {g n : Nat} {x : Nat × Nat} (h : ∀ y,G.own p g n = some y → y = x) : G.le (G.upd p g n x G.imm):=⟨fun q g' m y ho=>by
 simp only [Gh.upd]
 split
 ·rename_i e
  obtain ⟨rfl,rfl,rfl⟩:=e
  rw [h y ho]
 ·exact ho,fun _ _ _ h=>h,rfl⟩
theorem WRel.bX5 [Cfg] {G : Gh} {S : AS} {w : World} {B : Nat → Nat} (h : WRel G S w B) {p : Loc} (hp : p.l ≤ S.lvl) (s : ab3) (hgen : s.gen = S.fresh p) (ob : Obj) (c : Nat) (hlv : s.lv S.lvl = true)
  (hs : ∀ G',G.le G' → (∀ o,G'.imm w.heap.size o = none) → ax2 G' (w.alloc ob) w.heap.size c s) :
  ∃ G',G'.own p s.gen s.ext = some (w.heap.size,c) ∧ WRel G' (S.set p s) (w.alloc ob) B ∧ Mod G S w G' (S.set p s) (w.alloc ob):=by
 have hn:=h.bt0 p s.ext
 refine ⟨_,?_,h.upd (p:=p) (s:=s) (b:=w.heap.size) (c:=c) (imm:=G.imm) (w':=w.alloc ob) hp
  (fun x hx=>by rw [hgen,hn] at hx; cases hx) (fun t ht=>.inl (by rw [hgen]; exact AS.bz4 ht))
  (fun q t d _ _ _ ho=>by have:=(h.base _ _ _ _ _ ho).2; omega) (fun x hx _=>Below.heap_alloc w _ x hx) (by simp) (by simp) (h.fits _ hp)
  (fun x o v hi=>aB1 (h.imm x o v hi) _) (fun _ _ _=>rfl) (fun _ _ _ h=>h) (hs _ (Gh.cK1 fun y hy=>by rw [hgen,hn] at hy; cases hy) fun o=>h.cF1 o) hlv rfl rfl rfl⟩
 simp [Gh.upd]
theorem WRel.setSlot [Cfg] {G : Gh} {S : AS} {w w' : World} {B : Nat → Nat} (h : WRel G S w B) {p : Loc} {s t : ab3} {b c : Nat} (hp : S.get p = some t) (hl : t.live = true) (ho : G.own p t.gen t.ext = some (b,c)) (hgen : s.gen = t.gen) (hext : t.ext ≤ s.ext)
  (himm : ∀ o,G.imm b o = none) (hlv : s.lv S.lvl = true) (h5 : ∀ x,x ≠ b → w'.heap[x]? = w.heap[x]?) (h6 : w'.heap.size = w.heap.size) (hos : w'.os = w.os) (htape : w'.tape = w.tape) (hout : w'.output = w.output)
  (hs : ∀ G',G.le G' → (∀ o,G'.imm b o = none) → ax2 G' w' b c s) : ∃ G',G'.own p s.gen s.ext = some (b,c) ∧ WRel G' (S.set p s) w' B ∧ Mod G S w G' (S.set p s) w':=by
 have hb:=h.base _ _ _ _ _ ho
 have hsame : ∀ y,G.own p s.gen s.ext = some y → y = (b,c):=fun y hy=>by
  rw [hgen] at hy
  rcases Nat.lt_or_ge t.ext s.ext with hlt | hge
  ·rw [h.bz7 hp hlt] at hy; cases hy
  ·rw [show s.ext = t.ext by omega,ho] at hy
   cases hy; rfl
 refine ⟨_,?_,h.upd (p:=p) (s:=s) (b:=b) (c:=c) (imm:=G.imm) (w':=w') (h.dom _ _ _ _ ho).1 hsame (fun u hu=>by rw [hp] at hu; cases hu; exact .inr ⟨hgen.symm,hext⟩)
  (fun q u d hq hu hlu ho'=>hq (h.apart q p u t hu hp hlu hl b d c ho' ho)) (fun x _ hx=>h5 x hx) (by omega) (by rw [h6]; exact hb.2) hb.1
  (fun x o v hi=>?_) (fun _ _ _=>rfl) (fun _ _ _ h=>h) (hs _ (Gh.cK1 hsame) himm) hlv hos htape hout⟩
 ·simp [Gh.upd]
 ·have hxb : x ≠ b:=fun e=>by rw [e,himm o] at hi; cases hi
  rw [World.cell?_of_block (w:=w) (h5 x hxb)]
  exact h.imm x o v hi
theorem WRel.moveSlot [Cfg] {G : Gh} {S : AS} {w : World} {B : Nat → Nat} (h : WRel G S w B) {p : Loc} {s t : ab3} (hpl : p.l ≤ S.lvl) (hp : S.get p = some t) (hgen : s.gen = t.gen) (hext : t.ext < s.ext) (ob : Obj) (c : Nat) (hlv : s.lv S.lvl = true)
  (hs : ∀ G',G.le G' → (∀ o,G'.imm w.heap.size o = none) → ax2 G' (w.alloc ob) w.heap.size c s) :
  ∃ G',G'.own p s.gen s.ext = some (w.heap.size,c) ∧ WRel G' (S.set p s) (w.alloc ob) B ∧ Mod G S w G' (S.set p s) (w.alloc ob):=by
 have hn : G.own p s.gen s.ext = none:=by rw [hgen]; exact h.bz7 hp hext
 refine ⟨_,?_,h.upd (p:=p) (s:=s) (b:=w.heap.size) (c:=c) (imm:=G.imm) (w':=w.alloc ob) hpl
  (fun x hx=>by rw [hn] at hx; cases hx) (fun u hu=>by rw [hp] at hu; cases hu; exact .inr ⟨hgen.symm,Nat.le_of_lt hext⟩)
  (fun q t d _ _ _ ho=>by have:=(h.base _ _ _ _ _ ho).2; omega) (fun x hx _=>Below.heap_alloc w _ x hx) (by simp) (by simp) (h.fits _ hpl)
  (fun x o v hi=>aB1 (h.imm x o v hi) _) (fun _ _ _=>rfl) (fun _ _ _ h=>h) (hs _ (Gh.cK1 fun y hy=>by rw [hn] at hy; cases hy) fun o=>h.cF1 o) hlv rfl rfl rfl⟩
 simp [Gh.upd]
theorem WRel.cz3 [Cfg] {G : Gh} {S : AS} {w : World} {B : Nat → Nat} (h : WRel G S w B) {p : Loc} {g n sz cap : Nat} {e : TypeId} (xs rest : List Value) (hp1 : p.l ≤ S.lvl)
  (hn : G.own p g n = none) (h3 : ∀ t,S.get p = some t → t.gen < g ∨ (t.gen = g ∧ t.ext ≤ n)) (hx : xs.length = n * sz) (hcap : n ≤ cap) (hall : (xs ++ rest).length = cap * sz) :
  ∃ G',G'.own p g n = some (w.heap.size,cap) ∧ (∀ o v,xs[o]? = some v → G'.imm w.heap.size o = some v) ∧ WRel G' (S.set p (.tok g n sz e)) (w.alloc (.cells (xs ++ rest).toArray e)) B ∧
   Mod G S w G' (S.set p (.tok g n sz e)) (w.alloc (.cells (xs ++ rest).toArray e)):=by
 refine ⟨_,?_,?_,h.upd (p:=p) (s:=.tok g n sz e) (b:=w.heap.size) (c:=cap) (imm:=fun b o=>if b = w.heap.size then xs[o]? else G.imm b o) (w':=w.alloc (.cells (xs ++ rest).toArray e)) hp1
  (fun x hx=>by rw [ab3.gen,ab3.ext,hn] at hx; cases hx) h3
  (fun q t d _ _ _ ho=>by have:=(h.base _ _ _ _ _ ho).2; omega) (fun x hx _=>Below.heap_alloc w _ x hx) (by simp) (by simp) (h.fits _ hp1)
  (fun x o v hi=>?_) (fun x o hne=>if_neg hne) (fun x o v hi=>?_) ?_ rfl rfl rfl rfl⟩
 ·simp [Gh.upd,ab3.gen,ab3.ext]
 ·intro o v ho
  simp [Gh.upd,ho]
 ·split at hi
  ·rename_i hb
   subst hb
   simp only [World.cell?,heap_alloc_new]
   have hlt:=(List.getElem?_eq_some_iff.1 hi).1
   simp only [List.getElem?_toArray]
   simpa [List.getElem?_append_left hlt] using hi
  ·exact aB1 (h.imm x o v hi) _
 ·rw [if_neg (Nat.ne_of_lt (h.cG6 hi))]
  exact hi
 ·refine ⟨fun o ho=>?_,(xs ++ rest).toArray,(0,0),heap_alloc_new w _,by simpa using hall,hcap,Nat.zero_le _⟩
  simp only [Gh.upd,if_true]
  exact List.getElem?_eq_none (by omega)
theorem WRel.growTok [Cfg] {G : Gh} {S : AS} {w : World} {B : Nat → Nat} (h : WRel G S w B) {p : Loc} {g n m sz b cap : Nat} {e : TypeId} {cur : Array Value} {fr : Nat × Nat} (news : List Value) (hp : S.get p = some (.tok g n sz e))
  (ho : G.own p g n = some (b,cap)) (hcur : w.heap[b]? = some (.cells cur e fr)) (hnews : news.length = m * sz) (hm : 0 < m) (hfit : n + m ≤ cap) :
  ∃ G',G'.own p g (n + m) = some (b,cap) ∧ (∀ o v,news[o]? = some v → G'.imm b (n * sz + o) = some v) ∧
   WRel G' (S.set p (.tok g (n + m) sz e)) (w.setRow b (cur.toList.take (n * sz) ++ news ++ cur.toList.drop (n * sz + news.length)).toArray) B ∧
   Mod G S w G' (S.set p (.tok g (n + m) sz e)) (w.setRow b (cur.toList.take (n * sz) ++ news ++ cur.toList.drop (n * sz + news.length)).toArray):=by
 obtain ⟨h1,vs,fr',h2,hsz,hncap,hfr⟩:=h.slot p (.tok g n sz e) hp rfl b cap ho
 rw [hcur] at h2
 cases h2
 have hb:=h.base _ _ _ _ _ ho
 have hnone : G.own p g (n + m) = none:=h.bz7 hp (show n < n + m by omega)
 have hmul : (n + m) * sz = n * sz + m * sz:=Nat.add_mul ..
 have hfit' : (n + m) * sz ≤ cur.size:=by rw [hsz]; exact Nat.mul_le_mul_right _ hfit
 refine ⟨_,?_,?_,h.upd (p:=p) (s:=.tok g (n + m) sz e) (b:=b) (c:=cap) (imm:=fun x o=>if x = b ∧ n * sz ≤ o ∧ o < n * sz + news.length then news[o - n * sz]? else G.imm x o)
  (w':=w.setRow b (cur.toList.take (n * sz) ++ news ++ cur.toList.drop (n * sz + news.length)).toArray) (h.dom _ _ _ _ ho).1
  (fun x hx=>by rw [ab3.gen,ab3.ext,hnone] at hx; cases hx) (fun t ht=>by rw [hp] at ht; cases ht; exact .inr ⟨rfl,by simp [ab3.ext]⟩)
  (fun q t d hq ht hl ho'=>hq (h.apart q p t (.tok g n sz e) ht hp hl rfl b d cap ho' ho)) (fun x hx hne=>setRow_other w b x _ hne) (by simp) (by simpa using hb.2) hb.1
  (fun x o v hi=>?_) (fun x o hne=>if_neg (fun e=>hne e.1)) (fun x o v hi=>?_) ?_ rfl rfl rfl rfl⟩
 ·simp [Gh.upd,ab3.gen,ab3.ext]
 ·intro o v hv
  have hlt:=(List.getElem?_eq_some_iff.1 hv).1
  simp only [Gh.upd]
  rw [if_pos ⟨by trivial,by omega,by omega⟩,Nat.add_sub_cancel_left]
  exact hv
 ·have hrow:=setRow_heap w b cur (cur.toList.take (n * sz) ++ news ++ cur.toList.drop (n * sz + news.length)).toArray e fr hcur
  have htk : (cur.toList.take (n * sz)).length = n * sz:=by simp; omega
  split at hi
  ·rename_i hx
   obtain ⟨rfl,hlo,hhi⟩:=hx
   simp only [World.cell?,hrow]
   simp only [Option.isSome_none,Bool.false_eq_true,if_false,List.getElem?_toArray]
   rw [List.append_assoc,List.getElem?_append_right (by omega),htk,List.getElem?_append_left (by omega)]
   exact hi
  ·rename_i hx
   by_cases hxb : x = b
   ·subst hxb
    have hlo : o < n * sz:=by
     rcases Nat.lt_or_ge o (n * sz) with hlt | hge
     ·exact hlt
     ·rw [h1 o hge] at hi; cases hi
    have hc:=h.imm x o v hi
    simp only [World.cell?,hcur] at hc
    simp only [World.cell?,hrow]
    simp only [Option.isSome_none,Bool.false_eq_true,if_false,List.getElem?_toArray] at hc ⊢
    rw [List.append_assoc,List.getElem?_append_left (by omega),List.getElem?_take,if_pos hlo]
    simpa using hc
   ·rw [World.cell?_of_block (w:=w) (by exact setRow_other w b x _ hxb)]
    exact h.imm x o v hi
 ·split
  ·rename_i hx
   obtain ⟨rfl,hlo,_⟩:=hx
   rw [h1 o hlo] at hi
   cases hi
  ·exact hi
 ·refine ⟨fun o ho'=>?_,_,fr,setRow_heap w b cur _ e fr hcur,?_,hfit,by omega⟩
  ·simp only [Gh.upd]
   rw [if_neg (by omega)]
   exact h1 o (by omega)
  ·simp
   omega
open Go.RowKit
theorem aH5 {P : Program} {α : Type} {s : Sem α} {a : α} (h : aa3 P s = some a) (w : World) : s.run P w = .ok a w:=by
 induction s with
 | pure b=>simp only [aa3,Option.some.injEq] at h; rw [h]; rfl
 | program k ih=>exact ih P h
 | mark m k ih=>exact ih h
 | _=>simp [aa3] at h
theorem a95 (G : Gh) (v : Value) : VRel G (AV.ofV1 v) v:=by
 unfold AV.ofV1
 split
 ·rename_i cs; simpa using VRel.aN1 (CRel.lits G cs.toList)
 ·exact .lit v
theorem cz0 (G : Gh) (v : Value) : VRel G (AV.ofV v) v:=by
 unfold AV.ofV
 split
 ·rename_i cs; simpa using VRel.aN1 (CRel.lits G cs.toList)
 ·rename_i vs
  have : VRel G (.tup (vs.toList.map AV.ofV1)) (.tuple vs.toList.toArray):=by
   refine .tup _ _ (by simp) fun i a v ha hv=>?_
   rw [List.getElem?_map,hv] at ha
   simp at ha
   rw [← ha]
   exact a95 G v
  simpa using this
 ·exact .lit v
def DRel (G : Gh) : List (FuncId × List AV) → List Deferred → Prop
 | [],[]=>True
 | x :: r,d :: t=>(∃ cap,d.target = .fn (.func x.1) cap ∧ CRel G x.2 (d.args ++ cap).toList) ∧ DRel G r t
 | _,_=>False
theorem DRel.mono {G H : Gh} (hg : G.le H) : ∀ {xs : List (FuncId × List AV)} {ds : List Deferred},DRel G xs ds → DRel H xs ds
 | [],[],_=>trivial
 | _ :: _,_ :: _,⟨⟨cap,h1,h2⟩,h3⟩=>⟨⟨cap,h1,h2.mono hg⟩,DRel.mono hg h3⟩
 | [],_ :: _,h=>h
 | _ :: _,[],h=>h
def TRel (G : Gh) (S : AS) (T : TM) (a : Act) : Prop:=CRel G T a.tmps.toList ∧ DRel G S.dfr a.defers
theorem TRel.mono {G H : Gh} {S S' : AS} (hg : G.le H) {T : TM} {a : Act} (h : TRel G S T a) (hd : S'.dfr = S.dfr) : TRel H S' T a:=⟨h.1.mono hg,by rw [hd]; exact h.2.mono hg⟩
theorem TRel.eval {G : Gh} {S : AS} {T : TM} {a : Act} (h : TRel G S T a) (x : Operand) : VRel G (aev T x) (a.eval x):=by
 cases x with
 | tmp t =>
  simp only [aev,Act.eval]
  rcases Nat.lt_or_ge t T.length with ht | ht
  ·obtain ⟨v,hv,hr⟩:=h.1.get (List.getElem?_eq_getElem ht)
   rw [List.getD_eq_getElem?_getD,List.getElem?_eq_getElem ht]
   rw [Array.getElem?_toList] at hv
   simpa [hv] using hr
  ·have hl : T.length = a.tmps.size:=by simpa using h.1.1
   rw [List.getD_eq_getElem?_getD,List.getElem?_eq_none ht]
   rw [Array.getD_eq_getD_getElem?,Array.getElem?_eq_none (hl ▸ ht)]
   exact .lit _
 | const v=>exact cz0 G v
 | global g=>exact .lit _
 | func f=>exact .lit _
theorem TRel.put {G : Gh} {S : AS} {T : TM} {a : Act} (h : TRel G S T a) (d : Option Tmp) {x : AV} {v : Value} (hv : VRel G x v) : TRel G S (T.put d x) (a.put d v):=by
 cases d with
 | none=>exact h
 | some d =>
  refine ⟨?_,h.2⟩
  simp only [TM.put,Act.put,Array.toList_setIfInBounds]
  exact h.1.set hv
theorem TRel.yielded {G : Gh} {S : AS} {T : TM} {a : Act} (h : TRel G S T a) (ops : Array Oper) : yielded ops a.tmps = ao1 ops T:=by
 funext j
 unfold Go.yielded ao1
 cases hd : (ops[j]?).bind (·.dst) with
 | none=>simp
 | some d =>
  simp only [Option.bind_some]
  cases ht : T[d]? with
  | none =>
   have hl : T.length = a.tmps.size:=by simpa using h.1.1
   rw [Array.getElem?_eq_none (hl ▸ List.getElem?_eq_none_iff.1 ht)]
  | some x =>
   obtain ⟨v,hv,hr⟩:=h.1.get ht
   rw [Array.getElem?_toList] at hv
   rw [hv]
   cases hr <;> first | rfl | (cases v <;> rfl)
mutual
theorem VRel.toV {G : Gh} : ∀ {a : AV} {v u : Value},VRel G a v → a.toV = some u → v = u
 | .lit x,v,u,h,e=>by
  simp only [AV.toV,Option.some.injEq] at e
  rw [← e]; exact h.al0
 | .agg cs,v,u,h,e=>by
  obtain ⟨vs,rfl,hc⟩:=h.bs5
  simp only [AV.toV] at e
  obtain ⟨us,h1,rfl⟩:=Option.map_eq_some_iff.1 e
  rw [CRel.toVL hc h1]
 | .tup cs,v,u,h,e=>by
  obtain ⟨vs,rfl,hc⟩:=h.bR6
  simp only [AV.toV] at e
  obtain ⟨us,h1,rfl⟩:=Option.map_eq_some_iff.1 e
  rw [CRel.toVL hc h1]
 | .iface t x,v,u,h,e=>by
  cases h with
  | iface _ _ v' h' =>
   simp only [AV.toV] at e
   obtain ⟨u',h1,rfl⟩:=Option.map_eq_some_iff.1 e
   rw [VRel.toV h' h1]
 | .ptr ..,_,_,_,e=>by simp [AV.toV] at e
 | .cref ..,_,_,_,e=>by simp [AV.toV] at e
 | .list ..,_,_,_,e=>by simp [AV.toV] at e
 | .row ..,_,_,_,e=>by simp [AV.toV] at e
 | .mref ..,_,_,_,e=>by simp [AV.toV] at e
 | .fn ..,_,_,_,e=>by simp [AV.toV] at e
theorem CRel.toVL {G : Gh} : ∀ {xs : List AV} {vs us : List Value},CRel G xs vs → AV.toVL xs = some us → vs = us
 | [],vs,us,h,e=>by
  simp only [AV.toVL,Option.some.injEq] at e
  rw [← e]
  exact List.eq_nil_of_length_eq_zero h.1.symm
 | a :: r,[],us,h,e=>by have:=h.1; simp at this
 | a :: r,v :: vs,us,h,e=>by
  simp only [AV.toVL] at e
  split at e
  ·rename_i x xs h1 h2
   cases e
   rw [VRel.toV h.head h1,CRel.toVL h.tail h2]
  ·cases e
end
def OpOk [Cfg] (G : Gh) (S : AS) (w : World) (B : Nat → Nat) (r : Result Next) (v : AV) (S' : AS) : Prop :=
 ∃ G' w' u,(r = .ok (.value u) w' ∨ (r = .ok .skip w' ∧ u = undef)) ∧ VRel G' v u ∧ WRel G' S' w' B ∧ Mod G S w G' S' w'
def ArOk [Cfg] (P : Program) (G : Gh) (S : AS) (w : World) (B : Nat → Nat) (r : Result Next) : AR → Prop
 | .val v=>OpOk G S w B r v S
 | .chg v p s=>OpOk G S w B r v (S.set p s)
 | .call f args=>∃ args',CRel G args args' ∧ r = (callFunc f args'.toArray).run P w
 | .pan v=>∃ u,VRel G v u ∧ r = .halt (.panic u) w
 | .dfr f args=>∃ d,r = .ok (.defer d) w ∧ ∃ cap,d.target = .fn (.func f) cap ∧ CRel G args (d.args ++ cap).toList
section
variable {P : Program} {G : Gh} {S : AS} {w : World} {B : Nat → Nat}
theorem am2 [Cfg] (hW : WRel G S w B) {r : Result Next} {v : AV} {u : Value} (hr : r = .ok (.value u) w) (hv : VRel G v u) : OpOk G S w B r v S :=
 ⟨G,w,u,.inl hr,hv,hW,Mod.refl G S w⟩
theorem aB8 [Cfg] (hW : WRel G S w B) {T : TM} {a : Act} (hT : TRel G S T a) {o : Oper} {x : AR} (h : aD3 P (aev T) o = some x) : ArOk P G S w B ((execOp a.eval o).run P w) x:=by
 unfold aD3 at h
 split at h
 ·rename_i hc
  simp only [Bool.and_eq_true] at hc
  have he : execOp a.eval o = execOp (fun x=>((aev T x).toV).getD undef) o:=execOp_congr o (fun cs b e=>by rw [e] at hc; simp [aJ0] at hc) fun x hx=>by
   have h1:=Array.all_eq_true_iff_forall_mem.1 hc.2 x hx
   obtain ⟨u,hu⟩:=Option.isSome_iff_exists.1 h1
   rw [hu,(hT.eval x).toV hu]
   rfl
  split at h
  ·rename_i v hv
   cases h
   rw [he]
   exact am2 hW (aH5 hv w) (cz0 G v)
  ·cases h
 ·cases h
theorem ar8 [Cfg] (hW : WRel G S w B) {T : TM} {a : Act} (hT : TRel G S T a) {o : Oper} {x : AR} {r : Option AR} (h : an7 r P (aev T) o = some x) (hr : ∀ y,r = some y → ArOk P G S w B ((execOp a.eval o).run P w) y) :
  ArOk P G S w B ((execOp a.eval o).run P w) x:=by
 unfold an7 at h
 split at h
 ·cases h; exact hr _ rfl
 ·exact aB8 hW hT h
theorem ad5 {t : TypeId} {i : TypeInfo} (h : P.info? t = some i) (w : World) : (sizeOf t).run P w = .ok i.size w:=by
 simp [sizeOf,typeInfo,h]
theorem ba2 {t : TypeId} {d : TypeDesc} (h : P.underlying t = some d) (w : World) : (isAgg t).run P w = .ok (bQ7 d) w:=by
 simp only [isAgg,Sem.run_bind,run_underlying h,Result.andThen_ok]
 cases d <;> rfl
theorem ah1 (b off j : Nat) : (⟨b,off,none⟩ : Addr).add j = ⟨b,off + j,none⟩:=by unfold Addr.add; split <;> simp_all
theorem WRel.ai0 [Cfg] (hW : WRel G S w B) {p : Loc} {g n b c : Nat} {cs : List AV} (h : S.ai0 p g n = some cs) (ho : G.own p g n = some (b,c)) :
  ∃ s vs t fr,S.get p = some s ∧ s.live = true ∧ s.gen = g ∧ s.ext = n ∧ (∀ o,G.imm b o = none) ∧ w.heap[b]? = some (.cells vs t fr) ∧ FrzOK fr 0 vs.size ∧ CRel G cs (vs.toList.take cs.length) ∧ cs.length ≤ vs.size ∧
   (∀ cs' : List AV,AV.lvL S.lvl cs' = true → (s.aF7 cs').lv S.lvl = true ∧ (s.aF7 cs').gen = g ∧ (s.aF7 cs').ext = n) ∧
   ∀ (G' : Gh) (w' : World) (cs' : List AV) (vs' : List Value),(∀ o,G'.imm b o = none) → cs'.length = cs.length → CRel G' cs' (vs'.take cs'.length) → vs'.length = vs.size → w'.heap[b]? = some (.cells vs'.toArray t fr) → ax2 G' w' b c (s.aF7 cs'):=by
 unfold AS.ai0 at h
 split at h
 ·rename_i g' t cs' hs
  split at h
  ·rename_i hc
   obtain ⟨rfl,rfl⟩:=hc
   cases h
   obtain ⟨h1,vs,fr,h2,h3,h4⟩:=hW.slot p _ hs rfl b c ho
   have hl : cs.length = vs.size:=by simpa using h4.1
   refine ⟨_,vs,t,fr,hs,rfl,rfl,rfl,h1,h2,h3,?_,by omega,fun cs' hcs=>⟨hcs,rfl,rfl⟩,fun G' w' cs' vs' k1 k2 k3 k4 k5=>⟨k1,vs'.toArray,fr,k5,?_,?_⟩⟩
   ·rw [List.take_of_length_le (by simp; omega)]; exact h4
   ·simpa [k4] using h3
   ·rw [List.take_of_length_le (by omega)] at k3; exact k3
  ·cases h
 ·rename_i g' n' sz e cs' hs
  split at h
  ·rename_i hc
   obtain ⟨rfl,rfl⟩:=hc
   cases h
   obtain ⟨h1,vs,fr,h2,h3,h4,h5,h6,h7⟩:=hW.slot p _ hs rfl b c ho
   have hl : n' * sz ≤ vs.size:=by rw [h3]; exact Nat.mul_le_mul_right _ h4
   refine ⟨_,vs,e,fr,hs,rfl,rfl,rfl,h1,h2,h6,by rw [h5]; exact h7,by omega,fun cs' hcs=>⟨hcs,rfl,rfl⟩,fun G' w' cs' vs' k1 k2 k3 k4 k5=>⟨k1,vs'.toArray,fr,k5,by simpa [k4] using h3,h4,by rw [k2,h5],by simpa [k4] using h6,?_⟩⟩
   rw [k2,h5] at k3
   simpa using k3
  ·cases h
 ·cases h
theorem aM6 [Cfg] (hW : WRel G S w B) {a : AV} {v : Value} {cs : List AV} (h : bg7 S a = some cs) (hv : VRel G a v) :
  ∃ b off vs,v = .pointer (some ⟨b,off,none⟩) ∧ CRel G cs vs ∧ ∀ j u,vs[j]? = some u → w.cell? ⟨b,off + j,none⟩ = some u:=by
 unfold bg7 at h
 split at h
 ·rename_i p g n off
  obtain ⟨cs',hcs,rfl⟩:=Option.map_eq_some_iff.1 h
  cases hv with
  | ptr _ _ _ _ b c ho =>
   obtain ⟨s,vs,t,fr,_,_,_,_,_,h2,_,h4,h5,_⟩:=hW.ai0 hcs ho
   refine ⟨b,off,(vs.toList.take cs'.length).drop off,rfl,h4.drop off,fun j u hj=>?_⟩
   rw [List.getElem?_drop,List.getElem?_take] at hj
   split at hj
   ·simp only [World.cell?,h2]
    simpa using hj
   ·cases hj
 ·rename_i cs'
  cases h
  cases hv with
  | cref _ b off val h1 h2 =>
   refine ⟨b,off,(List.range cs.length).map val,rfl,⟨by simp,fun i a v ha hv=>?_⟩,fun j u hj=>?_⟩
   ·have hi:=(List.getElem?_eq_some_iff.1 ha).1
    rw [List.getElem?_map,List.getElem?_range hi] at hv
    cases hv
    exact h2 i a ha
   ·rw [List.getElem?_map] at hj
    cases hr : (List.range cs.length)[j]? with
    | none=>simp [hr] at hj
    | some x =>
     have hlt:=(List.getElem?_eq_some_iff.1 hr).1
     have hx : x = j:=by simpa using (List.getElem?_eq_some_iff.1 hr).2.symm
     subst hx
     simp [hr] at hj
     rw [← hj]
     exact hW.imm _ _ _ (h1 x (by simpa using hlt))
 ·cases h
theorem bF9 [Cfg] (hW : WRel G S w B) {t : TypeId} {a : AV} {v : Value} {x : AV} (h : bV1 P S t a = some x) (hv : VRel G a v) : ∃ u,(Instr.loadAt t v).run P w = .ok u w ∧ VRel G x u:=by
 unfold bV1 at h
 split at h
 ·rename_i cs d i hr hu hi
  obtain ⟨b,off,vs,rfl,hc,hcell⟩:=aM6 hW hr hv
  split at h
  ·rename_i hag
   split at h
   ·rename_i hle
    cases h
    refine ⟨.agg (vs.take i.size).toArray,?_,VRel.aN1 (hc.take _)⟩
    have hlen : (vs.take i.size).length = i.size:=by rw [List.length_take,← hc.1]; omega
    have:=run_loadCells_list (P:=P) w ⟨b,off,none⟩ (vs.take i.size) (fun j u hj=>by
     rw [ah1]
     rw [List.getElem?_take] at hj
     split at hj
     ·exact hcell j u hj
     ·cases hj)
    rw [hlen] at this
    simp [Instr.loadAt,Instr.sureAddr,loadVar,ba2 hu,hag,ad5 hi,this]
   ·cases h
  ·rename_i hag
   cases cs with
   | nil=>cases h
   | cons c r =>
    cases h
    obtain ⟨u,hu0,hru⟩:=hc.get (i:=0) rfl
    refine ⟨u,?_,hru⟩
    have h0:=hcell 0 u hu0
    simp [Instr.loadAt,Instr.sureAddr,loadVar,ba2 hu,hag]
    simp [show w.cell? ⟨b,off,none⟩ = some u from h0]
 ·cases h
theorem bF2 {t : TypeId} {cs : List AV} {vs : List Value} {off : Nat} {x : AV} (h : apart' P t cs off = some x) (hc : CRel G cs vs) (w : World) : ∃ u,(part t vs.toArray off).run P w = .ok u w ∧ VRel G x u:=by
 unfold apart' at h
 split at h
 ·rename_i d i hu hi
  split at h
  ·rename_i hag
   split at h
   ·rename_i hle
    cases h
    refine ⟨.agg ((vs.drop off).take i.size).toArray,?_,VRel.aN1 ((hc.drop off).take i.size)⟩
    simp only [part,Sem.run_bind,ba2 hu,Result.andThen_ok,hag,if_true,ad5 hi,Sem.run_pure]
    congr 2
    apply Array.ext'
    simp [List.extract_eq_take_drop]
   ·cases h
  ·rename_i hag
   obtain ⟨u,hu0,hru⟩:=hc.get h
   refine ⟨u,?_,hru⟩
   simp [part,ba2 hu,hag,hu0]
 ·cases h
theorem bt8 {cs xs : List AV} {vs us : List Value} (h : CRel G cs vs) (k : CRel G xs us) (off : Nat) : CRel G (splice cs off xs) (vs.take off ++ us ++ vs.drop (off + us.length)):=by
 rw [splice,← k.1]
 exact ((h.take off).append k).append (h.drop _)
theorem aH9 : ∀ (us vs : List Value) (off k : Nat),off + k + us.length ≤ vs.length →
  (us.zipIdx k).foldl (fun cs p=>cs.setIfInBounds (off + p.2) p.1) vs.toArray = (vs.take (off + k) ++ us ++ vs.drop (off + k + us.length)).toArray
 | [],vs,off,k,h=>by simp
 | u :: us,vs,off,k,h=>by
  simp only [List.length_cons] at h
  simp only [List.zipIdx_cons,List.foldl_cons]
  rw [show (vs.toArray.setIfInBounds (off + k) u) = (vs.set (off + k) u).toArray from by simp]
  rw [aH9 us (vs.set (off + k) u) off (k + 1) (by simp; omega)]
  congr 1
  rw [show off + (k + 1) = off + k + 1 by omega]
  have e1 : (vs.set (off + k) u).take (off + k + 1) = vs.take (off + k) ++ [u]:=by
   rw [List.take_succ_eq_append_getElem (by simp; omega)]
   simp [List.take_set_of_le]
  rw [e1,List.drop_set_of_lt (by omega)]
  simp only [List.append_assoc,List.cons_append,List.nil_append,List.length_cons]
  rw [show off + k + 1 + us.length = off + k + (us.length + 1) by omega]
theorem aq5 (P : Program) (b off : Nat) (ty : TypeId) (fr : Nat × Nat) : ∀ (xs : List Value) (k : Nat) (cs : List Value) (w : World),w.heap[b]? = some (.cells cs.toArray ty fr) → (∀ o,off + k ≤ o → o < off + k + xs.length → ¬ (fr.1 ≤ o ∧ o < fr.2)) → off + k + xs.length ≤ cs.length →
  (∀ y ∈ xs,y.oneCell' = true) → (storeCells ⟨b,off,none⟩ xs k).run P w = .ok () (w.setRow b (cs.take (off + k) ++ xs ++ cs.drop (off + k + xs.length)).toArray)
 | [],k,cs,w,h,_,hk,_=>by
  simp only [storeCells,Sem.run_pure,List.append_nil,List.length_nil,Nat.add_zero,List.take_append_drop,setRow_self w b cs.toArray ty fr h]
 | y :: xs,k,cs,w,h,hf,hk,hy=>by
  have hx:=hy y (List.mem_cons_self ..)
  simp only [List.length_cons] at hk hf
  have hcell : w.cell? ⟨b,off + k,none⟩ = some (cs[off + k]'(by omega)):=by
   simp [World.cell?,h,List.getElem?_eq_getElem (show off + k < cs.length by omega)]
  have hfrz : w.frozen? ⟨b,off + k,none⟩ = false:=by
   have:=hf (off + k) (Nat.le_refl _) (by omega)
   simp only [World.frozen?,h]
   rw [Bool.eq_false_iff]
   simpa using this
  have hrun : (store ⟨b,off + k,none⟩ y).run P w = .ok () (w.setRow b (cs.set (off + k) y).toArray):=by
   rw [run_store P w _ y _ hx,hcell]
   simp [hfrz,setCell_eq_setRow w b (off + k) cs.toArray ty fr y h]
  simp only [storeCells,Sem.run_bind,ah1,hrun,Result.andThen_ok]
  rw [aq5 P b off ty fr xs (k + 1) (cs.set (off + k) y) _ (setRow_heap w b cs.toArray _ ty fr h) (fun o h1 h2=>hf o (by omega) (by omega)) (by simp; omega) fun z hz=>hy z (List.mem_cons_of_mem _ hz)]
  rw [setRow_setRow w b _ _]
  congr 3
  rw [show off + (k + 1) = off + k + 1 by omega]
  have e1 : (cs.set (off + k) y).take (off + k + 1) = cs.take (off + k) ++ [y]:=by
   rw [List.take_succ_eq_append_getElem (by simp; omega)]
   simp [List.take_set_of_le]
  rw [e1,List.drop_set_of_lt (by omega)]
  simp only [List.append_assoc,List.cons_append,List.nil_append,List.length_cons]
  rw [show off + k + 1 + xs.length = off + k + (xs.length + 1) by omega]
theorem bk4 [Cfg] (hW : WRel G S w B) {p : Loc} {g n off b c : Nat} {ys : List AV} {us : List Value} {y : Loc × ab3} (h : S.write p g n off ys = some y) (ho : G.own p g n = some (b,c)) (hys : CRel G ys us) :
  ∃ G' w',(storeCells ⟨b,off,none⟩ us).run P w = .ok () w' ∧ WRel G' (S.set y.1 y.2) w' B ∧ Mod G S w G' (S.set y.1 y.2) w':=by
 unfold AS.write at h
 split at h
 ·rename_i cs s hcs hs
  split at h
  ·rename_i hc
   obtain ⟨hfit,hone⟩:=hc
   cases h
   obtain ⟨s',vs,t,fr,h1,h2,h3,h4,h5,h6,h7,h8,h9,h10,h11⟩:=hW.ai0 hcs ho
   rw [hs] at h1
   cases h1
   subst h3 h4
   have hst:=aq5 P b off t fr us 0 vs.toList w (by simpa using h6) (fun o k1 k2 k3=>by have:=h7 o (by have:=hys.1; omega) k3.1 k3.2; omega) (by have:=hys.1; simp; omega)
    (fun y hy=>by
     obtain ⟨j,hj⟩:=List.getElem?_of_mem hy
     have hjl:=(List.getElem?_eq_some_iff.1 hj).1
     have hjy : j < ys.length:=by rw [hys.1]; exact hjl
     have hay:=List.getElem?_eq_getElem hjy
     exact (hys.2 j _ y hay hj).one (List.all_eq_true.1 hone _ (List.getElem_mem hjy)))
   simp only [Nat.add_zero] at hst
   have hsl : (splice cs off ys).length = cs.length:=by simp [splice]; omega
   have hlv : AV.lvL S.lvl (splice cs off ys) = true:=by
    have hr:=bt8 h8 hys off
    exact hr.lvs hW.bu3
   obtain ⟨k1,k2,k3⟩:=h10 _ hlv
   obtain ⟨G',m1,m2,m3⟩:=hW.setSlot (s:=s.aF7 (splice cs off ys)) (t:=s) (w':=w.setRow b (vs.toList.take off ++ us ++ vs.toList.drop (off + us.length)).toArray) hs h2 ho k2 (by rw [k3]; exact Nat.le_refl _) h5 k1
    (fun x hx=>setRow_other w b x _ hx) (by simp) rfl rfl rfl fun G' hle himm=>by
     refine h11 G' _ _ (vs.toList.take off ++ us ++ vs.toList.drop (off + us.length)) himm hsl ?_ (by have:=hys.1; simp; omega) (setRow_heap w b vs _ t fr h6)
     have hr:=(bt8 h8 hys off).mono hle
     rw [hsl]
     have e : (vs.toList.take off ++ us ++ vs.toList.drop (off + us.length)).take cs.length = (vs.toList.take cs.length).take off ++ us ++ (vs.toList.take cs.length).drop (off + us.length):=by
      have hul:=hys.1
      rw [List.take_append,List.take_append,List.take_of_length_le (l:=us) (by simp; omega),List.take_take,List.take_take,Nat.min_comm,List.drop_take]
      congr 1
      congr 1
      simp
      omega
     rw [e]
     exact hr
   exact ⟨G',_,hst,m2,m3⟩
  ·cases h
 ·cases h
theorem b69 [Cfg] (hW : WRel G S w B) {t : TypeId} {a x : AV} {v u : Value} {y : Loc × ab3} (h : bR4 P S t a x = some y) (hv : VRel G a v) (hx : VRel G x u) :
  ∃ G' w',(Instr.storeAt t v u).run P w = .ok () w' ∧ WRel G' (S.set y.1 y.2) w' B ∧ Mod G S w G' (S.set y.1 y.2) w':=by
 unfold bR4 at h
 split at h
 ·rename_i p g n off i hi
  split at h
  ·rename_i hl
   cases hv with
   | ptr _ _ _ _ b c ho =>
    obtain ⟨G',w',k1,k2,k3⟩:=bk4 (P:=P) hW h ho hx.cells
    have hsz : u.cells.size = i.size:=by rw [← hl,hx.cells.1]; simp
    exact ⟨G',w',by simp [Instr.storeAt,Instr.sureAddr,storeVar,ad5 hi,hsz,k1],k2,k3⟩
  ·cases h
 ·cases h
theorem bn0 (place : Nat → Option (Nat × Nat)) : ∀ (parts : List (Nat × AV)) (parts' : List (Nat × Value)) (cs : List AV) (vs : List Value) (out : List AV),parts.length = parts'.length →
  (∀ (j : Nat) x y,parts[j]? = some x → parts'[j]? = some y → x.1 = y.1 ∧ VRel G x.2 y.2) → CRel G cs vs → by9 place cs parts = some out →
  ∃ us,Instr.fill place vs.toArray parts' = some us.toArray ∧ CRel G out us
 | [],[],cs,vs,out,_,_,hc,h=>by
  simp only [by9,Option.some.injEq] at h
  subst h
  exact ⟨vs,rfl,hc⟩
 | (i,x) :: r,(i',y) :: r',cs,vs,out,hl,hp,hc,h=>by
  obtain ⟨e,hxy⟩:=hp 0 _ _ rfl rfl
  simp only at e hxy
  subst e
  unfold by9 at h
  unfold Instr.fill
  cases hpl : place i with
  | none=>simp [hpl] at h
  | some os =>
   obtain ⟨off,size⟩:=os
   simp only [hpl] at h ⊢
   split at h
   ·rename_i hcond
    have hcl:=hxy.cells
    have hsz : y.cells.size = size:=by rw [← hcond.1,hcl.1]; simp
    have hfit : off + y.cells.size ≤ vs.length:=by rw [hsz,← hc.1]; exact hcond.2
    have hn : ¬ (y.cells.size ≠ size ∨ off + y.cells.size > vs.toArray.size):=by simp; exact ⟨hsz,hfit⟩
    have hfold:=aH9 y.cells.toList vs off 0 (by simpa using hfit)
    have : y.cells.zipIdx.foldl (fun cs p=>cs.setIfInBounds (off + p.2) p.1) vs.toArray = (vs.take off ++ y.cells.toList ++ vs.drop (off + y.cells.toList.length)).toArray:=by
     simp only [Nat.add_zero] at hfold
     rw [← hfold,← Array.foldl_toList]
     simp
    obtain ⟨us,k1,k2⟩:=bn0 place r r' _ (vs.take off ++ y.cells.toList ++ vs.drop (off + y.cells.toList.length)) out (by simpa using hl) (fun j a b ha hb=>hp (j + 1) a b (by simpa using ha) (by simpa using hb)) (bt8 hc hcl off) h
    refine ⟨us,?_,k2⟩
    rw [if_neg (by simpa using hn)]
    rw [← k1]
    congr 1
   ·cases h
 | [],_ :: _,_,_,_,hl,_,_,_=>by simp at hl
 | _ :: _,[],_,_,_,hl,_,_,_=>by simp at hl
end
open Go.RowKit
section
variable {P : Program} {G : Gh} {S : AS} {w : World} {B : Nat → Nat}
theorem bn3 {α β : Type} (f : α → Sem β) (g : α → β) : ∀ (l : List α),(∀ a ∈ l,(f a).run P w = .ok (g a) w) → (l.mapM f).run P w = .ok (l.map g) w
 | [],_=>rfl
 | a :: r,h=>by
  rw [List.mapM_cons]
  simp only [Sem.run_bind,h a (List.mem_cons_self ..),Result.andThen_ok,bn3 f g r (fun b hb=>h b (List.mem_cons_of_mem _ hb)),Sem.run_pure,List.map_cons]
theorem run_places {fields : Array Field} {pl : List (Nat × Nat)} (h : bX7 P fields = some pl) (w : World) :
  (fields.mapM (m:=Sem) fun (f : Field)=>do pure (f.offset,← sizeOf f.type)).run P w = .ok pl.toArray w:=by
 unfold bX7 at h
 split at h
 ·rename_i hall
  cases h
  rw [Array.mapM_eq_mapM_toList]
  simp only [Sem.run_map]
  rw [bn3 (P:=P) (w:=w) _ (fun f=>(f.offset,((P.info? f.type).map (·.size)).getD 0)) fields.toList]
  ·simp
  ·intro f hf
   have:=List.all_eq_true.1 hall f hf
   obtain ⟨i,hi⟩:=Option.isSome_iff_exists.1 this
   simp [ad5 hi,hi]
 ·cases h
theorem aM7 {t : TypeId} {z : Value} (h : (P.info? t).bind (·.zero) = some z) (w : World) : (zeroValue t).run P w = .ok z w:=by
 cases hi : P.info? t with
 | none=>simp [hi] at h
 | some i =>
  simp [hi] at h
  simp [zeroValue,typeInfo,hi,h]
theorem cc6 {T : TM} {a : Act} (hT : TRel G S T a) (parts : List (Nat × Operand)) :
  (parts.map fun (i,x)=>(i,aev T x)).length = (parts.map fun (i,x)=>(i,a.eval x)).length ∧ ∀ (j : Nat) x y,(parts.map fun (i,x)=>(i,aev T x))[j]? = some x → (parts.map fun (i,x)=>(i,a.eval x))[j]? = some y → x.1 = y.1 ∧ VRel G x.2 y.2:=by
 refine ⟨by simp,fun j x y hx hy=>?_⟩
 rw [List.getElem?_map] at hx hy
 cases hp : parts[j]? with
 | none=>simp [hp] at hx
 | some q =>
  obtain ⟨i,o⟩:=q
  simp [hp] at hx hy
  rw [← hx,← hy]
  exact ⟨rfl,hT.eval o⟩
theorem b77 {t : TypeId} {parts : List (Nat × AV)} {parts' : List (Nat × Value)} {x : AV} (h : bA4 P t parts = some x) (hl : parts.length = parts'.length)
  (hp : ∀ (j : Nat) x y,parts[j]? = some x → parts'[j]? = some y → x.1 = y.1 ∧ VRel G x.2 y.2) (w : World) : ∃ u,(Instr.build t parts'.toArray).run P w = .ok u w ∧ VRel G x u:=by
 unfold bA4 at h
 split at h
 ·rename_i fields z hu hz
  split at h
  ·rename_i pl hpl
   obtain ⟨out,ho,rfl⟩:=Option.map_eq_some_iff.1 h
   obtain ⟨us,k1,k2⟩:=bn0 (G:=G) _ parts parts' _ z.cells.toList out hl hp (CRel.lits G _) ho
   refine ⟨_,?_,VRel.aN1 k2⟩
   have k1' : Instr.fill (fun x=>pl[x]?) z.cells parts' = some us.toArray:=by simpa using k1
   simp only [Instr.build,Sem.run_bind,aM7 hz,Result.andThen_ok,run_underlying hu,run_places hpl]
   simp [k1']
  ·cases h
 ·rename_i len elem z hu hz
  split at h
  ·rename_i i hi
   obtain ⟨out,ho,rfl⟩:=Option.map_eq_some_iff.1 h
   obtain ⟨us,k1,k2⟩:=bn0 (G:=G) _ parts parts' _ z.cells.toList out hl hp (CRel.lits G _) ho
   refine ⟨_,?_,VRel.aN1 k2⟩
   have k1' : Instr.fill (fun j=>some (j * i.size,i.size)) z.cells parts' = some us.toArray:=by simpa using k1
   simp [Instr.build,aM7 hz,run_underlying hu,ad5 hi,k1']
  ·cases h
 ·cases h
theorem ca5 (size : Nat) : ∀ (parts : List (Nat × Value)) (k : Nat) (done rest : List Value),done.length = k * size → parts.map Prod.fst = List.range' k parts.length → (∀ p ∈ parts,p.2.cells.size = size) → rest.length = parts.length * size →
  Instr.fill (fun i=>some (i * size,size)) (done ++ rest).toArray parts = some (done ++ parts.flatMap fun p=>p.2.cells.toList).toArray
 | [],k,done,rest,hd,_,_,hr=>by
  have : rest = []:=List.eq_nil_of_length_eq_zero (by simpa using hr)
  subst this
  simp [Instr.fill]
 | (i,v) :: r,k,done,rest,hd,hk,hs,hr=>by
  simp only [List.map_cons,List.length_cons,List.range'_succ,List.cons.injEq] at hk
  obtain ⟨rfl,hk⟩:=hk
  have hv : v.cells.size = size:=hs (i,v) (List.mem_cons_self ..)
  simp only [List.length_cons,Nat.add_mul,Nat.one_mul] at hr
  unfold Instr.fill
  have hcond : ¬ (v.cells.size ≠ size || i * size + v.cells.size > (done ++ rest).toArray.size) = true:=by
   simp [hv,hd,hr]
  simp only [hcond]
  have hfold:=aH9 v.cells.toList (done ++ rest) (i * size) 0 (by simp [hv,hd,hr])
  simp only [Nat.add_zero] at hfold
  have : v.cells.zipIdx.foldl (fun cs p=>cs.setIfInBounds (i * size + p.2) p.1) (done ++ rest).toArray = (done ++ v.cells.toList ++ rest.drop size).toArray:=by
   rw [← Array.foldl_toList,Array.toList_zipIdx,hfold]
   congr 1
   rw [List.take_left' hd,List.drop_append,List.drop_eq_nil_of_le (by rw [hd]; omega)]
   simp [hd,hv]
  have ih:=ca5 size r (i + 1) (done ++ v.cells.toList) (rest.drop size) (by simp [hd,hv,Nat.add_mul]) hk (fun p hp=>hs p (List.mem_cons_of_mem _ hp)) (by simp [hr])
  rw [show (v.cells.zipIdx.foldl (fun cs x=>cs.setIfInBounds (i * size + x.snd) x.fst) (done ++ rest).toArray) = _ from this,ih]
  simp
theorem getElem?_flatMap_block {α β : Type} (f : α → List β) (size : Nat) : ∀ (l : List α),(∀ a ∈ l,(f a).length = size) → ∀ (i j : Nat) (a : α),l[i]? = some a → j < size → (l.flatMap f)[i * size + j]? = (f a)[j]?
 | [],_,i,j,a,h,_=>by simp at h
 | x :: r,hs,0,j,a,h,hj=>by
  simp only [List.getElem?_cons_zero,Option.some.injEq] at h
  subst h
  rw [List.flatMap_cons,Nat.zero_mul,Nat.zero_add,List.getElem?_append_left (by rw [hs x (List.mem_cons_self ..)]; exact hj)]
 | x :: r,hs,i + 1,j,a,h,hj=>by
  have hx:=hs x (List.mem_cons_self ..)
  rw [List.flatMap_cons,List.getElem?_append_right (by rw [hx,Nat.add_mul]; omega),hx]
  have:=getElem?_flatMap_block f size r (fun a ha=>hs a (List.mem_cons_of_mem _ ha)) i j a (by simpa using h) hj
  rw [← this]
  congr 1
  rw [Nat.add_mul]
  omega
theorem aH8 {α β : Type} (f : α → List β) (size : Nat) : ∀ (l : List α),(∀ a ∈ l,(f a).length = size) → (l.flatMap f).length = l.length * size
 | [],_=>by simp
 | x :: r,hs=>by
  rw [List.flatMap_cons,List.length_append,hs x (List.mem_cons_self ..),aH8 f size r (fun a ha=>hs a (List.mem_cons_of_mem _ ha)),List.length_cons,Nat.add_mul]
  omega
theorem aN3 (sz : Nat) (es : List (List AV)) (hs : ∀ e ∈ es,e.length = sz) (i j : Nat) (e : List AV) (h : es[i]? = some e) (hj : j < sz) : es.flatten[i * sz + j]? = e[j]?:=by
 have:=getElem?_flatMap_block (fun e : List AV=>e) sz es hs i j e h hj
 simpa [List.flatMap] using this
theorem aw2 (sz : Nat) (es : List (List AV)) (hs : ∀ e ∈ es,e.length = sz) : es.flatten.length = es.length * sz:=by
 have:=aH8 (fun e : List AV=>e) sz es hs
 simpa [List.flatMap] using this
theorem VRel.flat {sp : ap1} {sz : Nat} {es : List (List AV)} {v : Value} (h : VRel G (.list sp sz es) v) (hsz : 0 < sz) :
  ∃ b off cap vs,v = .slice (some ⟨b,off,none⟩) es.length cap ∧ es.length ≤ cap ∧ cap ≤ maxLen ∧ CRel G es.flatten vs ∧ (∀ j u,vs[j]? = some u → G.imm b (off + j) = some u) ∧ vs.length = es.length * sz ∧ (∀ e ∈ es,e.length = sz) ∧
   sp.ok G b off es.length cap:=by
 cases h with
 | list _ _ _ b off cap val hn hcm hes h1 h2 hs =>
  have hfl:=aw2 sz es hes
  refine ⟨b,off,cap,(List.range (es.length * sz)).map fun k=>val (k / sz) (k % sz),rfl,hn,hcm,⟨by simp [hfl],fun k a u ha hu=>?_⟩,fun j u hj=>?_,by simp,hes,hs⟩
  ·have hk:=(List.getElem?_eq_some_iff.1 ha).1
   rw [hfl] at hk
   rw [List.getElem?_map,List.getElem?_range hk] at hu
   cases hu
   have hi : k / sz < es.length:=Nat.div_lt_of_lt_mul (by rw [Nat.mul_comm]; exact hk)
   have hfb:=aN3 sz es hes (k / sz) (k % sz) _ (List.getElem?_eq_getElem hi) (Nat.mod_lt _ hsz)
   rw [Nat.mul_comm,Nat.div_add_mod] at hfb
   rw [hfb] at ha
   exact h2 _ _ _ _ (List.getElem?_eq_getElem hi) ha
  ·rw [List.getElem?_map] at hj
   cases hr : (List.range (es.length * sz))[j]? with
   | none=>simp [hr] at hj
   | some x =>
    have hlt : j < es.length * sz:=by simpa using (List.getElem?_eq_some_iff.1 hr).1
    have hx : x = j:=by simpa using (List.getElem?_eq_some_iff.1 hr).2.symm
    subst hx
    simp [hr] at hj
    subst hj
    have hi : x / sz < es.length:=Nat.div_lt_of_lt_mul (by rw [Nat.mul_comm]; exact hlt)
    have:=h1 (x / sz) (x % sz) hi (Nat.mod_lt _ hsz)
    rwa [Nat.mul_comm,Nat.div_add_mod] at this
theorem VRel.of_flat {sp : ap1} {sz : Nat} {es : List (List AV)} {b off cap : Nat} {vs : List Value} (hn : es.length ≤ cap) (hm : cap ≤ maxLen) (hes : ∀ e ∈ es,e.length = sz) (hc : CRel G es.flatten vs)
  (hi : ∀ j u,vs[j]? = some u → G.imm b (off + j) = some u) (hs : sp.ok G b off es.length cap) : VRel G (.list sp sz es) (.slice (some ⟨b,off,none⟩) es.length cap):=by
 have hfl:=aw2 sz es hes
 have hvl : vs.length = es.length * sz:=by rw [← hc.1,hfl]
 refine .list sp sz es b off cap (fun i j=>vs.getD (i * sz + j) undef) hn hm hes (fun i j hi' hj=>?_) (fun i j e a he ha=>?_) hs
 ·have hlt : i * sz + j < vs.length:=by
   rw [hvl]
   have : (i + 1) * sz ≤ es.length * sz:=Nat.mul_le_mul_right _ hi'
   rw [Nat.add_mul] at this
   omega
  refine hi _ _ ?_
  rw [List.getD_eq_getElem?_getD,List.getElem?_eq_getElem hlt]
  rfl
 ·have hj : j < sz:=by rw [← hes e (List.mem_of_getElem? he)]; exact (List.getElem?_eq_some_iff.1 ha).1
  have hfb:=aN3 sz es hes i j e he hj
  rw [ha] at hfb
  obtain ⟨v,hv,hr⟩:=hc.get hfb
  rw [List.getD_eq_getElem?_getD,hv]
  exact hr
theorem newList [Cfg] (hW : WRel G S w B) {es : List (List AV)} {vs : List Value} {sz : Nat} (e : TypeId) (hm : es.length ≤ maxLen) (hes : ∀ x ∈ es,x.length = sz) (hc : CRel G es.flatten vs) :
  ∃ G',VRel G' (.list .full sz es) (.slice (some ⟨w.heap.size,0,none⟩) es.length es.length) ∧ WRel G' S (w.alloc (.cells vs.toArray e)) B ∧ Mod G S w G' S (w.alloc (.cells vs.toArray e)):=by
 obtain ⟨G',k1,k2,k3⟩:=hW.newImm vs e
 exact ⟨G',VRel.of_flat (Nat.le_refl _) hm hes (hc.mono k2.le) (fun j u hj=>by rw [Nat.zero_add]; exact k3 j u hj) rfl,k1,k2⟩
theorem bs6 [Cfg] (hW : WRel G S w B) (d : Tmp) {cs : List AV} {vs : List Value} {n sz cap : Nat} (e : TypeId) (hn : n ≤ cap) (hm : cap ≤ maxLen) (hl : cs.length = n * sz) (hv : vs.length = cap * sz) (hc : CRel G cs (vs.take (n * sz))) :
  ∃ G',VRel G' (.row .room (S.here d) (S.fresh (S.here d)) n 0 n sz) (.slice (some ⟨w.heap.size,0,none⟩) n cap) ∧ WRel G' (S.set (S.here d) (.row (S.fresh (S.here d)) n sz e cs)) (w.alloc (.cells vs.toArray e)) B ∧
   Mod G S w G' (S.set (S.here d) (.row (S.fresh (S.here d)) n sz e cs)) (w.alloc (.cells vs.toArray e)):=by
 obtain ⟨G',k1,k2,k3⟩:=hW.bX5 (p:=S.here d) (Nat.le_refl _) (.row (S.fresh (S.here d)) n sz e cs) rfl (.cells vs.toArray e) cap (hc.lvs hW.bu3) fun G' hle himm =>
  ⟨himm,vs.toArray,(0,0),heap_alloc_new w _,by simpa using hv,hn,hl,(fun o _ _ h=>by simp at h),by simpa using hc.mono hle⟩
 exact ⟨G',.row .room _ _ n 0 n sz w.heap.size cap 0 cap k1 (fun _=>rfl) hn hm ⟨rfl,Nat.zero_add _⟩,k2,k3⟩
theorem bN3 {t elem : TypeId} {i : TypeInfo} {z : Value} {len : Nat} {parts : List (Nat × AV)} {parts' : List (Nat × Value)} (hu : P.underlying t = some (.slice elem)) (hi : P.info? elem = some i) (hz : i.zero = some z)
  (hzs : z.cells.size = i.size) (hpos : 0 < i.size) (hbig : len * i.size ≤ 2 ^ 24) (hidx : parts.map Prod.fst = List.range len) (hsz : parts.all (fun p=>p.2.cells.length == i.size) = true) (hl : parts.length = parts'.length)
  (hp : ∀ (j : Nat) x y,parts[j]? = some x → parts'[j]? = some y → x.1 = y.1 ∧ VRel G x.2 y.2) :
  (Instr.buildSlice t len parts'.toArray).run P w = .ok (.slice (some ⟨w.heap.size,0,none⟩) len len) (w.alloc (.cells (parts'.flatMap fun p=>p.2.cells.toList).toArray elem)) ∧ parts.length = len ∧
   CRel G (parts.flatMap fun p=>p.2.cells) (parts'.flatMap fun p=>p.2.cells.toList):=by
 have hlen : parts.length = len:=by have:=congrArg List.length hidx; simpa using this
 have hfst : parts'.map Prod.fst = List.range' 0 parts'.length:=by
  rw [← List.range_eq_range',← hl,hlen,← hidx]
  apply List.ext_getElem?
  intro j
  rw [List.getElem?_map,List.getElem?_map]
  cases hx : parts[j]? with
  | none=>rw [List.getElem?_eq_none (by have:=List.getElem?_eq_none_iff.1 hx; omega)]; rfl
  | some p =>
   have hjl:=(List.getElem?_eq_some_iff.1 hx).1
   have hy:=List.getElem?_eq_getElem (show j < parts'.length by omega)
   rw [hy]
   simp [(hp j _ _ hx hy).1]
 have hsize : ∀ p ∈ parts',p.2.cells.size = i.size:=fun p hpm=>by
  obtain ⟨j,hj⟩:=List.getElem?_of_mem hpm
  have hjl:=(List.getElem?_eq_some_iff.1 hj).1
  have hx:=List.getElem?_eq_getElem (show j < parts.length by omega)
  have h1:=(hp j _ _ hx hj).2.cells.1
  have h2:=List.all_eq_true.1 hsz _ (List.getElem_mem (show j < parts.length by omega))
  simp at h2 h1
  omega
 have hfill:=ca5 i.size parts' 0 [] ((List.range (len * i.size)).map (fun j=>z.cells[j % z.cells.size]!)) (by simp) hfst hsize (by simp [hl ▸ hlen])
 simp only [List.nil_append] at hfill
 refine ⟨?_,hlen,?_⟩
 ·have hzero : (zeroValue elem).run P w = .ok z w:=aM7 (by simp [hi,hz]) w
  have hbig' : ¬ (2 ^ 24 < len * i.size):=by omega
  have harr : (Array.range (len * i.size)).map (fun j=>z.cells[j % z.cells.size]!) = ((List.range (len * i.size)).map (fun j=>z.cells[j % z.cells.size]!)).toArray:=by
   apply Array.ext'; simp
  by_cases h0 : len * i.size = 0
  ·have hl0 : len = 0:=by
    rcases Nat.mul_eq_zero.1 h0 with h | h
    ·exact h
    ·omega
   have hp0 : parts' = []:=List.eq_nil_of_length_eq_zero (by omega)
   subst hp0
   subst hl0
   simp [Instr.buildSlice,run_underlying hu,ad5 hi,Instr.fill,newRow]
   congr 2
   exact Array.eq_empty_of_size_eq_zero (by simp)
  ·simp only [Instr.buildSlice,Sem.run_bind,run_underlying hu,Result.andThen_ok,ad5 hi]
   simp only [show ¬ (len * i.size > 2 ^ 24) from hbig',if_false,h0,Sem.run_bind,Sem.run_pure,hzero,Result.andThen_ok,harr]
   simp [hfill,newRow]
 ·clear hfill hfst hidx hlen hsize
  induction parts generalizing parts' with
  | nil =>
   have : parts' = []:=List.eq_nil_of_length_eq_zero (by simpa using hl.symm)
   subst this
   exact CRel.nil G
  | cons p r ih =>
   cases parts' with
   | nil=>simp at hl
   | cons q r' =>
    rw [List.flatMap_cons,List.flatMap_cons]
    simp only [List.all_cons,Bool.and_eq_true] at hsz
    exact ((hp 0 _ _ rfl rfl).2.cells).append (ih hsz.2 (by simpa using hl) fun j x y hx hy=>hp (j + 1) x y (by simpa using hx) (by simpa using hy))
theorem bs0 [Cfg] (hW : WRel G S w B) {d : Option Tmp} {t : TypeId} {len : Nat} {parts : List (Nat × AV)} {parts' : List (Nat × Value)} {x : AR} (h : az8 P S d t len parts = some x) (hl : parts.length = parts'.length)
  (hp : ∀ (j : Nat) x y,parts[j]? = some x → parts'[j]? = some y → x.1 = y.1 ∧ VRel G x.2 y.2) {r : Result Next} (hr : ∀ u w',(Instr.buildSlice t len parts'.toArray).run P w = .ok u w' → r = .ok (.value u) w') : ArOk P G S w B r x:=by
 unfold az8 at h
 split at h
 ·rename_i elem d hu
  split at h
  ·rename_i i hi
   split at h
   ·rename_i z hz
    split at h
    ·rename_i hc
     obtain ⟨hzs,hpos,hbig,hidx,hsz,hone⟩:=hc
     obtain ⟨k1,hlen,k2⟩:=bN3 (G:=G) (w:=w) hu hi hz hzs hpos hbig hidx hsz hl hp
     have hmax : len ≤ maxLen:=by
      have : len ≤ len * i.size:=Nat.le_mul_of_pos_right _ hpos
      simp only [maxLen]
      omega
     have hflat : (parts.map fun p=>p.2.cells).flatten = parts.flatMap fun p=>p.2.cells:=by rw [List.flatMap]
     have hcl : (parts.flatMap fun p=>p.2.cells).length = len * i.size:=by
      rw [aH8 (fun p : Nat × AV=>p.2.cells) i.size parts (fun p hpm=>by have:=List.all_eq_true.1 hsz p hpm; simpa using this),hlen]
     split at h
     ·cases h
      obtain ⟨G',m1,m2,m3⟩:=bs6 hW d (cs:=parts.flatMap fun p=>p.2.cells) (vs:=parts'.flatMap fun p=>p.2.cells.toList) (n:=len) (sz:=i.size) (cap:=len) elem (Nat.le_refl _) hmax hcl (by rw [← k2.1,hcl])
       (by rw [List.take_of_length_le (by rw [← k2.1,hcl]; exact Nat.le_refl _)]; exact k2)
      exact ⟨G',_,_,.inl (hr _ _ k1),m1,m2,m3⟩
     ·cases h
      obtain ⟨G',m1,m2,m3⟩:=newList hW (es:=parts.map fun p=>p.2.cells) (vs:=parts'.flatMap fun p=>p.2.cells.toList) (sz:=i.size) elem (by simpa [hlen] using hmax) (fun x hx=>by
       obtain ⟨p,hpm,rfl⟩:=List.mem_map.1 hx
       have:=List.all_eq_true.1 hsz p hpm
       simpa using this) (by rw [hflat]; exact k2)
      rw [List.length_map,hlen] at m1
      exact ⟨G',_,_,.inl (hr _ _ k1),m1,m2,m3⟩
    ·cases h
   ·cases h
  ·cases h
 ·cases h
end
open Go.RowKit
section
variable {P : Program} {G : Gh} {S : AS} {w : World} {B : Nat → Nat}
theorem CRel.cref {G : Gh} {cs : List AV} {b off : Nat} {val : Nat → Value} (h1 : ∀ i,i < cs.length → G.imm b (off + i) = some (val i)) (h2 : ∀ (i : Nat) a,cs[i]? = some a → VRel G a (val i)) (n : Nat) :
  VRel G (.cref (cs.drop n)) (.pointer (some ⟨b,off + n,none⟩)) :=
 .cref _ b (off + n) (fun i=>val (n + i)) (fun i hi=>by rw [Nat.add_assoc]; exact h1 (n + i) (by simp at hi; omega)) fun i a ha=>h2 (n + i) a (by simpa [List.getElem?_drop] using ha)
theorem bz1 {s : TypeId} {a x : AV} {v : Value} {f : Nat} (h : a99 P s a f = some x) (hv : VRel G a v) (w : World) : ∃ u,(Instr.fieldAt s v f).run P w = .ok u w ∧ VRel G x u:=by
 unfold a99 at h
 split at h
 ·rename_i fields hu
  split at h
  ·rename_i fd hf
   split at h
   ·cases h
   ·rename_i hsz
    have hi : ∃ i,P.info? fd.type = some i ∧ i.size ≠ 0:=by
     cases hi : P.info? fd.type with
     | none=>simp [hi] at hsz
     | some i=>exact ⟨i,rfl,by simpa [hi] using hsz⟩
    obtain ⟨i,hi,hi0⟩:=hi
    split at h
    ·rename_i p g n off
     cases h
     cases hv with
     | ptr _ _ _ _ b c ho =>
      refine ⟨_,?_,.ptr p g n (off + fd.offset) b c ho⟩
      simp [Instr.fieldAt,run_underlying hu,hf,Instr.sureAddr,fieldPlace,ad5 hi,hi0,ah1]
    ·rename_i cs
     cases h
     cases hv with
     | cref _ b off val h1 h2 =>
      refine ⟨_,?_,CRel.cref h1 h2 fd.offset⟩
      simp [Instr.fieldAt,run_underlying hu,hf,Instr.sureAddr,fieldPlace,ad5 hi,hi0,ah1]
    ·cases h
  ·cases h
 ·cases h
theorem b47 {s : TypeId} {a x : AV} {v : Value} {f : Nat} (h : b39 P s a f = some x) (hv : VRel G a v) (w : World) : ∃ u,(Instr.field s v f).run P w = .ok u w ∧ VRel G x u:=by
 unfold b39 at h
 split at h
 ·rename_i fields cs hu
  split at h
  ·rename_i fd hf
   obtain ⟨vs,rfl,hc⟩:=hv.bs5
   obtain ⟨u,hr,hx⟩:=bF2 h hc w
   exact ⟨u,by simp [Instr.field,run_underlying hu,hf,asAgg,hr],hx⟩
  ·cases h
 ·cases h
theorem by4 {t : TypeId} {a x y : AV} {v u : Value} (h : aA3 P t a x = some y) (hv : VRel G a v) (hx : VRel G x u) (w : World) : ∃ z,(Instr.indexAt t v u).run P w = .ok z w ∧ VRel G y z:=by
 unfold aA3 at h
 split at h
 ·rename_i elem sp sz es k i hu
  rw [hx.al0]
  split at h
  ·rename_i hc
   obtain ⟨hi0,hsz⟩:=hc
   obtain ⟨e,he,rfl⟩:=Option.map_eq_some_iff.1 h
   obtain ⟨inf,hinf,hinf2⟩:=Option.map_eq_some_iff.1 hsz
   have hlt:=(List.getElem?_eq_some_iff.1 he).1
   cases hv with
   | list _ _ _ b off cap val hn hm hes h1 h2 hs =>
    have hel : e.length = sz:=hes e (List.mem_of_getElem? he)
    refine ⟨.pointer (some ⟨b,off + i.toNat * sz,none⟩),?_,.cref e b _ (val i.toNat) (fun j hj=>?_) (fun j a ha=>h2 i.toNat j e a he ha)⟩
    ·have hlt' : i < es.length:=by omega
     simp [Instr.indexAt,asIntOf,run_underlying hu,hi0,hlt',ad5 hinf,hinf2,ah1]
    ·rw [Nat.add_assoc]
     exact h1 i.toNat j hlt (by omega)
  ·cases h
 ·rename_i elem sp p g n off len sz k i hu
  rw [hx.al0]
  split at h
  ·rename_i hc
   obtain ⟨hi0,hsz,hil⟩:=hc
   obtain ⟨inf,hinf,hinf2⟩:=Option.map_eq_some_iff.1 hsz
   cases h
   cases hv with
   | row _ _ _ _ _ _ _ b c o cap ho hoff hn hm hs =>
    refine ⟨.pointer (some ⟨b,off + i.toNat * sz,none⟩),?_,.ptr p g n _ b c ho⟩
    have hlt' : i < len:=by omega
    rw [hoff (by omega)]
    simp [Instr.indexAt,asIntOf,run_underlying hu,hi0,hlt',ad5 hinf,hinf2,ah1]
  ·cases h
 ·rename_i len elem a' k i hu
  rw [hx.al0]
  split at h
  ·rename_i inf hinf
   split at h
   ·rename_i hc
    obtain ⟨hi0,hil⟩:=hc
    split at h
    ·rename_i p g n off
     cases h
     cases hv with
     | ptr _ _ _ _ b c ho =>
      refine ⟨_,?_,.ptr p g n (off + i.toNat * inf.size) b c ho⟩
      simp [Instr.indexAt,asIntOf,run_underlying hu,Instr.sureAddr,hi0,hil,ad5 hinf,ah1]
    ·rename_i cs
     cases h
     cases hv with
     | cref _ b off val h1 h2 =>
      refine ⟨_,?_,CRel.cref h1 h2 (i.toNat * inf.size)⟩
      simp [Instr.indexAt,asIntOf,run_underlying hu,Instr.sureAddr,hi0,hil,ad5 hinf,ah1]
    ·cases h
   ·cases h
  ·cases h
 ·cases h
theorem cc3 {t : TypeId} {a x y : AV} {v u : Value} (h : b59 P t a x = some y) (hv : VRel G a v) (hx : VRel G x u) (w : World) : ∃ z,(Instr.index t v u).run P w = .ok z w ∧ VRel G y z:=by
 unfold b59 at h
 split at h
 ·rename_i len elem cs k i hu
  rw [hx.al0]
  obtain ⟨vs,rfl,hc⟩:=hv.bs5
  split at h
  ·rename_i inf hinf
   split at h
   ·rename_i hcd
    obtain ⟨z,hr,hz⟩:=bF2 h hc w
    exact ⟨z,by simp [Instr.index,asIntOf,run_underlying hu,hcd.1,hcd.2,ad5 hinf,hr],hz⟩
   ·cases h
  ·cases h
 ·cases h
theorem ct8 [Cfg] (hW : WRel G S w B) {T : TM} {a : Act} (hT : TRel G S T a) {o : Oper} {x : Operand} {y : AV} (ho : o.op = .nilCheck x) (h : anil (aev T x) = some y) : OpOk G S w B ((execOp a.eval o).run P w) y S:=by
 have hx:=hT.eval x
 generalize aev T x = ax at h hx
 refine am2 hW (u:=a.eval x) ?_ ?_
 ·simp only [execOp,ho]
  generalize a.eval x = vx at hx
  cases hx <;> simp [anil] at h <;> rfl
 ·cases ax <;> simp [anil] at h <;> (rw [← h]; exact hx)
theorem bV2 {t asserted : TypeId} {ok : Bool} {a y : AV} {v : Value} (h : bs8 P asserted ok a = some y) (hv : VRel G a v) (w : World) : ∃ z,(Instr.typeAssert v t asserted ok).run P w = .ok z w ∧ VRel G y z:=by
 unfold bs8 at h
 split at h
 ·rename_i t' a'
  cases hv with
  | iface _ _ v' hv' =>
   split at h
   ·rename_i d hu
    split at h
    ·cases h
    ·rename_i hd
     split at h
     ·rename_i ht
      subst ht
      cases h
      refine ⟨if ok then .tuple #[v',.bool true] else v',?_,?_⟩
      ·cases d <;> first | (simp [aE6] at hd; done) | (cases ok <;> simp [Instr.typeAssert,run_underlying hu])
      ·cases ok
       ·exact hv'
       ·exact .tup _ [v',.bool true] rfl (CRel.cons hv' (CRel.cons (.lit _) (CRel.nil G))).2
     ·rename_i ht
      split at h
      ·rename_i hok
       obtain ⟨z,hz,rfl⟩:=Option.map_eq_some_iff.1 h
       refine ⟨.tuple #[z,.bool false],?_,.tup _ [z,.bool false] rfl (CRel.cons (a95 G z) (CRel.cons (.lit _) (CRel.nil G))).2⟩
       cases d <;> first | (simp [aE6] at hd; done) | (simp [Instr.typeAssert,run_underlying hu,ht,hok,aM7 hz])
      ·cases h
   ·cases h
 ·cases h
theorem aW5 {t : TypeId} {v u : Value} {z : Bool} {w : World} (h : ∀ d,(Op.equalIn (d + 1) t v u).run P w = .ok z w) : (Op.equal t v u).run P w = .ok z w:=h 9999
theorem bB9 {g : Sem Unit} {s : Sem Value} {z : Value} {w : World} (hg : g.run P w = .ok () w) (hs : s.run P w = .ok z w) : (do g; s : Sem Value).run P w = .ok z w:=by
 simp [hg,hs]
theorem cw2 {t : TypeId} {v u : Value} {z : Bool} {w : World} (h : (Op.equal t v u).run P w = .ok z w) : (do pure (.bool (← Op.equal t v u)) : Sem Value).run P w = .ok (.bool z) w:=by
 simp [h]
theorem cw5 {t : TypeId} {v u : Value} {z : Bool} {w : World} (h : (Op.equal t v u).run P w = .ok z w) : (do pure (.bool (!(← Op.equal t v u))) : Sem Value).run P w = .ok (.bool !z) w:=by
 simp [h]
def bY3 : Value → Bool
 | .slice .. | .map _ | .iface .. | .pointer _ | .func ..=>true
 | _=>false
theorem ck4 {t : TypeId} {d : TypeDesc} {a : AV} {x v : Value} (hd : P.underlying t = some d) (h : aM4 d a v = true) (hv : VRel G a x) (w : World) : (Op.equal t x v).run P w = .ok false w ∧ bY3 x = true:=by
 unfold aM4 at h
 split at h
 all_goals first
  | (cases h; done)
  | (cases hv; refine ⟨aW5 fun d'=>?_,rfl⟩; simp [Op.equalIn,run_underlying hd])
theorem bx3 {t : TypeId} {a b : AV} {v u : Value} {z : Bool} (h : ax7 P t a b = some z) (hv : VRel G a v) (hu : VRel G b u) (w : World) :
  (Op.equal t v u).run P w = .ok z w ∧ bY3 v = true:=by
 unfold ax7 at h
 split at h
 ·rename_i d x hd
  split at h
  ·rename_i hf
   cases h
   rw [hu.al0]
   exact ck4 hd hf hv w
  ·cases h
 ·rename_i e p g n off hd
  cases hu with
  | ptr _ _ _ _ b' c' ho =>
   split at h
   ·rename_i p' g' n' off'
    split at h
    ·rename_i hc
     obtain ⟨rfl,rfl,rfl,hsz⟩:=hc
     cases h
     cases hv with
     | ptr _ _ _ _ b c ho' =>
      rw [ho] at ho'
      cases ho'
      refine ⟨aW5 fun d'=>?_,rfl⟩
      cases hi : P.info? e with
      | none=>simp [hi] at hsz
      | some i =>
       have hsz' : i.size ≠ 0:=by simpa [hi] using hsz
       have hb : ((⟨b',off',none⟩ : Addr) == ⟨b',off,none⟩) = decide (off' = off):=by
        by_cases he : off' = off
        ·subst he; simp
        ·simp [he]
       simp [Op.equalIn,run_underlying hd,ad5 hi,hsz',sameAddr,hb]
    ·cases h
   ·cases h
    rw [hv.al0]
    exact ⟨aW5 fun d'=>by simp [Op.equalIn,run_underlying hd],rfl⟩
   ·cases h
 ·cases h
theorem cs4 {op : BinOp} {t : TypeId} {a b y : AV} {v u : Value} (h : acmp P op t a b = some y) (hv : VRel G a v) (hu : VRel G b u) (x1 x2 : Operand) (w : World) :
  ∃ z,(do eqGuard op t x1 x2 v u; binOp op t v u : Sem Value).run P w = .ok z w ∧ VRel G y z:=by
 have guard : bY3 v = true → (eqGuard op t x1 x2 v u).run P w = .ok () w:=fun h1=>by
  unfold eqGuard
  cases op <;> cases v <;> first | (cases h1; done) | (simp; done)
 unfold acmp at h
 split at h
 ·obtain ⟨z,hz,rfl⟩:=Option.map_eq_some_iff.1 h
  obtain ⟨h1,h2⟩:=bx3 hz hv hu w
  refine ⟨.bool z,bB9 (guard h2) ?_,.lit _⟩
  have:=cw2 h1
  cases v <;> first | (cases h2; done) | (cases u <;> exact this)
 ·obtain ⟨z,hz,rfl⟩:=Option.map_eq_some_iff.1 h
  obtain ⟨h1,h2⟩:=bx3 hz hv hu w
  refine ⟨.bool !z,bB9 (guard h2) ?_,.lit _⟩
  have:=cw5 h1
  cases v <;> first | (cases h2; done) | (cases u <;> exact this)
 ·cases h
theorem aH0 {d y : Nat} {a : AV} {v : Value} (h : an6 d (some a) = some y) (hv : VRel G a v) : ∃ k i,v = .int k i ∧ 0 ≤ i ∧ y = i.toNat:=by
 unfold an6 at h
 split at h
 ·rename_i e; cases e
 ·rename_i k i e
  cases e
  split at h
  ·rename_i h0
   cases h
   exact ⟨k,i,hv.al0,h0,rfl⟩
  ·cases h
 ·cases h
end
open Go.RowKit
section
variable {P : Program} {G : Gh} {S : AS} {w : World} {B : Nat → Nat}
theorem ba5 {k : IntKind} {i : Int} {y : Nat} {code : BoundsCode} (h0 : 0 ≤ i) (h1 : i ≤ y) (w : World) : (Instr.sliceBound (.int k i) y code).run P w = .ok i.toNat w:=by
 simp [Instr.sliceBound,asIntOf,h0,h1]
theorem bu0 {isS : Bool} {len cap l h' m : Nat} {lo hi mx : Option AV} {lo' hi' mx' : Option Value} (hlo : ∀ y,lo = some y → ∃ u,lo' = some u ∧ VRel G y u) (hlo0 : lo = none → lo' = none)
  (hhi : ∀ y,hi = some y → ∃ u,hi' = some u ∧ VRel G y u) (hhi0 : hi = none → hi' = none) (hmx : ∀ y,mx = some y → ∃ u,mx' = some u ∧ VRel G y u) (hmx0 : mx = none → mx' = none)
  (hl : an6 0 lo = some l) (hh : an6 len hi = some h') (hm : an6 len mx = some m) (hlh : l ≤ h') (hhm : h' ≤ m) (hmn : m ≤ len) (hn : len ≤ cap) (hmh : mx.isSome → hi.isSome) (w : World) :
  ∃ m',(Instr.sliceBounds isS len cap lo' hi' mx').run P w = .ok (l,h',m') w ∧ h' ≤ m' ∧ m' ≤ cap ∧ (mx.isSome = true → m' = m) ∧ (mx = none → m' = cap):=by
 have low : ∀ code (M : Nat),(match lo' with | some v=>(do let l ← Instr.sliceBound v h' code; pure (l,h',M)) | none=>(do let l ← pure 0; pure (l,h',M)) : Sem (Nat × Nat × Nat)).run P w = .ok (l,h',M) w:=by
  intro code M
  cases lo with
  | none=>rw [hlo0 rfl]; simp [an6] at hl; rw [← hl]; rfl
  | some y =>
   obtain ⟨u,rfl,hyu⟩:=hlo y rfl
   obtain ⟨k,i,rfl,hi0,rfl⟩:=aH0 hl hyu
   simp [ba5 (P:=P) (k:=k) (code:=code) hi0 (show i ≤ (h' : Int) by omega) w]
 cases mx with
 | none =>
  rw [hmx0 rfl]
  refine ⟨cap,?_,by omega,Nat.le_refl _,(fun e=>by cases e),fun _=>rfl⟩
  cases hi with
  | none =>
   rw [hhi0 rfl]
   have : h' = len:=by simp [an6] at hh; exact hh.symm
   have lw:=low .sliceB cap
   subst this
   simp only [Instr.sliceBounds,Sem.run_bind,Sem.run_pure,Result.andThen_ok,Option.isSome_none,Bool.false_eq_true,if_false]
   exact lw
  | some y =>
   obtain ⟨u,rfl,hyu⟩:=hhi y rfl
   obtain ⟨k,i,rfl,hi0,rfl⟩:=aH0 hh hyu
   have lw:=low .sliceB cap
   have hr:=ba5 (P:=P) (k:=k) (y:=cap) (code:=if isS then .sliceAcap else .sliceAlen) hi0 (by omega) w
   simp only [Instr.sliceBounds,Sem.run_bind,Sem.run_pure,Result.andThen_ok,Option.isSome_none,Bool.false_eq_true,if_false,hr]
   exact lw
 | some y =>
  obtain ⟨u,rfl,hyu⟩:=hmx y rfl
  obtain ⟨k,i,rfl,hi0,rfl⟩:=aH0 hm hyu
  refine ⟨i.toNat,?_,hhm,by omega,fun _=>rfl,(fun e=>by cases e)⟩
  cases hi with
  | none=>simp at hmh
  | some y =>
   obtain ⟨u,rfl,hyu⟩:=hhi y rfl
   obtain ⟨k',i',rfl,hi0',rfl⟩:=aH0 hh hyu
   have lw:=low .slice3C i.toNat
   have hr:=ba5 (P:=P) (k:=k) (y:=cap) (code:=if isS then .slice3Acap else .slice3Alen) hi0 (by omega) w
   have hr':=ba5 (P:=P) (k:=k') (y:=i.toNat) (code:=.slice3B) hi0' (by omega) w
   simp only [Instr.sliceBounds,Sem.run_bind,Result.andThen_ok,Option.isSome_some,if_true,hr,hr']
   exact lw
theorem cd5 {t : TypeId} {a x : AV} {v : Value} {lo hi mx : Option AV} {lo' hi' mx' : Option Value} (h : bv5 P t a lo hi mx = some x) (hv : VRel G a v)
  (hlo : ∀ y,lo = some y → ∃ u,lo' = some u ∧ VRel G y u) (hlo0 : lo = none → lo' = none) (hhi : ∀ y,hi = some y → ∃ u,hi' = some u ∧ VRel G y u) (hhi0 : hi = none → hi' = none)
  (hmx : ∀ y,mx = some y → ∃ u,mx' = some u ∧ VRel G y u) (hmx0 : mx = none → mx' = none) (w : World) : ∃ u,(Instr.sliceAt t v lo' hi' mx').run P w = .ok u w ∧ VRel G x u:=by
 unfold bv5 at h
 split at h
 ·rename_i elem sp sz es hu
  split at h
  ·rename_i l h' m hl hh hm
   split at h
   ·rename_i hc
    obtain ⟨hsz,hlh,hhm,hmn,hmh⟩:=hc
    obtain ⟨inf,hinf,hinf2⟩:=Option.map_eq_some_iff.1 hsz
    cases h
    cases hv with
    | list _ _ _ b off cap val hn hcm hes h1 h2 hs =>
     obtain ⟨m',hr,hhm',hmc,hms,hmn'⟩:=bu0 (P:=P) (isS:=true) hlo hlo0 hhi hhi0 hmx hmx0 hl hh hm hlh hhm hmn hn hmh w
     have hlen : ((es.drop l).take (h' - l)).length = h' - l:=by simp; omega
     have hrun : (Instr.sliceAt t (.slice (some ⟨b,off,none⟩) es.length cap) lo' hi' mx').run P w = .ok (.slice (some ⟨b,if m' = l then off else off + l * sz,none⟩) ((es.drop l).take (h' - l)).length (m' - l)) w:=by
      rw [hlen]
      by_cases hml : m' = l
      ·subst hml
       simp [Instr.sliceAt,Instr.slice,run_underlying hu,hr,ad5 hinf]
      ·simp [Instr.sliceAt,Instr.slice,run_underlying hu,hr,ad5 hinf,hml,hinf2,ah1]
     refine ⟨_,hrun,.list _ sz _ b _ (m' - l) (fun i j=>val (l + i) j) (by omega) (by omega) ?_ ?_ ?_ ?_⟩
     ·intro e he
      exact hes e (List.mem_of_mem_drop (List.mem_of_mem_take he))
     ·intro i j hi hj
      rw [hlen] at hi
      rw [if_neg (by omega)]
      have:=h1 (l + i) j (by omega) hj
      rw [Nat.add_mul] at this
      rw [← this]
      congr 1
      omega
     ·intro i j e a he ha
      refine h2 (l + i) j e a ?_ ha
      rw [List.getElem?_take] at he
      split at he
      ·rwa [List.getElem?_drop] at he
      ·cases he
     ·by_cases hmx' : mx.isSome = true
      ·rw [if_pos hmx']
       by_cases hmh' : m = h'
       ·rw [if_pos hmh']
        show m' - l = _
        rw [hlen,hms hmx',hmh']
       ·rw [if_neg hmh']
        trivial
      ·rw [if_neg hmx']
       by_cases hlh0 : l = 0 ∧ h' = es.length
       ·rw [if_pos hlh0]
        obtain ⟨rfl,rfl⟩:=hlh0
        have hm0 : m' = cap:=hmn' (by cases mx <;> simp_all)
        subst hm0
        rw [hlen,Nat.sub_zero,Nat.sub_zero,Nat.zero_mul,Nat.add_zero,ite_self]
        exact hs
       ·rw [if_neg hlh0]
        trivial
   ·cases h
  ·cases h
 ·rename_i elem sp p g n off len sz hu
  split at h
  ·rename_i l h' m hl hh hm
   split at h
   ·rename_i hc
    obtain ⟨hsz,hlh,hhm,hmn,hmh⟩:=hc
    obtain ⟨inf,hinf,hinf2⟩:=Option.map_eq_some_iff.1 hsz
    cases hv with
    | row _ _ _ _ _ _ _ b c o cap ho hoff hn hcm hs =>
     obtain ⟨m',hr,hhm',hmc,hms,hmn'⟩:=bu0 (P:=P) (isS:=true) hlo hlo0 hhi hhi0 hmx hmx0 hl hh hm hlh hhm hmn hn hmh w
     have hrun : (Instr.sliceAt t (.slice (some ⟨b,o,none⟩) len cap) lo' hi' mx').run P w = .ok (.slice (some ⟨b,if m' = l then o else o + l * sz,none⟩) (h' - l) (m' - l)) w:=by
      by_cases hml : m' = l
      ·subst hml
       simp [Instr.sliceAt,Instr.slice,run_underlying hu,hr,ad5 hinf]
      ·simp [Instr.sliceAt,Instr.slice,run_underlying hu,hr,ad5 hinf,hml,hinf2,ah1]
     refine ⟨_,hrun,?_⟩
     split at h
     ·rename_i hz
      obtain ⟨rfl,hmx',rfl⟩:=hz
      cases h
      have hm'm:=hms hmx'
      rw [hm'm]
      have:=VRel.list (G:=G) .full sz [] b (if m = m then o else o + m * sz) (m - m) (fun _ _=>undef) (by simp) (by omega) (by simp) (fun i j hi _=>by simp at hi) (fun i j e a he _=>by simp at he) (show m - m = 0 by omega)
      simpa using this
     ·rename_i hz
      cases h
      refine .row _ p g n (off + l * sz) (h' - l) sz b c (if m' = l then o else o + l * sz) (m' - l) ho (fun hpos=>?_) (by omega) (by omega) ?_
      ·rw [if_neg (by omega),hoff (by omega)]
      ·unfold Room.cut
       by_cases hmx' : mx.isSome = true
       ·rw [if_pos hmx',if_pos rfl]
        by_cases hmh' : m = h'
        ·rw [if_pos hmh']
         show m' - l = h' - l
         rw [hms hmx',hmh']
        ·rw [if_neg hmh']
         trivial
       ·rw [if_neg hmx',if_neg (show ¬ (0 = 1) by decide)]
        by_cases hz' : h' = l ∧ 0 < l
        ·rw [if_pos hz']
         trivial
        ·rw [if_neg hz']
         cases sp with
         | no=>trivial
         | full=>trivial
         | room =>
          obtain ⟨e1,e2⟩:=hs
          have hm0 : m' = cap:=hmn' (by cases mx <;> simp_all)
          subst hm0
          refine ⟨?_,?_⟩
          ·by_cases hml : m' = l
           ·rw [if_pos hml]
            have : l = 0:=by omega
            subst this
            rw [Nat.zero_mul,Nat.add_zero]
            exact e1
           ·rw [if_neg hml,e1]
          ·rw [← e2,Nat.add_assoc,← Nat.add_mul]
           congr 2
           omega
   ·cases h
  ·cases h
 ·rename_i len elem p g n off hu
  split at h
  ·rename_i i l h' m hi' hl hh hm
   split at h
   ·rename_i hc
    obtain ⟨hlh,hhm,hmn,hml,hmh⟩:=hc
    cases h
    cases hv with
    | ptr _ _ _ _ b c ho =>
     obtain ⟨m',hr,hhm',hmc,hms,hmn'⟩:=bu0 (P:=P) (isS:=false) hlo hlo0 hhi hhi0 hmx hmx0 hl hh hm hlh hhm hmn (Nat.le_refl len) hmh w
     refine ⟨.slice (some ⟨b,if m' = l then off else off + l * i.size,none⟩) (h' - l) (m' - l),?_,.row _ p g n (off + l * i.size) (h' - l) i.size b c (if m' = l then off else off + l * i.size) (m' - l) ho (fun hpos=>?_) (by omega) (by omega) trivial⟩
     ·by_cases hml : m' = l
      ·subst hml
       simp [Instr.sliceAt,Instr.sureAddr,run_underlying hu,hr,ad5 hi']
      ·simp [Instr.sliceAt,Instr.sureAddr,run_underlying hu,hr,ad5 hi',hml,ah1]
     ·rw [if_neg (by omega)]
   ·cases h
  ·cases h
 ·cases h
end
open Go.RowKit
section
variable {P : Program} {G : Gh} {S : AS} {w : World} {B : Nat → Nat}
structure by5 (P : Program) (sz : Nat) (x : Value) (n : Nat) (vs : List Value) (w : World) : Prop where
 len : (Builtin.lenOf x).run P w = .ok n w
 cells : (Builtin.firstCells sz n x).run P w = .ok vs.toArray w
 drew : (Builtin.firstCells sz n x).run P w.drew = .ok vs.toArray w.drew
 pre : ∀ k,k ≤ n → (Builtin.firstCells sz k x).run P w = .ok (vs.take (k * sz)).toArray w
theorem bs7 (sz : Nat) : ∀ (n : Nat) (cs : List AV),(chunks sz n cs).length = n
 | 0,_=>rfl
 | n + 1,cs=>by simp [chunks,bs7 sz n]
theorem bl7 (sz : Nat) : ∀ (n : Nat) (cs : List AV),n * sz ≤ cs.length → (chunks sz n cs).flatten = cs.take (n * sz) ∧ ∀ e ∈ chunks sz n cs,e.length = sz
 | 0,cs,_=>by simp [chunks]
 | n + 1,cs,h=>by
  have hm : (n + 1) * sz = sz + n * sz:=by rw [Nat.add_mul,Nat.one_mul,Nat.add_comm]
  obtain ⟨h1,h2⟩:=bl7 sz n (cs.drop sz) (by simp; omega)
  refine ⟨?_,fun e he=>?_⟩
  ·simp only [chunks,List.flatten_cons,h1,hm,List.take_add]
  ·rcases List.mem_cons.1 he with rfl | he
   ·simp; omega
   ·exact h2 e he
theorem aw7 {sz n c : Nat} {a : Addr} {vs : List Value} (hl : vs.length = n * sz) (h : ∀ j v,vs[j]? = some v → w.cell? (a.add j) = some v) : by5 P sz (.slice (some a) n c) n vs w :=
 ⟨rfl,run_firstCells_some w sz n a n c vs hl h,run_firstCells_some w.drew sz n a n c vs hl (by simpa using h),fun k hk =>
  run_firstCells_some w sz k a n c (vs.take (k * sz)) (by have:=Nat.mul_le_mul_right sz hk; simp; omega) fun j v hj=>by
   rw [List.getElem?_take] at hj
   split at hj
   ·exact h j v hj
   ·cases hj⟩
theorem b44 {sz : Nat} {a : Option Addr} : by5 P sz (.slice a 0 0) 0 [] w:=by
 cases a with
 | none=>exact ⟨rfl,rfl,rfl,fun k _=>by simp [Builtin.firstCells]⟩
 | some a=>exact aw7 (vs:=[]) (by simp) fun j v h=>by simp at h
theorem aC0 [Cfg] (hW : WRel G S w B) {sz : Nat} {x : AV} {v : Value} {news : List (List AV)} (h : al2 S sz x = some news) (hv : VRel G x v) (hsz : 0 < sz) :
  ∃ vs,CRel G news.flatten vs ∧ vs.length = news.length * sz ∧ (∀ e ∈ news,e.length = sz) ∧ by5 P sz v news.length vs w:=by
 unfold al2 at h
 split at h
 ·split at h
  ·rename_i hs
   subst hs
   cases h
   obtain ⟨b,off,cap,vs,rfl,_,_,h1,h2,h3,h4,_⟩:=hv.flat hsz
   exact ⟨vs,h1,h3,h4,aw7 h3 fun j u hj=>by rw [ah1]; exact hW.imm _ _ _ (h2 j u hj)⟩
  ·cases h
 ·rename_i sp p g n off len sz'
  split at h
  ·rename_i cs hcs
   split at h
   ·rename_i hc
    obtain ⟨rfl,hfit⟩:=hc
    cases h
    cases hv with
    | row _ _ _ _ _ _ _ b c o cap ho hoff hn hm hs =>
     obtain ⟨s,vs,t,fr,_,_,_,_,_,h2,_,h4,h5,_⟩:=hW.ai0 hcs ho
     obtain ⟨k1,k2⟩:=bl7 sz' len (cs.drop off) (by simp; omega)
     have hl : (((vs.toList.take cs.length).drop off).take (len * sz')).length = len * sz':=by simp; omega
     rw [bs7]
     refine ⟨((vs.toList.take cs.length).drop off).take (len * sz'),by rw [k1]; exact (h4.drop off).take _,hl,k2,?_⟩
     rcases Nat.eq_zero_or_pos len with h0 | hpos
     ·subst h0
      have:=aw7 (P:=P) (w:=w) (sz:=sz') (n:=0) (c:=cap) (a:=⟨b,o,none⟩) (vs:=[]) (by simp) (fun j v hj=>by simp at hj)
      simpa using this
     ·refine aw7 hl fun j u hj=>?_
      rw [ah1,hoff hpos]
      rw [List.getElem?_take] at hj
      split at hj
      ·rw [List.getElem?_drop,List.getElem?_take] at hj
       split at hj
       ·simp only [World.cell?,h2]
        simpa using hj
       ·cases hj
      ·cases hj
   ·cases h
  ·cases h
 ·cases h
  rw [hv.al0]
  exact ⟨[],CRel.nil G,by simp,(fun e he=>by cases he),b44⟩
 ·rename_i s
  split at h
  ·rename_i h1
   subst h1
   cases h
   rw [hv.al0]
   have hl : (s.data.toList.map fun b=>[AV.lit (.int .u8 b.toNat)]).length = s.size:=by simp
   have hx : (s.extract 0 s.size).data.map (fun b=>Value.int .u8 b.toNat) = (s.data.toList.map fun b=>Value.int .u8 b.toNat).toArray:=by
    rw [ByteArray.extract_zero_size]
    apply Array.ext'
    simp
   refine ⟨s.data.toList.map fun b=>.int .u8 b.toNat,?_,by simp,?_,?_⟩
   ·have : (s.data.toList.map fun b=>[AV.lit (.int .u8 b.toNat)]).flatten = (s.data.toList.map fun b=>Value.int .u8 b.toNat).map AV.lit:=by
     induction s.data.toList with
     | nil=>rfl
     | cons b r ih=>simp [ih]
    rw [this]
    exact CRel.lits G _
   ·intro e he
    obtain ⟨b,_,rfl⟩:=List.mem_map.1 he
    rfl
   ·rw [hl]
    exact ⟨rfl,by simp only [Builtin.firstCells,Sem.run_pure,hx],by simp only [Builtin.firstCells,Sem.run_pure,hx],fun k hk=>by
     have hxk : (s.extract 0 k).data.map (fun b=>Value.int .u8 b.toNat) = ((s.data.toList.map fun b=>Value.int .u8 b.toNat).take (k * 1)).toArray:=by
      apply Array.ext'
      rw [Nat.mul_one]
      simp [List.extract_eq_take_drop,List.map_take]
     simp only [Builtin.firstCells,Sem.run_pure,hxk]⟩
  ·cases h
 ·cases h
theorem ones_of {news : List (List AV)} {vs : List Value} (h : CRel G news.flatten vs) (hone : news.all (fun e=>e.all AV.one) = true) : ∀ u ∈ vs,u.oneCell' = true:=fun u hu=>by
 obtain ⟨j,hj⟩:=List.getElem?_of_mem hu
 have hjl : j < news.flatten.length:=by rw [h.1]; exact (List.getElem?_eq_some_iff.1 hj).1
 refine (h.2 j _ u (List.getElem?_eq_getElem hjl) hj).one ?_
 obtain ⟨e,he,hx⟩:=List.mem_flatten.1 (List.getElem_mem hjl)
 exact List.all_eq_true.1 (List.all_eq_true.1 hone e he) _ hx
def b98 : TypeDesc → Bool
 | .slice _=>true
 | .string=>true
 | _=>false
theorem cy2 {u : TypeId} {d : TypeDesc} (hu : P.underlying u = some d) (hd : b98 d = true) (w : World) : (do pure ((← underlying u) matches .int _) : Sem Bool).run P w = .ok false w:=by
 cases d <;> first | (cases hd; done) | simp [run_underlying hu]
theorem b30 {t u ty e : TypeId} {d : TypeDesc} {i : TypeInfo} (ht : P.underlying t = some (.slice e)) (hu : P.underlying u = some d) (hd : b98 d = true) (hi : P.info? e = some i) {a : Addr} {len cap n : Nat} {x : Value} {vs : List Value}
  (hs : by5 P i.size x n vs w) (hfit : len + n ≤ cap) {w' : World} (hst : (storeCells (a.add (len * i.size)) vs).run P w = .ok () w') : (Builtin.append_ #[t,u] ty #[.slice (some a) len cap,x]).run P w = .ok (.slice (some a) (len + n) cap) w':=by
 have hl:=hs.len
 have hc:=hs.cells
 have hzr:=cy2 hu hd w
 cases d <;> first | (cases hd; done) | skip
 ·simp [Builtin.append_,run_underlying ht,run_underlying hu,sizeOf,typeInfo,hi,hl,hfit,hc,hst]
 ·simp [Builtin.append_,run_underlying ht,run_underlying hu,sizeOf,typeInfo,hi,hl,hfit,hc,hst]
theorem bH0 {t u ty e : TypeId} {d : TypeDesc} {i : TypeInfo} (ht : P.underlying t = some (.slice e)) (hu : P.underlying u = some d) (hd : b98 d = true) (hi : P.info? e = some i) {base : Option Addr} {len cap : Nat} {x : Value}
  (hs : by5 P i.size x 0 [] w) (hfit : len ≤ cap) : (Builtin.append_ #[t,u] ty #[.slice base len cap,x]).run P w = .ok (.slice base len cap) w:=by
 have hl:=hs.len
 have hc:=hs.cells
 cases d <;> first | (cases hd; done) | skip
 ·cases base <;> simp [Builtin.append_,run_underlying ht,run_underlying hu,sizeOf,typeInfo,hi,hl,hfit,hc,storeCells]
 ·cases base <;> simp [Builtin.append_,run_underlying ht,run_underlying hu,sizeOf,typeInfo,hi,hl,hfit,hc,storeCells]
theorem a03 {t u ty e : TypeId} {d : TypeDesc} {i : TypeInfo} {z : Value} (ht : P.underlying t = some (.slice e)) (hu : P.underlying u = some d) (hd : b98 d = true) (hi : P.info? e = some i) (hz : i.zero = some z) {base : Option Addr} {len cap n : Nat} {x : Value}
  {olds vs : List Value} (ho : by5 P i.size (.slice base len cap) len olds w) (hs : by5 P i.size x n vs w) (hg : cap < len + n) (h63 : ((len + n : Nat) : Int) ≤ 9223372036854775807) (hfit : Builtin.nextslicecap (len + n) cap * i.bytes ≤ 281474976710656) :
  (Builtin.append_ #[t,u] ty #[.slice base len cap,x]).run P w =
   .ok (.slice (some ⟨w.heap.size,0,none⟩) (len + n) (grownCap w (len + n) cap e)) (w.alloc (.cells ((olds ++ vs) ++ (Builtin.zeroCells z.cells (grownCap w (len + n) cap e - (len + n))).toList).toArray e)).drew:=by
 have hl:=hs.len
 have hc:=hs.drew
 have hco:=ho.drew
 have hn : ¬ (len + n ≤ cap):=by omega
 have h63' : ¬ (9223372036854775807 < ((len : Int) + (n : Int))):=by omega
 have h48' : ¬ (281474976710656 < Builtin.nextslicecap (len + n) cap * i.bytes):=by omega
 rw [← World.alloc_drew]
 have fin : ∀ (A B C : List Value),(A.toArray ++ B.toArray ++ C.toArray : Array Value) = (A ++ (B ++ C)).toArray:=fun A B C=>by simp
 cases d <;> first | (cases hd; done) | skip
 ·simp [Builtin.append_,run_underlying ht,run_underlying hu,sizeOf,typeInfo,zeroValue,hi,hz,hl,hn,h63',h48',Question.forced,hc,hco,newRow,grownCap]
  congr 2
  apply Array.ext'
  simp [List.append_assoc]
 ·simp [Builtin.append_,run_underlying ht,run_underlying hu,sizeOf,typeInfo,zeroValue,hi,hz,hl,hn,h63',h48',Question.forced,hc,hco,newRow,grownCap]
  congr 2
  apply Array.ext'
  simp [List.append_assoc]
end
open Go.RowKit
section
variable {P : Program} {G : Gh} {S : AS} {w : World} {B : Nat → Nat}
theorem aF3 {es news : List (List AV)} : (es ++ news).flatten = es.flatten ++ news.flatten:=List.flatten_append
theorem bs9 [Cfg] (hW : WRel G S w B) {d : Tmp} {sz cap : Nat} {e : TypeId} {es : List (List AV)} {vs rest : List Value} (hes : ∀ x ∈ es,x.length = sz) (hc : CRel G es.flatten vs) (hcap : es.length ≤ cap) (hcm : cap ≤ maxLen)
  (hall : (vs ++ rest).length = cap * sz) {r : Result Next} (hr : r = .ok (.value (.slice (some ⟨w.heap.size,0,none⟩) es.length cap)) (w.alloc (.cells (vs ++ rest).toArray e)).drew) : ArOk P G S w B r (ay3 S d e sz es):=by
 have hfl:=aw2 sz es hes
 have hvl : vs.length = es.length * sz:=by rw [← hc.1,hfl]
 unfold ay3
 split
 ·obtain ⟨G',m1,m2,m3⟩:=bs6 hW d (cs:=es.flatten) (vs:=vs ++ rest) (n:=es.length) (sz:=sz) (cap:=cap) e hcap hcm hfl hall (by rw [List.take_left' hvl]; exact hc)
  exact ⟨G',_,_,.inl hr,m1,m2.drew,m3.trans (Mod.drew _ _ _)⟩
 ·obtain ⟨G',k1,k2,k3,k4⟩:=hW.cz3 (p:=S.here d) (g:=S.fresh (S.here d)) (n:=es.length) (sz:=sz) (cap:=cap) (e:=e) vs rest (Nat.le_refl _) (hW.bt0 _ _) (fun t ht=>.inl (AS.bz4 ht)) hvl hcap hall
  exact ⟨G',_,_,.inl hr,VRel.of_flat hcap hcm hes (hc.mono k4.le) (fun j u hj=>by rw [Nat.zero_add]; exact k2 j u hj) ⟨rfl,k1⟩,k3.drew,k4.trans (Mod.drew _ _ _)⟩
theorem zero_len {z : Value} {sz k : Nat} (hz : z.cells.size = sz) : (Builtin.zeroCells z.cells k).toList.length = k * sz:=by
 rw [Array.length_toList,size_zeroCells,hz]
theorem aY5 {z : Value} {sz n cap : Nat} {vs : List Value} (hz : z.cells.size = sz) (hv : vs.length = n * sz) (hn : n ≤ cap) : (vs ++ (Builtin.zeroCells z.cells (cap - n)).toList).length = cap * sz:=by
 rw [List.length_append,zero_len hz,hv,← Nat.add_mul]
 congr 1
 omega
theorem bq6 [Cfg] (hW : WRel G S w B) {d : Option Tmp} {t t2 ty : TypeId} {d2 : TypeDesc} (hu2 : P.underlying t2 = some d2) (hd2 : b98 d2 = true) {s x : AV} {v u : Value} {y : AR} (h : aI5 P S d t s x = some y) (hv : VRel G s v) (hu : VRel G x u) :
  ArOk P G S w B ((do pure (.value (← Builtin.append_ #[t,t2] ty #[v,u])) : Sem Next).run P w) y:=by
 have hval : ∀ {z : Value} {w' : World},(Builtin.append_ #[t,t2] ty #[v,u]).run P w = .ok z w' → (do pure (.value (← Builtin.append_ #[t,t2] ty #[v,u])) : Sem Next).run P w = .ok (.value z) w':=fun e=>by simp [e]
 unfold aI5 at h
 split at h
 case h_2=>cases h
 rename_i e d hut
 split at h
 case h_2=>cases h
 rename_i i hi
 split at h
 case h_2=>cases h
 rename_i z hz
 split at h
 case h_2=>cases h
 rename_i news hn
 split at h
 case isFalse=>cases h
 rename_i hc
 obtain ⟨hzs,hpos,hone⟩:=hc
 obtain ⟨nvs,hnc,hnl,hne,hsrc⟩:=aC0 (P:=P) hW hn hu hpos
 have h1s:=ones_of hnc hone
 split at h
 ·rename_i h0
  have hn0 : nvs = []:=List.eq_nil_of_length_eq_zero (by rw [hnl,h0,Nat.zero_mul])
  rw [h0,hn0] at hsrc
  split at h
  ·cases h
   rw [hv.al0] at hval ⊢
   exact am2 hW (hval (bH0 hut hu2 hd2 hi hsrc (Nat.le_refl _))) (.lit _)
  ·cases h
   have hv0:=hv
   cases hv with
   | list sp sz es b off cap val hn' hcm hes h1 h2 hs=>exact am2 hW (hval (bH0 hut hu2 hd2 hi hsrc hn')) hv0
  ·cases h
   have hv0:=hv
   cases hv with
   | row sp p g n off len sz b c o cap ho hoff hn' hcm hs=>exact am2 hW (hval (bH0 hut hu2 hd2 hi hsrc hn')) hv0
  ·cases h
 ·rename_i h0
  have hpl : 0 < news.length:=by omega
  split at h
  ·-- nil
   rename_i a0
   split at h
   ·rename_i hb
    obtain ⟨hmax,hby⟩:=hb
    cases h
    rw [hv.al0] at hval ⊢
    have hmax' : news.length ≤ 9223372036854775807:=by simp only [maxLen] at hmax; omega
    have ho : by5 P i.size (.slice a0 0 0) 0 [] w:=b44
    have hr:=a03 (ty:=ty) hut hu2 hd2 hi hz ho hsrc (by omega) (by omega) (growslice_fits (by omega) (by rw [Nat.zero_add]; exact hby))
    rw [Nat.zero_add] at hr
    exact bs9 hW hne hnc (grownCap_ge w _ 0 e) (grownCap_le_maxLen w _ 0 e hmax) (aY5 hzs hnl (grownCap_ge w _ 0 e)) (hval hr)
   ·cases h
  ·-- full
   rename_i sz es
   split at h
   ·rename_i hb
    obtain ⟨hsz,hmax,hby⟩:=hb
    cases h
    subst hsz
    obtain ⟨b,off,cap,vs,rfl,hncap,hcm,hc1,him,hvl,hes,hfull⟩:=hv.flat hpos
    have hcap : cap = es.length:=hfull
    subst hcap
    have hmax' : es.length + news.length ≤ 9223372036854775807:=by simp only [maxLen] at hmax; omega
    have ho : by5 P i.size (.slice (some ⟨b,off,none⟩) es.length es.length) es.length vs w:=aw7 hvl fun j v hj=>by rw [ah1]; exact hW.imm _ _ _ (him j v hj)
    have hr:=a03 (ty:=ty) hut hu2 hd2 hi hz ho hsrc (by omega) (by omega) (growslice_fits (by omega) hby)
    have hlen : (es ++ news).length = es.length + news.length:=List.length_append
    refine bs9 hW (vs:=vs ++ nvs) (fun x hx=>(List.mem_append.1 hx).elim (hes x) (hne x)) (by rw [aF3]; exact hc1.append hnc) (cap:=grownCap w (es.length + news.length) es.length e) (by rw [hlen]; exact grownCap_ge w _ es.length e) (grownCap_le_maxLen w _ es.length e hmax)
     (aY5 hzs (by rw [List.length_append,hvl,hnl,← Nat.add_mul]) (grownCap_ge w _ es.length e)) (by rw [hlen]; exact hval hr)
   ·cases h
  ·-- its own row,whose elements stay
   rename_i p g sz es
   split at h
   ·rename_i g' n sz' e' hs
    split at h
    ·rename_i hb
     obtain ⟨rfl,rfl,rfl,rfl,rfl,hmax,hby⟩:=hb
     cases h
     obtain ⟨b,off,cap,vs,rfl,hncap,hcm,hc1,him,hvl,hes,hoff,hown⟩:=hv.flat hpos
     subst hoff
     have hmax' : es.length + news.length ≤ 9223372036854775807:=by simp only [maxLen] at hmax; omega
     obtain ⟨k1,cur,fr,k2,k3,_,k4⟩:=hW.slot p (.tok g' es.length i.size e') hs rfl b cap hown
     have hlen : (es ++ news).length = es.length + news.length:=List.length_append
     by_cases hroom : es.length + news.length ≤ cap
     ·have hfit2 : (es.length + news.length) * i.size ≤ cur.size:=by rw [k3]; exact Nat.mul_le_mul_right _ hroom
      rw [Nat.add_mul] at hfit2
      have hst:=aq5 P b (es.length * i.size) e' fr nvs 0 cur.toList w (by simpa using k2) (fun o q1 _ q3=>by omega) (by simp [hnl]; omega) h1s
      simp only [Nat.add_zero] at hst
      have hr:=b30 (ty:=ty) hut hu2 hd2 hi hsrc (a:=⟨b,0,none⟩) (len:=es.length) (cap:=cap) hroom (by rw [ah1,Nat.zero_add]; exact hst)
      obtain ⟨G',m1,m2,m3,m4⟩:=hW.growTok nvs hs hown k2 hnl hpl hroom
      refine ⟨G',_,_,.inl (hval hr),?_,m3,m4⟩
      have:=VRel.of_flat (G:=G') (sp:=.own p g') (es:=es ++ news) (b:=b) (off:=0) (cap:=cap) (vs:=vs ++ nvs) (by simpa using hroom) hcm (fun x hx=>(List.mem_append.1 hx).elim (hes x) (hne x)) (by rw [aF3]; exact (hc1.append hnc).mono m4.le) (fun j u hj=>by
       rw [Nat.zero_add]
       by_cases hj' : j < vs.length
       ·rw [List.getElem?_append_left hj'] at hj
        have:=m4.le.imm _ _ _ (him j u hj)
        rwa [Nat.zero_add] at this
       ·rw [List.getElem?_append_right (by omega)] at hj
        have:=m2 _ _ hj
        rwa [← hvl,Nat.add_sub_cancel' (by omega)] at this) ⟨rfl,by rw [List.length_append]; exact m1⟩
      rwa [List.length_append] at this
     ·have ho : by5 P i.size (.slice (some ⟨b,0,none⟩) es.length cap) es.length vs w:=aw7 hvl fun j v hj=>by rw [ah1]; exact hW.imm _ _ _ (him j v hj)
      have hr:=a03 (ty:=ty) hut hu2 hd2 hi hz ho hsrc (by omega) (by omega) (growslice_fits (by omega) hby)
      have hdom:=(hW.dom _ _ _ _ hown).1
      have hge:=grownCap_ge w (es.length + news.length) cap e'
      have hle:=grownCap_le_maxLen w (es.length + news.length) cap e' hmax
      obtain ⟨G',m1,m2,m3,m4⟩:=hW.cz3 (p:=p) (g:=g') (n:=es.length + news.length) (sz:=i.size) (cap:=grownCap w (es.length + news.length) cap e') (e:=e') (vs ++ nvs) (Builtin.zeroCells z.cells (grownCap w (es.length + news.length) cap e' - (es.length + news.length))).toList
       hdom (hW.bz7 hs (show es.length < es.length + news.length by omega)) (fun t ht=>by rw [hs] at ht; cases ht; exact .inr ⟨rfl,by simp [ab3.ext]⟩) (by rw [List.length_append,hvl,hnl,← Nat.add_mul]) hge
       (aY5 hzs (by rw [List.length_append,hvl,hnl,← Nat.add_mul]) hge)
      refine ⟨G',_,_,.inl (hval hr),?_,m3.drew,m4.trans (Mod.drew _ _ _)⟩
      have:=VRel.of_flat (G:=G') (sp:=.own p g') (es:=es ++ news) (b:=w.heap.size) (off:=0) (cap:=grownCap w (es.length + news.length) cap e') (vs:=vs ++ nvs) (by rw [hlen]; exact hge) hle (fun x hx=>(List.mem_append.1 hx).elim (hes x) (hne x))
       (by rw [aF3]; exact (hc1.append hnc).mono m4.le) (fun j u hj=>by rw [Nat.zero_add]; exact m2 j u hj) ⟨rfl,by rw [hlen]; exact m1⟩
      rwa [hlen] at this
    ·cases h
   ·cases h
  ·-- a row that is written l7,with room
   rename_i p g n off len sz
   split at h
   ·rename_i g' n' sz' e' cs hs
    split at h
    ·rename_i hb
     obtain ⟨rfl,rfl,rfl,rfl,rfl,rfl,hcl⟩:=hb
     cases hv with
     | row _ _ _ _ _ _ _ b c o cap hown hoff hncap hcm hroom =>
      obtain ⟨rfl,hcc⟩:=hroom
      rw [Nat.zero_add] at hcc
      have hcapc : cap = c:=Nat.eq_of_mul_eq_mul_right hpos hcc
      subst hcapc
      obtain ⟨k1,cur,fr,k2,k3,k4,k5,k6,k7⟩:=hW.slot p (.row g' n' i.size e' cs) hs rfl b cap hown
      have hcn : n' * i.size ≤ cap * i.size:=Nat.mul_le_mul_right _ k4
      split at h
      ·rename_i hfit
       cases h
       have hcat : S.ai0 p g' n' = some cs:=by simp [AS.ai0,hs]
       have hfl:=aw2 i.size news hne
       have hfit2 : (len + news.length) * i.size ≤ n' * i.size:=Nat.mul_le_mul_right _ hfit
       rw [Nat.add_mul] at hfit2
       have hw' : S.write p g' n' (len * i.size) news.flatten = some (p,.row g' n' i.size e' (splice cs (len * i.size) news.flatten)):=by
        unfold AS.write
        rw [hcat,hs]
        simp only
        rw [if_pos]
        ·rfl
        ·refine ⟨by rw [hfl,hcl]; exact hfit2,?_⟩
         rw [List.all_eq_true]
         intro a ha
         obtain ⟨q,hq,hq'⟩:=List.mem_flatten.1 ha
         exact List.all_eq_true.1 (List.all_eq_true.1 hone q hq) a hq'
       obtain ⟨G',w',m1,m2,m3⟩:=bk4 (P:=P) hW hw' hown hnc
       have hr:=b30 (ty:=ty) hut hu2 hd2 hi hsrc (a:=⟨b,0,none⟩) (len:=len) (cap:=cap) (by omega) (by rw [ah1,Nat.zero_add]; exact m1)
       exact ⟨G',_,_,.inl (hval hr),.row .room p g' n' 0 _ _ b cap 0 cap (m3.le.own _ _ _ _ hown) (fun _=>rfl) (by omega) hcm ⟨rfl,Nat.zero_add _⟩,m2,m3⟩
      ·rename_i hfit
       split at h
       ·rename_i hb
        obtain ⟨rfl,hmax,hby⟩:=hb
        cases h
        have hmax' : len + news.length ≤ 9223372036854775807:=by simp only [maxLen] at hmax; omega
        have hfl:=aw2 i.size news hne
        have hnew : (cs ++ news.flatten).length = (len + news.length) * i.size:=by rw [List.length_append,hcl,hfl,Nat.add_mul]
        by_cases hroom : len + news.length ≤ cap
        ·have hfit2 : (len + news.length) * i.size ≤ cur.size:=by rw [k3]; exact Nat.mul_le_mul_right _ hroom
         rw [Nat.add_mul] at hfit2
         have hst:=aq5 P b (len * i.size) e' fr nvs 0 cur.toList w (by simpa using k2) (fun o q1 q2 q3=>by have:=k6 o (by rw [hnl] at q2; omega) q3.1 q3.2; omega) (by simp [hnl]; omega) h1s
         simp only [Nat.add_zero] at hst
         have hr:=b30 (ty:=ty) hut hu2 hd2 hi hsrc (a:=⟨b,0,none⟩) (len:=len) (cap:=cap) hroom (by rw [ah1,Nat.zero_add]; exact hst)
         have htk : (cur.toList.take (len * i.size)).length = len * i.size:=by simp; omega
         have hrel : CRel G (cs ++ news.flatten) (cur.toList.take (len * i.size) ++ nvs):=k7.append hnc
         obtain ⟨G',m1,m2,m3⟩:=hW.setSlot (p:=p) (s:=.row g' (len + news.length) i.size e' (cs ++ news.flatten)) (t:=.row g' len i.size e' cs)
          (w':=w.setRow b (cur.toList.take (len * i.size) ++ nvs ++ cur.toList.drop (len * i.size + nvs.length)).toArray) hs rfl hown rfl (by simp [ab3.ext]) k1 (hrel.lvs hW.bu3) (fun x hx=>setRow_other w b x _ hx) (by simp) rfl rfl rfl
          fun G' hle himm=>⟨himm,_,fr,setRow_heap w b cur _ e' fr k2,by simp; omega,hroom,hnew,(fun o q1 q2 q3=>k6 o (by simp at q1; omega) q2 q3),by
           have e1 : ((cur.toList.take (len * i.size) ++ nvs ++ cur.toList.drop (len * i.size + nvs.length)).toArray.toList.take ((len + news.length) * i.size)) = cur.toList.take (len * i.size) ++ nvs:=by
            rw [List.toList_toArray,List.take_left']
            rw [List.length_append,htk,hnl,Nat.add_mul]
           rw [e1]
           exact hrel.mono hle⟩
         exact ⟨G',_,_,.inl (hval hr),.row .room p g' _ 0 _ _ b cap 0 cap m1 (fun _=>rfl) hroom hcm ⟨rfl,Nat.zero_add _⟩,m2,m3⟩
        ·have ho : by5 P i.size (.slice (some ⟨b,0,none⟩) len cap) len (cur.toList.take (len * i.size)) w:=aw7 (by simp; omega) fun j u hj=>by
          rw [ah1,Nat.zero_add]
          rw [List.getElem?_take] at hj
          split at hj
          ·simp only [World.cell?,k2]
           simpa using hj
          ·cases hj
         have hr:=a03 (ty:=ty) hut hu2 hd2 hi hz ho hsrc (by omega) (by omega) (growslice_fits (by omega) hby)
         have hge:=grownCap_ge w (len + news.length) cap e'
         have hle:=grownCap_le_maxLen w (len + news.length) cap e' hmax
         have htk : (cur.toList.take (len * i.size)).length = len * i.size:=by simp; omega
         have hrel : CRel G (cs ++ news.flatten) (cur.toList.take (len * i.size) ++ nvs):=k7.append hnc
         have hvl2 : (cur.toList.take (len * i.size) ++ nvs).length = (len + news.length) * i.size:=by rw [List.length_append,htk,hnl,Nat.add_mul]
         obtain ⟨G',m1,m2,m3⟩:=hW.moveSlot (p:=p) (s:=.row g' (len + news.length) i.size e' (cs ++ news.flatten)) (t:=.row g' len i.size e' cs) (hW.dom _ _ _ _ hown).1 hs rfl (by simp [ab3.ext]; omega)
          (.cells ((cur.toList.take (len * i.size) ++ nvs) ++ (Builtin.zeroCells z.cells (grownCap w (len + news.length) cap e' - (len + news.length))).toList).toArray e') (grownCap w (len + news.length) cap e') (hrel.lvs hW.bu3)
          fun G' hle' himm=>⟨himm,_,(0,0),heap_alloc_new w _,by
           have:=aY5 (vs:=cur.toList.take (len * i.size) ++ nvs) hzs hvl2 hge
           simpa using this,hge,hnew,(fun o _ _ h=>by simp at h),by
           rw [List.toList_toArray,List.take_left' hvl2]
           exact hrel.mono hle'⟩
         exact ⟨G',_,_,.inl (hval hr),.row .room p g' _ 0 _ _ w.heap.size _ 0 _ m1 (fun _=>rfl) hge hle ⟨rfl,Nat.zero_add _⟩,m2.drew,m3.trans (Mod.drew _ _ _)⟩
       ·cases h
    ·cases h
   ·cases h
  ·-- a row without room
   rename_i p g n off len sz
   split at h
   ·rename_i es hes'
    split at h
    ·rename_i hb
     obtain ⟨hsz,hmax,hby⟩:=hb
     cases h
     obtain ⟨vs,hc1,hvl,hes,ho⟩:=aC0 (P:=P) hW hes' hv hpos
     have hlen : (es ++ news).length = es.length + news.length:=List.length_append
     cases hv with
     | row _ _ _ _ _ _ _ b c o cap hown hoff hncap hcm hfull =>
      have hfull' : cap = len:=hfull
      subst hfull'
      have hel : cap = es.length:=by
       have h1:=ho.len
       simp [Builtin.lenOf] at h1
       exact h1
      rw [hel] at hval ho ⊢
      have hmax' : es.length + news.length ≤ 9223372036854775807:=by simp only [maxLen] at hmax; omega
      have hr:=a03 (ty:=ty) hut hu2 hd2 hi hz ho hsrc (by omega) (by omega) (growslice_fits (by omega) hby)
      refine bs9 hW (vs:=vs ++ nvs) (fun x hx=>(List.mem_append.1 hx).elim (hes x) (hne x)) (by rw [aF3]; exact hc1.append hnc) (cap:=grownCap w (es.length + news.length) es.length e) (by rw [hlen]; exact grownCap_ge w _ es.length e) (grownCap_le_maxLen w _ es.length e hmax)
       (aY5 hzs (by rw [List.length_append,hvl,hnl,← Nat.add_mul]) (grownCap_ge w _ es.length e)) (by rw [hlen]; exact hval hr)
    ·cases h
   ·cases h
  ·cases h
end
open Go.RowKit
section
variable {P : Program} {G : Gh} {S : AS} {w : World} {B : Nat → Nat}
theorem ERel.length {G : Gh} : ∀ {xs : List ah8} {es : List MapEntry},ERel G xs es → xs.length = es.length
 | [],[],_=>rfl
 | _ :: _,_ :: _,h=>by simp [ERel.length h.2.2.2]
 | [],_ :: _,h=>h.elim
 | _ :: _,[],h=>h.elim
theorem bx2 {b : Nat} {ents : Array MapEntry} {ck : Nat} {w : World} (h : w.heap[b]? = some (.map ents ck)) : (getObj b).run P w = .ok (.map ents ck) w:=by simp [getObj,Sem.run,h]
theorem aR5 {b : Nat} {ents : Array MapEntry} {ck : Nat} {w : World} (h : w.heap[b]? = some (.map ents ck)) (o : Obj) : (setObj b o).run P w = .ok () { w with heap:=w.heap.setIfInBounds b o }:=by simp [setObj,Sem.run,h]
theorem cu0 [Cfg] (hW : WRel G S w B) {t ty : TypeId} {x y : AV} {v : Value} (h : alen P S t x = some y) (hv : VRel G x v) : ∃ z,(Builtin.len_ #[t] ty #[v]).run P w = .ok z w ∧ VRel G y z:=by
 unfold alen at h
 split at h
 ·rename_i hu
  cases h
  cases hv
  exact ⟨_,by simp [Builtin.len_,run_underlying hu]; rfl,.lit _⟩
 ·rename_i hu
  cases h
  cases hv
  exact ⟨_,by simp [Builtin.len_,run_underlying hu]; rfl,.lit _⟩
 ·rename_i n e _ hu
  cases h
  exact ⟨_,by simp [Builtin.len_,run_underlying hu]; rfl,.lit _⟩
 ·rename_i k e p g hu
  cases hv with
  | mref _ _ b c ho =>
   split at h
   ·rename_i g' es ck hs
    split at h
    ·rename_i hg
     subst hg
     cases h
     obtain ⟨ents,h1,h2⟩:=hW.slot p (.map g' es ck) hs rfl b c ho
     refine ⟨goInt ents.size,?_,?_⟩
     ·simp [Builtin.len_,run_underlying hu,bx2 h1]
     ·have:=h2.length
      rw [show ents.size = es.length by simpa using this.symm]
      exact .lit _
    ·cases h
   ·cases h
 ·cases h
theorem run_copy {t ty e : TypeId} {tl : List TypeId} {i : TypeInfo} (ht : P.underlying t = some (.slice e)) (hi : P.info? e = some i) {a : Addr} {dl dc n : Nat} {x : Value} {vs : List Value} (hs : by5 P i.size x n vs w) {w' : World}
  (hst : (storeCells a (vs.take (min n dl * i.size))).run P w = .ok () w') : (Builtin.copy_ (t :: tl).toArray ty #[.slice (some a) dl dc,x]).run P w = .ok (goInt (min n dl : Nat)) w':=by
 have hl:=hs.len
 have hp:=hs.pre (min n dl) (Nat.min_le_left ..)
 have hm : Nat.min n dl = min n dl:=rfl
 simp only [Builtin.copy_,Sem.run_bind,run_underlying ht,Result.andThen_ok,hl,ad5 hi,hm,hp,List.toList_toArray,hst,Sem.run_pure,List.getElem?_toArray,List.getElem?_cons_zero,List.getElem?_cons_succ]
theorem ci2 [Cfg] (hW : WRel G S w B) {t ty : TypeId} {tl : List TypeId} {d x : AV} {v u : Value} {y : AR} (h : cq0 P S [d,x] (t :: tl) = some y) (hv : VRel G d v) (hu : VRel G x u) : ArOk P G S w B ((do pure (.value (← Builtin.copy_ (t :: tl).toArray ty #[v,u])) : Sem Next).run P w) y:=by
 unfold cq0 at h
 simp only at h
 split at h
 case h_2=>cases h
 rename_i e ht
 split at h
 case h_2=>cases h
 rename_i i hi
 split at h
 case h_2=>cases h
 rename_i es hes
 split at h
 case h_2=>cases h
 rename_i sp p g n off len sz
 split at h
 case isFalse=>cases h
 rename_i hc
 obtain ⟨hsz,hpos⟩:=hc
 subst hsz
 obtain ⟨yw,hyw,rfl⟩:=Option.map_eq_some_iff.1 h
 obtain ⟨vs,hc1,hvl,hl,hsrc⟩:=aC0 (P:=P) hW hes hu hpos
 cases hv with
 | row _ _ _ _ _ _ _ b c o cap hown hoff hncap hcm hroom =>
  have hlt : (es.take len).flatten.length = min es.length len * i.size:=by
   rw [aw2 i.size _ (fun x hx=>hl x (List.mem_of_mem_take hx)),List.length_take,Nat.min_comm]
  have hpre:=hsrc.pre (min es.length len) (Nat.min_le_left ..)
  have hrel : CRel G (es.take len).flatten (vs.take (min es.length len * i.size)):=by
   have e1 : (es.take len).flatten = es.flatten.take (min es.length len * i.size):=by
    have : es.flatten = (es.take len).flatten ++ (es.drop len).flatten:=by rw [← aF3,List.take_append_drop]
    rw [this,List.take_left' hlt]
   rw [e1]
   exact hc1.take _
  obtain ⟨G',w',m1,m2,m3⟩:=bk4 (P:=P) hW hyw hown hrel
  have hst : (storeCells ⟨b,o,none⟩ (vs.take (min es.length len * i.size))).run P w = .ok () w':=by
   rcases Nat.eq_zero_or_pos (min es.length len) with h0 | h0
   ·rw [h0] at m1 ⊢
    simp only [Nat.zero_mul,List.take_zero,storeCells,Sem.run_pure] at m1 ⊢
    exact m1
   ·rw [hoff (by omega)]
    exact m1
  refine ⟨G',w',goInt (min es.length len : Nat),.inl ?_,?_,m2,m3⟩
  ·have:=run_copy (ty:=ty) (tl:=tl) ht hi hsrc (dl:=len) (dc:=cap) hst
   simp [this]
  ·have : (AV.lit (.int .i64 (min es.length len : Nat))) = .lit (goInt (min es.length len : Nat)):=rfl
   rw [show ((min (es.length : Int) len) : Int) = ((min es.length len : Nat) : Int) by omega]
   exact .lit _
theorem made_rel (G : Gh) {zs : List Value} {sz l c : Nat} (hz : zs.length = sz) (hpos : 0 < sz) (hlc : l ≤ c) : CRel G (List.replicate l (zs.map AV.lit)).flatten ((madeCells zs.toArray (c * sz)).toList.take (l * sz)):=by
 have hfl:=aw2 sz (List.replicate l (zs.map AV.lit)) (fun e he=>by rw [List.eq_of_mem_replicate he,List.length_map,hz])
 rw [List.length_replicate] at hfl
 have hle : l * sz ≤ c * sz:=Nat.mul_le_mul_right _ hlc
 refine ⟨by rw [hfl,List.length_take,Array.length_toList,size_madeCells]; omega,fun k a v ha hv=>?_⟩
 have hk:=(List.getElem?_eq_some_iff.1 ha).1
 rw [hfl] at hk
 have hmod : k % sz < sz:=Nat.mod_lt _ hpos
 have hdiv : k / sz < l:=Nat.div_lt_of_lt_mul (by rw [Nat.mul_comm]; exact hk)
 have hb:=aN3 sz (List.replicate l (zs.map AV.lit)) (fun e he=>by rw [List.eq_of_mem_replicate he,List.length_map,hz]) (k / sz) (k % sz) (zs.map AV.lit) (by rw [List.getElem?_replicate,if_pos hdiv]) hmod
 rw [Nat.mul_comm,Nat.div_add_mod] at hb
 rw [hb,List.getElem?_map] at ha
 rw [List.getElem?_take,if_pos hk] at hv
 have hv' : v = zs.toArray[k % zs.toArray.size]!:=by
  simp only [madeCells,Array.toList_map,List.getElem?_map,Array.toList_range,List.getElem?_range (show k < c * sz by omega),Option.map_some,Option.some.injEq] at hv
  exact hv.symm
 rw [List.size_toArray,hz] at hv'
 rw [List.getElem?_eq_getElem (show k % sz < zs.length by omega)] at ha
 simp only [Option.map_some,Option.some.injEq] at ha
 rw [← ha,hv']
 have : zs.toArray[k % sz]! = zs[k % sz]'(by omega):=by
  rw [getElem!_pos zs.toArray (k % sz) (by simp; omega)]
  simp
 rw [this]
 exact .lit _
theorem bz0 [Cfg] (hW : WRel G S w B) {d : Option Tmp} {t : TypeId} {l c : AV} {lv cv : Value} {y : AR} (h : aI7 P S d t l c = some y) (hl : VRel G l lv) (hc : VRel G c cv) :
  ArOk P G S w B ((do pure (.value (← Instr.makeSlice t lv cv)) : Sem Next).run P w) y:=by
 unfold aI7 at h
 split at h
 case h_2=>cases h
 rename_i e d kl li kc ci ht
 split at h
 case h_2=>cases h
 rename_i i hi
 split at h
 case h_2=>cases h
 rename_i z hz
 split at h
 case isFalse=>cases h
 rename_i hcnd
 obtain ⟨hzs,hpos,h0,hlc,hc1,hcb⟩:=hcnd
 rw [hl.al0,hc.al0]
 have hbytes : (i.bytes : Int) * ci ≤ 281474976710656:=by rw [Int.mul_comm]; omega
 have hr:=run_make (P:=P) w t e i z ht hi hz kl kc li ci h0 hlc hbytes (by omega)
 have hr' : ((do pure (.value (← Instr.makeSlice t (.int kl li) (.int kc ci))) : Sem Next).run P w) = .ok (.value (.slice (some ⟨w.heap.size,0,none⟩) li.toNat ci.toNat)) (w.alloc (.cells (madeCells z.cells (ci.toNat * i.size)) e)):=by simp [hr]
 have hmax : ci.toNat ≤ maxLen:=by simp only [maxLen]; omega
 have harr : w.alloc (.cells (madeCells z.cells (ci.toNat * i.size)) e) = w.alloc (.cells (madeCells z.cells (ci.toNat * i.size)).toList.toArray e):=by rw [Array.toArray_toList]
 rw [harr] at hr'
 split at h
 ·rename_i hl0
  obtain ⟨hl0,_⟩:=hl0
  cases h
  obtain ⟨G',k1,k2,k3,k4⟩:=hW.cz3 (p:=S.here d) (g:=S.fresh (S.here d)) (n:=0) (sz:=i.size) (cap:=ci.toNat) (e:=e) [] (madeCells z.cells (ci.toNat * i.size)).toList (Nat.le_refl _) (hW.bt0 _ _) (fun t ht=>.inl (AS.bz4 ht))
   (by simp) (Nat.zero_le _) (by rw [List.nil_append,Array.length_toList,size_madeCells])
  rw [List.nil_append] at k3 k4
  refine ⟨G',_,_,.inl hr',?_,k3,k4⟩
  have:=VRel.of_flat (G:=G') (sp:=.own (S.here d) (S.fresh (S.here d))) (es:=[]) (sz:=i.size) (b:=w.heap.size) (off:=0) (cap:=ci.toNat) (vs:=[]) (Nat.zero_le _) hmax (by simp) (CRel.nil G') (fun j u hj=>by simp at hj) ⟨rfl,k1⟩
  rw [hl0]
  exact this
 ·cases h
  have hsz : (madeCells z.cells (ci.toNat * i.size)).toList.length = ci.toNat * i.size:=by rw [Array.length_toList,size_madeCells]
  have hlc' : li.toNat ≤ ci.toNat:=by omega
  have hmade:=made_rel G (zs:=z.cells.toList) (sz:=i.size) (l:=li.toNat) (c:=ci.toNat) (by simpa using hzs) hpos hlc'
  rw [Array.toArray_toList] at hmade
  obtain ⟨G',m1,m2,m3⟩:=bs6 hW d (cs:=(List.replicate li.toNat (z.cells.toList.map AV.lit)).flatten) (vs:=(madeCells z.cells (ci.toNat * i.size)).toList) (n:=li.toNat) (sz:=i.size) (cap:=ci.toNat) e hlc' hmax
   (by rw [hmade.1,List.length_take,hsz]; have:=Nat.mul_le_mul_right i.size hlc'; omega) hsz hmade
  exact ⟨G',_,_,.inl hr',m1,m2,m3⟩
theorem WRel.cn7 [Cfg] (hW : WRel G S w B) {b : Nat} {x : Obj} (hx : w.heap[b]? = some x) (hn : ∀ vs t fr,x ≠ .cells vs t fr) (o : Nat) : G.imm b o = none:=by
 cases hi : G.imm b o with
 | none=>rfl
 | some v =>
  have:=hW.imm b o v hi
  simp only [World.cell?,hx] at this
  cases x <;> simp at this
  exact absurd rfl (hn _ _ _)
theorem cc8 [Cfg] (hW : WRel G S w B) {t : TypeId} {d : Tmp} {s : ByteArray} (ht : P.underlying t = some .string) {v : Value} (hv : VRel G (.lit (.string s)) v) :
  ArOk P G S w B ((do pure (.value (← Instr.range t v)) : Sem Next).run P w) (.chg (.ptr (S.here d) (S.fresh (S.here d)) 0 0) (S.here d) (.iter (S.fresh (S.here d)) s 0)):=by
 rw [hv.al0]
 obtain ⟨G',k1,k2,k3⟩:=hW.bX5 (p:=S.here d) (Nat.le_refl _) (.iter (S.fresh (S.here d)) s 0) rfl (.stringIter s 0) 0 rfl fun G' hle himm=>heap_alloc_new w _
 exact ⟨G',_,_,.inl (by simp [run_range_string (P:=P) w t s ht]; rfl),.ptr _ _ _ 0 _ _ k1,k2,k3⟩
theorem ch1 [Cfg] (hW : WRel G S w B) {ty : TypeId} {it : AV} {v : Value} {y : AR} (h : anext S it = some y) (hv : VRel G it v) : ArOk P G S w B ((do pure (.value (← Instr.next v true ty)) : Sem Next).run P w) y:=by
 unfold anext at h
 split at h
 case h_2=>cases h
 rename_i p g
 split at h
 case h_2=>cases h
 rename_i g' s pos hs
 split at h
 case isFalse=>cases h
 rename_i hg
 subst hg
 cases hv with
 | ptr _ _ _ _ b c ho =>
  have hk : w.heap[b]? = some (.stringIter s pos):=hW.slot p (.iter g' s pos) hs rfl b c ho
  split at h
  ·rename_i hpos
   cases h
   obtain ⟨G',k1,k2,k3⟩:=hW.setSlot (s:=.iter g' s (pos + (Utf8.decode s pos).2)) (t:=.iter g' s pos) (w':=w.iterAt b s (pos + (Utf8.decode s pos).2)) hs rfl ho rfl (Nat.le_refl _) (hW.cn7 hk (by simp)) rfl
    (fun x hx=>Go.Lib.iterAt_other w b x s _ hx) (Go.Lib.iterAt_size ..) rfl rfl rfl fun G' hle himm=>Go.Lib.iterAt_heap w b s pos _ hk
   refine ⟨G',_,.tuple #[.bool true,.int .i64 pos,.int .i32 (Utf8.decode s pos).1],.inl (by simp [Go.Lib.run_next_any_at (P:=P) w b s pos ty hk hpos]),?_,k2,k3⟩
   exact .tup _ [.bool true,.int .i64 pos,.int .i32 (Utf8.decode s pos).1] rfl (CRel.cons (.lit _) (CRel.cons (.lit _) (CRel.cons (.lit _) (CRel.nil G')))).2
  ·rename_i hpos
   cases h
   refine am2 hW (by simp [Go.Lib.run_next_end_at (P:=P) w b s pos ty hk hpos]; rfl) ?_
   exact .tup _ [.bool false] rfl (CRel.cons (.lit _) (CRel.nil G)).2
theorem b62 : ∀ {es : List (List AV)} {vs : List Value} {bs : List UInt8},bytesOf es = some bs → CRel G es.flatten vs → ∃ ns : List Int,vs = ns.map (Value.int .u8) ∧ ∀ acc : ByteArray,ns.foldl (fun r n=>r.push (UInt8.ofNat n.toNat)) acc = acc ++ ⟨bs.toArray⟩
 | [],vs,bs,h,hc=>by
  simp only [bytesOf,Option.some.injEq] at h
  have : vs = []:=List.eq_nil_of_length_eq_zero (by simpa using hc.1.symm)
  subst this h
  exact ⟨[],rfl,fun acc=>by apply ByteArray.ext; simp⟩
 | e :: r,vs,bs,h,hc=>by
  unfold bytesOf at h
  split at h
  ·rename_i e; cases e
  ·rename_i n r' e
   cases e
   obtain ⟨bs',hb,rfl⟩:=Option.map_eq_some_iff.1 h
   cases vs with
   | nil=>have:=hc.1; simp at this
   | cons v vs =>
    rw [List.flatten_cons,List.singleton_append] at hc
    have h0:=hc.head.al0
    obtain ⟨ns,rfl,k⟩:=b62 hb hc.tail
    refine ⟨n :: ns,by rw [h0]; rfl,fun acc=>?_⟩
    rw [List.foldl_cons,k]
    apply ByteArray.ext
    simp [ByteArray.push]
  ·cases h
theorem b72 : ∀ {es : List (List AV)} {vs : List Value} {bs : List UInt8},runesOf es = some bs → CRel G es.flatten vs → ∃ ns : List Int,vs = ns.map (Value.int .i32) ∧ ∀ acc : ByteArray,ns.foldl (fun r n=>r ++ Utf8.encode n) acc = acc ++ (⟨bs.toArray⟩ : ByteArray)
 | [],vs,bs,h,hc=>by
  simp only [runesOf,Option.some.injEq] at h
  have : vs = []:=List.eq_nil_of_length_eq_zero (by simpa using hc.1.symm)
  subst this h
  exact ⟨[],rfl,fun acc=>by apply ByteArray.ext; simp⟩
 | e :: r,vs,bs,h,hc=>by
  unfold runesOf at h
  split at h
  ·rename_i e; cases e
  ·rename_i n r' e
   cases e
   obtain ⟨bs',hb,rfl⟩:=Option.map_eq_some_iff.1 h
   cases vs with
   | nil=>have:=hc.1; simp at this
   | cons v vs =>
    rw [List.flatten_cons,List.singleton_append] at hc
    have h0:=hc.head.al0
    obtain ⟨ns,rfl,k⟩:=b72 hb hc.tail
    refine ⟨n :: ns,by rw [h0]; rfl,fun acc=>?_⟩
    rw [List.foldl_cons,k]
    have e : (⟨((Utf8.encode n).data.toList ++ bs').toArray⟩ : ByteArray) = Utf8.encode n ++ ⟨bs'.toArray⟩:=by
     apply ByteArray.ext; simp
    rw [e]
    apply ByteArray.ext; simp [Array.append_assoc]
  ·cases h
theorem bH8 [Cfg] (hW : WRel G S w B) {src dst : TypeId} {x : AV} {v : Value} {y : AR} (h : aE5 P S src dst x = some y) (hv : VRel G x v) : ArOk P G S w B ((do pure (.value (← convert src dst v)) : Sem Next).run P w) y:=by
 unfold aE5 at h
 split at h
 case h_2=>cases h
 rename_i e hs hd
 split at h
 case h_3=>cases h
 case h_2 =>
  rename_i he
  have key : ∀ es,al2 S 1 x = some es → (∃ a n c,v = .slice (some a) n c) → ∀ bs,runesOf es = some bs → ArOk P G S w B ((do pure (.value (← convert src dst v)) : Sem Next).run P w) (.val (.lit (.string ⟨bs.toArray⟩))):=by
   intro es hes ⟨a,n,c,hv'⟩ bs hb
   obtain ⟨vs,hc1,hvl,hl,hsrc⟩:=aC0 (P:=P) hW hes hv (by decide)
   subst hv'
   have hn : n = es.length:=by
    have:=hsrc.len
    simpa [Builtin.lenOf] using this
   subst hn
   obtain ⟨ns,rfl,hf⟩:=b72 hb hc1
   have hcells:=hsrc.cells
   simp only [Builtin.firstCells,Nat.mul_one] at hcells
   have hr:=run_runesToString w a es.length c ns hcells
   unfold runesBytes at hr
   rw [hf] at hr
   refine am2 hW (u:=.string ⟨bs.toArray⟩) ?_ (.lit _)
   have he' : (ByteArray.empty ++ (⟨bs.toArray⟩ : ByteArray)) = ⟨bs.toArray⟩:=by
    apply ByteArray.ext; simp
   rw [he'] at hr
   simp [convert,run_underlying hs,run_underlying hd,run_underlying he,hr]
  split at h
  ·split at h
   ·rename_i es hes
    obtain ⟨bs,hb,rfl⟩:=Option.map_eq_some_iff.1 h
    refine key es hes ?_ bs hb
    cases hv
    exact ⟨_,_,_,rfl⟩
   ·cases h
  ·split at h
   ·rename_i es hes
    obtain ⟨bs,hb,rfl⟩:=Option.map_eq_some_iff.1 h
    refine key es hes ?_ bs hb
    cases hv
    exact ⟨_,_,_,rfl⟩
   ·cases h
  ·cases h
 rename_i he
 have key : ∀ es,al2 S 1 x = some es → (∃ a n c,v = .slice (some a) n c) → ∀ bs,bytesOf es = some bs → ArOk P G S w B ((do pure (.value (← convert src dst v)) : Sem Next).run P w) (.val (.lit (.string ⟨bs.toArray⟩))):=by
  intro es hes ⟨a,n,c,hv'⟩ bs hb
  obtain ⟨vs,hc1,hvl,hl,hsrc⟩:=aC0 (P:=P) hW hes hv (by decide)
  subst hv'
  have hn : n = es.length:=by
   have:=hsrc.len
   simpa [Builtin.lenOf] using this
  subst hn
  obtain ⟨ns,rfl,hf⟩:=b62 hb hc1
  have hcells:=hsrc.cells
  simp only [Builtin.firstCells,Nat.mul_one] at hcells
  have hr:=run_bytesToString w a es.length c ns hcells
  rw [hf] at hr
  refine am2 hW (u:=.string ⟨bs.toArray⟩) ?_ (.lit _)
  have he' : (ByteArray.empty ++ (⟨bs.toArray⟩ : ByteArray)) = ⟨bs.toArray⟩:=by
   apply ByteArray.ext; simp
  rw [he'] at hr
  simp [convert,run_underlying hs,run_underlying hd,run_underlying he,hr]
 split at h
 ·split at h
  ·rename_i es hes
   obtain ⟨bs,hb,rfl⟩:=Option.map_eq_some_iff.1 h
   refine key es hes ?_ bs hb
   cases hv
   exact ⟨_,_,_,rfl⟩
  ·cases h
 ·split at h
  ·rename_i es hes
   obtain ⟨bs,hb,rfl⟩:=Option.map_eq_some_iff.1 h
   refine key es hes ?_ bs hb
   cases hv
   exact ⟨_,_,_,rfl⟩
  ·cases h
 ·cases h
theorem bH4 [Cfg] (hW : WRel G S w B) {src dst : TypeId} {x : AV} {v : Value} {y : AR} (h : aE1 P S src dst x = some y) (hv : VRel G x v) : ArOk P G S w B ((do pure (.value (← convert src dst v)) : Sem Next).run P w) y:=by
 unfold aE1 at h
 split at h
 ·rename_i t p g off hs hd
  split at h
  ·rename_i g' t' cs i hp hi
   split at h
   ·rename_i hc
    obtain ⟨rfl,hoff,hsz⟩:=hc
    cases h
    cases hv with
    | ptr _ _ _ _ b c ho =>
     obtain ⟨_,vs,fr,hb,_,hcr⟩:=hW.slot p _ hp rfl b c ho
     have hsh : w.shape? b = some (t',vs.size):=by simp [World.shape?,hb]
     have hlt : ¬ vs.size ≤ off:=by have:=hcr.1; simp at this; omega
     refine am2 hW (u:=.pointer (some ⟨b,off,none⟩)) ?_ (.ptr _ _ _ _ _ _ ho)
     simp [convert,Conv.unsafePointer,run_underlying hs,run_underlying hd,Conv.seenAt,viewAt,hsh,cellsIn,sizeOf,typeInfo,hi,hsz,hlt]
   ·cases h
  ·cases h
 ·rename_i u p g off hs hd
  split at h
  ·rename_i g' t' cs i hp hi
   split at h
   ·rename_i hc
    obtain ⟨rfl,hlies⟩:=hc
    cases h
    cases hv with
    | ptr _ _ _ _ b c ho =>
     obtain ⟨_,vs,fr,hb,_,hcr⟩:=hW.slot p _ hp rfl b c ho
     have hsh : w.shape? b = some (t',vs.size):=by simp [World.shape?,hb]
     have hl : cs.length = vs.size:=by have:=hcr.1; simpa using this
     rw [hl] at hlies
     refine am2 hW (u:=.pointer (some ⟨b,off,none⟩)) ?_ (.ptr _ _ _ _ _ _ ho)
     simp [convert,Conv.unsafePointer,run_underlying hs,run_underlying hd,Conv.seenAt,viewAt,hsh,variablesAt,hlies,sizeOf,typeInfo,hi]
   ·cases h
  ·cases h
 ·cases h
end
open Go.RowKit
section
variable {P : Program} {G : Gh} {S : AS} {w : World} {B : Nat → Nat}
theorem bq9 {α β : Type} : ∀ {s : Sem α} {f : α → Sem β} {r : β},aa3 P (s >>= f) = some r → ∃ a,aa3 P s = some a ∧ aa3 P (f a) = some r:=by
 intro s
 induction s with
 | pure a=>exact fun h=>⟨a,rfl,h⟩
 | program k ih=>exact fun h=>ih P h
 | mark m k ih=>exact fun h=>ih h
 | _=>intro f r h; simp [bind,Sem.bind,aa3] at h
def bo3 (k : Value) : MapEntry:=⟨k,undef,0⟩
theorem bw8 (d : TypeDesc) (k : Value) : ∀ (ents : List MapEntry) (i : Nat),Instr.findNow d k (ents.map fun e=>bo3 e.key) i = (Instr.findNow d k ents i).map (Option.map fun p=>(p.1,undef))
 | [],_=>rfl
 | e :: r,i=>by
  simp only [List.map_cons,Instr.findNow,bo3]
  cases h : Instr.sameNow d k e.key with
  | none=>rfl
  | some b=>cases b with
   | true=>rfl
   | false=>exact bw8 d k r (i + 1)
theorem bQ9 (d : TypeDesc) (k : Value) : ∀ (ents : List MapEntry) (i j : Nat) (v : Value),Instr.findNow d k ents i = some (some (j,v)) → i ≤ j ∧ ∃ e,ents[j - i]? = some e ∧ e.val = v
 | [],_,_,_,h=>by simp [Instr.findNow] at h
 | e :: r,i,j,v,h=>by
  unfold Instr.findNow at h
  split at h
  ·cases h
   exact ⟨Nat.le_refl _,e,by simp,rfl⟩
  ·obtain ⟨h1,e',h2,h3⟩:=bQ9 d k r (i + 1) j v h
   refine ⟨by omega,e',?_,h3⟩
   rw [show j - i = (j - (i + 1)) + 1 by omega]
   simpa using h2
  ·cases h
theorem aQ5 (kt : TypeId) (k : Value) (w : World) : ∀ (ents : List MapEntry) (i : Nat) (r : Option (Nat × Value)),aa3 P (Instr.findAsking kt k (ents.map fun e=>bo3 e.key) i) = some r →
  ∃ r',(Instr.findAsking kt k ents i).run P w = .ok r' w ∧ r = r'.map (fun p=>(p.1,undef)) ∧ ∀ j v,r' = some (j,v) → i ≤ j ∧ ∃ e,ents[j - i]? = some e ∧ e.val = v
 | [],i,r,h=>by
  simp only [List.map_nil,Instr.findAsking] at h
  cases h
  exact ⟨none,rfl,rfl,fun j v h=>by cases h⟩
 | e :: t,i,r,h=>by
  simp only [List.map_cons,Instr.findAsking] at h
  obtain ⟨b,hb,h⟩:=bq9 h
  have hrun:=aH5 hb w
  have hrun' : (Op.equal kt k e.key).run P w = .ok b w:=hrun
  cases b with
  | true =>
   simp only [if_true] at h
   cases h
   refine ⟨some (i,e.val),by simp [Instr.findAsking,hrun'],rfl,fun j v hj=>?_⟩
   cases hj
   exact ⟨Nat.le_refl _,e,by simp,rfl⟩
  | false =>
   simp only [Bool.false_eq_true,if_false] at h
   obtain ⟨r',h1,h2,h3⟩:=aQ5 kt k w t (i + 1) r h
   refine ⟨r',by simp [Instr.findAsking,hrun',h1],h2,fun j v hj=>?_⟩
   obtain ⟨k1,e',k2,k3⟩:=h3 j v hj
   refine ⟨by omega,e',?_,k3⟩
   rw [show j - i = (j - (i + 1)) + 1 by omega]
   simpa using k2
theorem aF1 {kt : TypeId} {empty : Bool} {k : Value} {ks : List Value} {ri : Option Nat} {ents : List MapEntry} (h : bx8 P kt empty k ks = some ri) (hk : ks = ents.map (·.key)) (w : World) :
  (Instr.checkKey empty 10000 kt k).run P w = .ok () w ∧ ∃ r',(Instr.findKey kt k ents).run P w = .ok r' w ∧ ri = r'.map Prod.fst ∧ ∀ j v,r' = some (j,v) → ∃ e,ents[j]? = some e ∧ e.val = v:=by
 unfold bx8 at h
 split at h
 ·rename_i r hc hf
  cases h
  refine ⟨aH5 hc w,?_⟩
  have hmap : (ks.map fun x=>(⟨x,undef,0⟩ : MapEntry)) = ents.map fun e=>bo3 e.key:=by rw [hk,List.map_map]; rfl
  rw [hmap] at hf
  unfold Instr.findKey at hf
  obtain ⟨d,hd,hf⟩:=bq9 hf
  have hdr : (underlying kt).run P w = .ok d w:=aH5 hd w
  rw [bw8] at hf
  cases hn : Instr.findNow d k ents 0 with
  | some r0 =>
   simp only [hn,Option.map_some] at hf
   cases hf
   refine ⟨r0,by simp [Instr.findKey,hdr,hn],by cases r0 <;> rfl,fun j v hj=>?_⟩
   subst hj
   obtain ⟨_,e,h1,h2⟩:=bQ9 d k ents 0 j v hn
   exact ⟨e,by simpa using h1,h2⟩
  | none =>
   simp only [hn,Option.map_none] at hf
   obtain ⟨r',h1,h2,h3⟩:=aQ5 kt k w ents 0 r hf
   refine ⟨r',by simp [Instr.findKey,hdr,hn,h1],by rw [h2]; cases r' <;> rfl,fun j v hj=>?_⟩
   obtain ⟨_,e,k1,k2⟩:=h3 j v hj
   exact ⟨e,by simpa using k1,k2⟩
 ·cases h
theorem ERel.keys {G : Gh} : ∀ {xs : List ah8} {es : List MapEntry},ERel G xs es → xs.map (·.key) = es.map (·.key)
 | [],[],_=>rfl
 | a :: r,e :: t,h=>by simp [h.1,ERel.keys h.2.2.2]
 | [],_ :: _,h=>h.elim
 | _ :: _,[],h=>h.elim
theorem ERel.get {G : Gh} : ∀ {xs : List ah8} {es : List MapEntry} {i : Nat} {a : ah8},ERel G xs es → xs[i]? = some a → ∃ e,es[i]? = some e ∧ a.key = e.key ∧ a.born = e.born ∧ VRel G a.val e.val
 | [],[],_,_,_,h=>by simp at h
 | x :: r,e :: t,0,a,h,ha=>by
  simp at ha
  subst ha
  exact ⟨e,rfl,h.1,h.2.1,h.2.2.1⟩
 | x :: r,e :: t,i + 1,a,h,ha=>by
  obtain ⟨e',h1,h2⟩:=ERel.get h.2.2.2 (show r[i]? = some a by simpa using ha)
  exact ⟨e',by simpa using h1,h2⟩
 | [],_ :: _,_,_,h,_=>h.elim
 | _ :: _,[],_,_,h,_=>h.elim
theorem ERel.set {G : Gh} : ∀ {xs : List ah8} {es : List MapEntry} {i : Nat} {a : ah8} {e : MapEntry},ERel G xs es → a.key = e.key → a.born = e.born → VRel G a.val e.val → ERel G (xs.set i a) (es.set i e)
 | [],[],_,_,_,_,_,_,_=>trivial
 | x :: r,y :: t,0,a,e,h,h1,h2,h3=>⟨h1,h2,h3,h.2.2.2⟩
 | x :: r,y :: t,i + 1,a,e,h,h1,h2,h3=>⟨h.1,h.2.1,h.2.2.1,ERel.set h.2.2.2 h1 h2 h3⟩
 | [],_ :: _,_,_,_,h,_,_,_=>h.elim
 | _ :: _,[],_,_,_,h,_,_,_=>h.elim
theorem ERel.push {G : Gh} {a : ah8} {e : MapEntry} (h1 : a.key = e.key) (h2 : a.born = e.born) (h3 : VRel G a.val e.val) : ∀ {xs : List ah8} {es : List MapEntry},ERel G xs es → ERel G (xs ++ [a]) (es ++ [e])
 | [],[],_=>⟨h1,h2,h3,trivial⟩
 | x :: r,y :: t,h=>⟨h.1,h.2.1,h.2.2.1,ERel.push h1 h2 h3 h.2.2.2⟩
 | [],_ :: _,h=>h.elim
 | _ :: _,[],h=>h.elim
theorem ERel.lvs {G : Gh} {l : Nat} (hG : ∀ p g n x,G.own p g n = some x → p.l ≤ l) : ∀ {xs : List ah8} {es : List MapEntry},ERel G xs es → xs.all (fun e=>e.val.lv l) = true
 | [],[],_=>rfl
 | a :: r,e :: t,h=>by simp [h.2.2.1.lvs hG,ERel.lvs hG h.2.2.2]
 | [],_ :: _,h=>h.elim
 | _ :: _,[],h=>h.elim
theorem bt2 {ents : Array MapEntry} {i : Nat} {e : MapEntry} (h : ents[i]? = some e) (f : MapEntry → MapEntry) : ((ents.modify i f).toList) = ents.toList.set i (f e):=by
 obtain ⟨hi,he⟩:=Array.getElem?_eq_some_iff.1 h
 rw [Array.toList_modify]
 apply List.ext_getElem?
 intro j
 rw [List.getElem?_modify,List.getElem?_set]
 by_cases hj : i = j
 ·subst hj
  simp [hi,he]
 ·simp [hj]
theorem WRel.cz7 [Cfg] (hW : WRel G S w B) {p : Loc} {g b c : Nat} {es : List ah8} {ck : Nat} (hs : S.get p = some (.map g es ck)) (ho : G.own p g 0 = some (b,c)) : ∃ ents,w.heap[b]? = some (.map ents ck) ∧ ERel G es ents.toList :=
 hW.slot p (.map g es ck) hs rfl b c ho
theorem WRel.aR5 [Cfg] (hW : WRel G S w B) {p : Loc} {g b c : Nat} {es es' : List ah8} {ck ck' : Nat} {ents' : Array MapEntry} (hs : S.get p = some (.map g es ck)) (ho : G.own p g 0 = some (b,c)) (he : ERel G es' ents'.toList) :
  ∃ G',WRel G' (S.set p (.map g es' ck')) { w with heap:=w.heap.setIfInBounds b (.map ents' ck') } B ∧ Mod G S w G' (S.set p (.map g es' ck')) { w with heap:=w.heap.setIfInBounds b (.map ents' ck') }:=by
 obtain ⟨ents,hb,_⟩:=hW.cz7 hs ho
 have hlt : b < w.heap.size:=(Array.getElem?_eq_some_iff.1 hb).1
 obtain ⟨G',_,k2,k3⟩:=hW.setSlot (s:=.map g es' ck') (t:=.map g es ck) (w':={ w with heap:=w.heap.setIfInBounds b (.map ents' ck') }) hs rfl ho rfl (Nat.le_refl _) (hW.cn7 hb (by simp)) (he.lvs hW.bu3)
  (fun x hx=>by simp [Ne.symm hx]) (by simp) rfl rfl rfl fun G' hle himm=>⟨ents',by simp [hlt],he.mono hle⟩
 exact ⟨G',k2,k3⟩
theorem bN4 [Cfg] (hW : WRel G S w B) (t : TypeId) (d : Tmp) : ArOk P G S w B ((do pure (.value (← Instr.makeMap t none)) : Sem Next).run P w) (.chg (.mref (S.here d) (S.fresh (S.here d))) (S.here d) (.map (S.fresh (S.here d)) [] 0)):=by
 obtain ⟨G',k1,k2,k3⟩:=hW.bX5 (p:=S.here d) (Nat.le_refl _) (.map (S.fresh (S.here d)) [] 0) rfl (.map #[] 0) 0 rfl fun G' hle himm=>⟨#[],heap_alloc_new w _,trivial⟩
 exact ⟨G',_,_,.inl (by simp [run_makeMap]),.mref _ _ _ _ k1,k2,k3⟩
theorem bT3 [Cfg] (hW : WRel G S w B) {t : TypeId} {m k y : AV} {mv kv : Value} {ok : Bool} (h : aM5 P S t m k ok = some y) (hm : VRel G m mv) (hk : VRel G k kv) : ∃ z,(Instr.lookup t mv kv ok).run P w = .ok z w ∧ VRel G y z:=by
  unfold aM5 at h
  split at h
  case h_2=>cases h
  rename_i kt vt k' ht hkv
  have hkk:=hk.toV hkv
  subst hkk
  split at h
  case h_2=>cases h
  rename_i es hes
  have key : ∀ (ents : Array MapEntry), ERel G es ents.toList →
      ∃ z,VRel G y z ∧ (Instr.checkKey ents.isEmpty 10000 kt kv).run P w = .ok () w ∧
        ((∃ i v,(Instr.findKey kt kv ents.toList).run P w = .ok (some (i,v)) w ∧ z = if ok then .tuple #[v,.bool true] else v) ∨
         (∃ v,(Instr.findKey kt kv ents.toList).run P w = .ok none w ∧ (zeroValue vt).run P w = .ok v w ∧ z = if ok then .tuple #[v,.bool false] else v)):=by
    intro ents he
    split at h
    case h_2=>cases h
    rename_i r z hf hz
    have hemp : es.isEmpty = ents.isEmpty:=by
      have h1 : es.isEmpty = ents.toList.isEmpty:=by
        have:=he.length
        cases es <;> cases hx : ents.toList <;> simp_all
      rw [h1]
      cases ents
      simp
    rw [hemp] at hf
    obtain ⟨h1,r',h2,h3,h4⟩:=aF1 hf he.keys w
    have hzero:=aM7 (P:=P) hz w
    cases r' with
    | none =>
      subst h3
      simp only [Option.map_none] at h
      cases h
      refine ⟨if ok then .tuple #[z,.bool false] else z,?_,h1,.inr ⟨z,h2,hzero,rfl⟩⟩
      cases ok
      · exact a95 G z
      · exact .tup _ [z,.bool false] rfl (CRel.cons (a95 G z) (CRel.cons (.lit _) (CRel.nil G))).2
    | some jv =>
      obtain ⟨j,v⟩:=jv
      subst h3
      simp only [Option.map_some] at h
      obtain ⟨e,he',rfl⟩:=Option.map_eq_some_iff.1 h
      obtain ⟨e2,k1,k2,k3,k4⟩:=he.get he'
      obtain ⟨e3,m1,m2⟩:=h4 j v rfl
      rw [k1] at m1
      cases m1
      subst m2
      refine ⟨if ok then .tuple #[e2.val,.bool true] else e2.val,?_,h1,.inl ⟨j,_,h2,rfl⟩⟩
      cases ok
      · exact k4
      · exact .tup _ [e2.val,.bool true] rfl (CRel.cons k4 (CRel.cons (.lit _) (CRel.nil G))).2
  split at hes
  · cases hes
    rw [hm.al0]
    obtain ⟨z,h1,h2,h3⟩:=key #[] trivial
    refine ⟨z,?_,h1⟩
    rcases h3 with ⟨i,v,k1,rfl⟩ | ⟨v,k1,k2,rfl⟩
    · simp at h2 k1
      simp [Instr.lookup,run_underlying ht,h2,k1]
    · simp at h2 k1
      simp [Instr.lookup,run_underlying ht,h2,k1,k2]
  · rename_i p g
    cases hm with
    | mref _ _ b c ho =>
      split at hes
      · rename_i g' es' ck hs
        split at hes
        · rename_i hg
          subst hg
          cases hes
          obtain ⟨ents,hb,he⟩:=hW.cz7 hs ho
          obtain ⟨z,h1,h2,h3⟩:=key ents he
          refine ⟨z,?_,h1⟩
          rcases h3 with ⟨i,v,k1,rfl⟩ | ⟨v,k1,k2,rfl⟩
          · simp [Instr.lookup,run_underlying ht,bx2 hb,h2,k1]
          · simp [Instr.lookup,run_underlying ht,bx2 hb,h2,k1,k2]
        · cases hes
      · cases hes
  · cases hes
theorem b53 {old new : Value} (h : Instr.sameBits 10000 old new = true) (w : World) : (Instr.keyThatStays old new).run P w = .ok new w:=by
 unfold Instr.keyThatStays
 rw [if_pos h]
 rfl
theorem aN6 [Cfg] (hW : WRel G S w B) {t : TypeId} {m k x : AV} {mv kv xv : Value} {y : AR} (h : aJ8 P S t m k x = some y) (hm : VRel G m mv) (hk : VRel G k kv) (hx : VRel G x xv) {r : Result Next}
  (hr : ∀ w',(Instr.mapUpdate t mv kv xv).run P w = .ok () w' → r = .ok .skip w') : ArOk P G S w B r y:=by
 unfold aJ8 at h
 split at h
 case h_2=>cases h
 rename_i kt vt p g k' ht hkv
 have hkk:=hk.toV hkv
 subst hkk
 cases hm with
 | mref _ _ b c ho =>
  split at h
  case h_2=>cases h
  rename_i g' es ck hs
  split at h
  case isFalse=>cases h
  rename_i hg
  subst hg
  obtain ⟨ents,hb,he⟩:=hW.cz7 hs ho
  split at h
  ·rename_i i hf
   obtain ⟨h1,r',h2,h3,h4⟩:=aF1 hf he.keys w
   cases r' with
   | none=>cases h3
   | some jv =>
    obtain ⟨j,v⟩:=jv
    obtain rfl : i = j:=by simpa using h3
    split at h
    ·rename_i e hei
     split at h
     ·rename_i hsame
      cases h
      obtain ⟨e2,k1,k2,k3,k4⟩:=he.get hei
      have k1' : ents[i]? = some e2:=by simpa using k1
      have he' : ERel G (es.set i ⟨kv,x,e.born⟩) (ents.modify i fun e=>{ e with key:=kv,val:=xv }).toList:=by
       rw [bt2 k1']
       exact he.set rfl k3 hx
      obtain ⟨G',m1,m2⟩:=hW.aR5 (ck':=ck) hs ho he'
      refine ⟨G',_,undef,.inr ⟨hr _ ?_,rfl⟩,.lit _,m1,m2⟩
      rw [k2] at hsame
      simp [Instr.mapUpdate,run_underlying ht,bx2 hb,h1,h2,k1',b53 hsame,aR5 hb]
     ·cases h
    ·cases h
  ·rename_i hf
   obtain ⟨h1,r',h2,h3,h4⟩:=aF1 hf he.keys w
   cases r' with
   | some jv=>cases h3
   | none =>
    cases h
    have he' : ERel G (es ++ [⟨kv,x,ck⟩]) (ents.push { key:=kv,val:=xv,born:=ck }).toList:=by
     rw [Array.toList_push]
     exact ERel.push rfl rfl hx he
    obtain ⟨G',m1,m2⟩:=hW.aR5 (ck':=ck + 1) hs ho he'
    refine ⟨G',_,undef,.inr ⟨hr _ ?_,rfl⟩,.lit _,m1,m2⟩
    simp [Instr.mapUpdate,run_underlying ht,bx2 hb,h1,h2,aR5 hb]
  ·cases h
theorem bA6 [Cfg] (hW : WRel G S w B) {t : TypeId} {m k : AV} {mv kv : Value} {y : AR} (h : ay9 P S t m k = some y) (hm : VRel G m mv) (hk : VRel G k kv) {r : Result Next}
  (hr : ∀ z w',(Instr.mapEntry t mv kv).run P w = .ok z w' → r = .ok (.value z) w') : ArOk P G S w B r y:=by
 unfold ay9 at h
 split at h
 case h_2=>cases h
 rename_i kt vt p g k' ht hkv
 have hkk:=hk.toV hkv
 subst hkk
 cases hm with
 | mref _ _ b c ho =>
  split at h
  case h_2=>cases h
  rename_i g' es ck z hs hz
  split at h
  case isFalse=>cases h
  rename_i hg
  subst hg
  obtain ⟨ents,hb,he⟩:=hW.cz7 hs ho
  split at h
  ·rename_i i hf
   obtain ⟨h1,r',h2,h3,h4⟩:=aF1 hf he.keys w
   cases r' with
   | none=>cases h3
   | some jv =>
    obtain ⟨j,v⟩:=jv
    obtain rfl : i = j:=by simpa using h3
    split at h
    ·rename_i e hei
     split at h
     ·rename_i hsame
      split at h
      case isFalse=>cases h
      cases h
      obtain ⟨e2,k1,k2,k3,k4⟩:=he.get hei
      obtain ⟨e3,q1,q2⟩:=h4 i v rfl
      rw [k1] at q1
      cases q1
      subst q2
      have k1' : ents[i]? = some e2:=by simpa using k1
      have he' : ERel G (es.set i ⟨kv,e.val,e.born⟩) (ents.modify i fun e=>{ e with key:=kv }).toList:=by
       rw [bt2 k1']
       exact he.set rfl k3 k4
      obtain ⟨G',m1,m2⟩:=hW.aR5 (ck':=ck) hs ho he'
      refine ⟨G',_,.tuple #[e2.val,goInt e2.born],.inl (hr _ _ ?_),?_,m1,m2⟩
      ·rw [k2] at hsame
       simp [Instr.mapEntry,run_underlying ht,bx2 hb,h1,h2,k1',b53 hsame,aR5 hb]
      ·rw [k3]
       exact .tup _ [e2.val,goInt e2.born] rfl (CRel.cons (k4.mono m2.le) (CRel.cons (.lit _) (CRel.nil G'))).2
     ·cases h
    ·cases h
  ·rename_i hf
   obtain ⟨h1,r',h2,h3,h4⟩:=aF1 hf he.keys w
   cases r' with
   | some jv=>cases h3
   | none =>
    split at h
    case isFalse=>cases h
    cases h
    have he' : ERel G (es ++ [⟨kv,AV.ofV1 z,ck⟩]) (ents.push { key:=kv,val:=z,born:=ck }).toList:=by
     rw [Array.toList_push]
     exact ERel.push rfl rfl (a95 G z) he
    obtain ⟨G',m1,m2⟩:=hW.aR5 (ck':=ck + 1) hs ho he'
    refine ⟨G',_,.tuple #[z,goInt ck],.inl (hr _ _ ?_),?_,m1,m2⟩
    ·simp [Instr.mapEntry,run_underlying ht,bx2 hb,h1,h2,aR5 hb,aM7 hz]
    ·exact .tup _ [z,goInt ck] rfl (CRel.cons (a95 G' z) (CRel.cons (.lit _) (CRel.nil G'))).2
  ·cases h
theorem ERel.co9 {G : Gh} (b : Int) : ∀ {xs : List ah8} {es : List MapEntry},ERel G xs es → xs.findIdx? (fun e=>(e.born : Int) == b) = es.findIdx? (fun e=>(e.born : Int) == b)
 | [],[],_=>rfl
 | a :: r,e :: t,h=>by
  rw [List.findIdx?_cons,List.findIdx?_cons,h.2.1,ERel.co9 b h.2.2.2]
 | [],_ :: _,h=>h.elim
 | _ :: _,[],h=>h.elim
theorem bt5 [Cfg] (hW : WRel G S w B) {t : TypeId} {m st x : AV} {mv sv xv : Value} {y : AR} (h : aM9 S m st x = some y) (hm : VRel G m mv) (hst : VRel G st sv) (hx : VRel G x xv) {r : Result Next}
  (hr : ∀ w',(Instr.entryStore t mv sv xv).run P w = .ok () w' → r = .ok .skip w') : ArOk P G S w B r y:=by
 unfold aM9 at h
 split at h
 case h_2=>cases h
 rename_i p g kk bb
 rw [hst.al0] at hr
 cases hm with
 | mref _ _ b c ho =>
  split at h
  case h_2=>cases h
  rename_i g' es ck hs
  split at h
  case isFalse=>cases h
  rename_i hg
  subst hg
  obtain ⟨ents,hb,he⟩:=hW.cz7 hs ho
  split at h
  ·rename_i i hi
   split at h
   ·rename_i e hei
    cases h
    obtain ⟨e2,k1,k2,k3,k4⟩:=he.get hei
    have k1' : ents[i]? = some e2:=by simpa using k1
    have he' : ERel G (es.set i ⟨e.key,x,e.born⟩) (ents.modify i fun e=>{ e with val:=xv }).toList:=by
     rw [bt2 k1']
     exact he.set k2 k3 hx
    obtain ⟨G',m1,m2⟩:=hW.aR5 (ck':=ck) hs ho he'
    refine ⟨G',_,undef,.inr ⟨hr _ ?_,rfl⟩,.lit _,m1,m2⟩
    rw [he.co9] at hi
    have hi' : ents.findIdx? (fun e=>(e.born : Int) == bb) = some i:=by
     rw [← hi]
     cases ents
     simp
    simp [Instr.entryStore,bx2 hb,asInt,asIntOf,hi',aR5 hb]
   ·cases h
  ·cases h
end
open Go.RowKit
structure bp6 [Cfg] (P : Program) : Prop where
 same : ∀ f,Cfg.same f = true → ∀ v w,(callFunc f #[v]).run P w = .ok (.value v) w
section
variable {P : Program} {G : Gh} {S : AS} {w : World} {B : Nat → Nat}
theorem br2 [Cfg] (hW : WRel G S w B) {s : Sem Value} {y : AV} (h : ∃ z,s.run P w = .ok z w ∧ VRel G y z) : OpOk G S w B ((do pure (.value (← s)) : Sem Next).run P w) y S:=by
 obtain ⟨z,h1,h2⟩:=h
 exact am2 hW (by simp [h1]) h2
theorem aA5 {r : Option AV} {x : AR} (h : r.map AR.val = some x) : ∃ y,r = some y ∧ x = .val y:=by
 obtain ⟨y,h1,h2⟩:=Option.map_eq_some_iff.1 h
 exact ⟨y,h1,h2.symm⟩
theorem CRel.b37 {T : TM} {a : Act} (hT : TRel G S T a) (l : List Operand) : CRel G (l.map (aev T)) (l.map a.eval):=by
 refine ⟨by simp,fun i x y hx hy=>?_⟩
 rw [List.getElem?_map] at hx hy
 cases hl : l[i]? with
 | none=>simp [hl] at hx
 | some o =>
  simp [hl] at hx hy
  rw [← hx,← hy]
  exact hT.eval o
theorem bU1 {α β : Type} (l : Array α) (f : α → β) : (l.toList.map f).toArray = l.map f:=by apply Array.ext'; simp
theorem cd0 [Cfg] (hW : WRel G S w B) {d : Tmp} {cs : List AV} {vs : List Value} {e : TypeId} (hc : CRel G cs vs) {r : Result Next} (hr : r = .ok (.value (.pointer (some ⟨w.heap.size,0,none⟩))) (w.alloc (.cells vs.toArray e))) :
  OpOk G S w B r (.ptr (S.here d) (S.fresh (S.here d)) 0 0) (S.set (S.here d) (.obj (S.fresh (S.here d)) e cs)):=by
 obtain ⟨G',h1,h2,h3⟩:=hW.bX5 (p:=S.here d) (Nat.le_refl _) (.obj (S.fresh (S.here d)) e cs) rfl (.cells vs.toArray e) 0 (hc.lvs hW.bu3) fun G' hle himm=>⟨himm,vs.toArray,(0,0),heap_alloc_new w _,(fun o _ _ h=>by simp at h),hc.mono hle⟩
 exact ⟨G',_,_,.inl hr,.ptr _ _ 0 0 _ _ h1,h2,h3⟩
theorem bv6 {T : TM} {a : Act} (hT : TRel G S T a) {f : Operand} {g : FuncId} {cs : List AV} (h : aC8 (aev T f) = some (g,cs)) (args : Array Operand) :
  ∃ cap vs,(Deferred.ofValue (a.eval f) (args.map a.eval)) = pure { target:=.fn (.func g) cap,args:=args.map a.eval } ∧ vs = args.toList.map a.eval ++ cap.toList ∧ CRel G (args.toList.map (aev T) ++ cs) vs ∧ (args.map a.eval ++ cap) = vs.toArray:=by
 have hfv:=hT.eval f
 unfold aC8 at h
 split at h
 ·rename_i g' first cap hg
  split at h
  ·rename_i hz
   cases h
   rw [hg] at hfv
   have hb:=hfv.al0
   have e1 : first = #[]:=Array.eq_empty_of_size_eq_zero hz.1
   have e2 : cap = #[]:=Array.eq_empty_of_size_eq_zero hz.2
   subst e1 e2
   refine ⟨#[],args.toList.map a.eval,by simp [hb,Deferred.ofValue],by simp,by simpa using CRel.b37 hT args.toList,?_⟩
   rw [bU1]; simp
  ·cases h
 ·rename_i g' xs hg
  cases h
  rw [hg] at hfv
  generalize hv : a.eval f = fv at hfv
  cases hfv with
  | fn _ _ vs hl hr =>
   refine ⟨vs.toArray,args.toList.map a.eval ++ vs,by simp [Deferred.ofValue],by simp,(CRel.b37 hT args.toList).append ⟨hl,hr⟩,?_⟩
   rw [← List.append_toArray,bU1]
 ·cases h
set_option maxHeartbeats 1000000 in
theorem cE3 [Cfg] (hC : bp6 P) (hW : WRel G S w B) {T : TM} {a : Act} (hT : TRel G S T a) {o : Oper} {x : AR} (h : aop P S (aev T) o = some x) : ArOk P G S w B ((execOp a.eval o).run P w) x:=by
 unfold aop at h
 split at h
 case h_1 x' ho=>cases h; exact am2 hW (by simp only [execOp,ho]; rfl) (hT.eval x')
 case h_2 x' ho=>cases h; exact am2 hW (by simp only [execOp,ho]; rfl) (hT.eval x')
 case h_3 c x1 x2 ho =>
  split at h
  ·rename_i t hc
   cases h
   have:=hT.eval c
   rw [hc] at this
   have hb:=this.al0
   cases t
   ·exact am2 hW (by simp only [execOp,ho,hb,asBool]; rfl) (hT.eval x2)
   ·exact am2 hW (by simp only [execOp,ho,hb,asBool]; rfl) (hT.eval x1)
  ·cases h
 case h_4 elem ho =>
  split at h
  ·rename_i d z hd hz
   cases h
   refine cd0 hW (CRel.lits G z.cells.toList) (e:=elem) ?_
   simp [execOp,ho,Instr.alloc,aM7 hz,newVar,newRow]
  ·cases h
 case h_5 elem x' ho =>
  split at h
  ·rename_i d hd
   cases h
   refine cd0 hW (hT.eval x').cells (e:=elem) ?_
   simp [execOp,ho,Instr.box,newVar,newRow]
  ·cases h
 case h_6 t parts ho =>
  obtain ⟨y,hy,rfl⟩:=aA5 h
  have hp:=cc6 hT parts.toList
  have:=b77 hy hp.1 hp.2 w
  rw [bU1] at this
  simp only [execOp,ho]
  exact br2 hW this
 case h_7 t len parts ho =>
  have hp:=cc6 hT parts.toList
  have e : (parts.toList.map fun (i,x)=>(i,a.eval x)).toArray = parts.map fun (i,x)=>(i,a.eval x):=by
   apply Array.ext'; simp
  refine bs0 hW h hp.1 hp.2 fun u w' hu=>?_
  rw [e] at hu
  simp [execOp,ho,hu]
 case h_8 t x' ho =>
  obtain ⟨y,hy,rfl⟩:=aA5 h
  simp only [execOp,ho]
  exact br2 hW (bF9 hW hy (hT.eval x'))
 case h_9 t x' v ho =>
  obtain ⟨y,hy,rfl⟩:=Option.map_eq_some_iff.1 h
  obtain ⟨G',w',h1,h2,h3⟩:=b69 (P:=P) hW hy (hT.eval x') (hT.eval v)
  exact ⟨G',w',undef,.inr ⟨by simp [execOp,ho,h1],rfl⟩,.lit _,h2,h3⟩
 case h_10 x' ho =>
  refine ar8 hW hT h fun y hy=>?_
  obtain ⟨z,hz,rfl⟩:=aA5 hy
  exact ct8 hW hT ho hz
 case h_11 op t x1 x2 yt ho =>
  refine ar8 hW hT h fun y hy=>?_
  obtain ⟨z,hz,rfl⟩:=aA5 hy
  simp only [execOp,ho]
  exact br2 hW (cs4 hz (hT.eval x1) (hT.eval x2) x1 x2 w)
 case h_12 t x' ho =>
  split at h
  ·rename_i d hd
   split at h
   ·cases h
   ·rename_i hi
    cases h
    simp only [execOp,ho]
    refine br2 hW ⟨.iface t (a.eval x'),?_,.iface t _ _ (hT.eval x').ac1⟩
    cases d <;> first | (simp [aE6] at hi; done) | simp [Instr.makeInterface,run_underlying hd]
  ·cases h
 case h_13 fn first cap ho =>
  split at h
  ·rename_i f
   split at h
   ·rename_i hf
    cases h
    simp only [execOp,ho]
    have hc:=CRel.b37 hT cap.toList
    refine br2 hW ⟨.func (.func f) #[] (cap.toList.map a.eval).toArray,?_,.fn f _ _ hc.1 hc.2⟩
    have e1 : first = #[]:=Array.eq_empty_of_size_eq_zero hf
    subst e1
    rw [bU1]
    simp [Instr.makeFunc]
   ·cases h
  ·cases h
 case h_14 t r ho =>
  split at h
  ·rename_i d hd
   cases h
   have:=bN4 (P:=P) hW t d
   simpa [execOp,ho] using this
  ·cases h
 case h_15 t l c ho =>
  simp only [execOp,ho]
  exact bz0 hW h (hT.eval l) (hT.eval c)
 case h_16 t x' lo hi mx ho =>
  refine ar8 hW hT h fun y hy=>?_
  obtain ⟨z,hz,rfl⟩:=aA5 hy
  simp only [execOp,ho]
  refine br2 hW (cd5 hz (hT.eval x') ?_ ?_ ?_ ?_ ?_ ?_ w)
  ·intro y hy; obtain ⟨q,rfl,rfl⟩:=Option.map_eq_some_iff.1 hy; exact ⟨_,rfl,hT.eval q⟩
  ·intro e; rw [Option.map_eq_none_iff] at e; rw [e]; rfl
  ·intro y hy; obtain ⟨q,rfl,rfl⟩:=Option.map_eq_some_iff.1 hy; exact ⟨_,rfl,hT.eval q⟩
  ·intro e; rw [Option.map_eq_none_iff] at e; rw [e]; rfl
  ·intro y hy; obtain ⟨q,rfl,rfl⟩:=Option.map_eq_some_iff.1 hy; exact ⟨_,rfl,hT.eval q⟩
  ·intro e; rw [Option.map_eq_none_iff] at e; rw [e]; rfl
 case h_17 s x' f ho =>
  obtain ⟨y,hy,rfl⟩:=aA5 h
  simp only [execOp,ho]
  exact br2 hW (bz1 hy (hT.eval x') w)
 case h_18 s x' f ho =>
  obtain ⟨y,hy,rfl⟩:=aA5 h
  simp only [execOp,ho]
  exact br2 hW (b47 hy (hT.eval x') w)
 case h_19 t x' i ho =>
  obtain ⟨y,hy,rfl⟩:=aA5 h
  simp only [execOp,ho]
  exact br2 hW (by4 hy (hT.eval x') (hT.eval i) w)
 case h_20 t x' i ho =>
  refine ar8 hW hT h fun y hy=>?_
  obtain ⟨z,hz,rfl⟩:=aA5 hy
  simp only [execOp,ho]
  exact br2 hW (cc3 hz (hT.eval x') (hT.eval i) w)
 case h_21 t m k ok ho =>
  obtain ⟨y,hy,rfl⟩:=aA5 h
  simp only [execOp,ho]
  exact br2 hW (bT3 hW hy (hT.eval m) (hT.eval k))
 case h_22 t m k x' ho=>exact aN6 (P:=P) hW h (hT.eval m) (hT.eval k) (hT.eval x').as6 fun w' hw=>by simp [execOp,ho,hw]
 case h_23 t m k x' ho=>exact aN6 (P:=P) hW h (hT.eval m) (hT.eval k) (hT.eval x').as6 fun w' hw=>by simp [execOp,ho,hw]
 case h_24 t m k ho=>exact bA6 (P:=P) hW h (hT.eval m) (hT.eval k) fun z w' hw=>by simp [execOp,ho,hw]
 case h_25 t m st x' ho=>exact bt5 (P:=P) (t:=t) hW h (hT.eval m) (hT.eval st) (hT.eval x').as6 fun w' hw=>by simp [execOp,ho,hw]
 case h_26 t x' ho =>
  split at h
  ·rename_i s d ht hx hd
   cases h
   have hv:=hT.eval x'
   rw [hx] at hv
   have:=cc8 (P:=P) (d:=d) hW ht hv
   simpa only [execOp,ho] using this
  ·cases h
 case h_27 it isS ho =>
  split at h
  ·rename_i hs
   subst hs
   have:=ch1 (P:=P) (ty:=o.type) hW h (hT.eval it)
   simpa only [execOp,ho] using this
  ·cases h
 case h_28 x' xt asserted ok ho =>
  refine ar8 hW hT h fun y hy=>?_
  obtain ⟨z,hz,rfl⟩:=aA5 hy
  simp only [execOp,ho]
  exact br2 hW (bV2 hz (hT.eval x') w)
 case h_29 t i ho =>
  split at h
  ·rename_i cs hcs
   obtain ⟨y,hy,rfl⟩:=aA5 h
   have:=hT.eval t
   rw [hcs] at this
   obtain ⟨vs,hv,hc⟩:=this.bR6
   obtain ⟨u,hu,hr⟩:=hc.get hy
   simp only [execOp,ho]
   refine br2 hW ⟨u,?_,hr⟩
   simp [Instr.extract,hv,hu]
  ·cases h
 case h_30 src dst x' ho =>
  refine ar8 hW hT h fun y hy=>?_
  have : ArOk P G S w B ((do pure (.value (← convert src dst (a.eval x'))) : Sem Next).run P w) y:=by
   cases hcv : aE5 P S src dst (aev T x') with
   | some z=>rw [hcv] at hy; cases hy; exact bH8 (P:=P) hW hcv (hT.eval x')
   | none=>rw [hcv] at hy; exact bH4 (P:=P) hW hy (hT.eval x')
  simpa only [execOp,ho] using this
 case h_31=>exact aB8 hW hT h
 case h_32 x' ho =>
  split at h
  ·rename_i t b hb
   cases h
   have hv:=hT.eval x'
   rw [hb] at hv
   refine ⟨a.eval x',hv,?_⟩
   generalize he : a.eval x' = u at hv
   cases hv with
   | iface _ _ u' hu=>simp [execOp,ho,he,Instr.panic,goPanic]
  ·cases h
 case h_33 c ho =>
  split at h
  ·rename_i f hcal
   split at h
   ·rename_i g cs hg
    cases h
    obtain ⟨cap,vs,h1,h2,h3,h4⟩:=bv6 hT hg c.args
    refine ⟨{ target:=.fn (.func g) cap,args:=c.args.map a.eval },?_,cap,rfl,?_⟩
    ·simp [execOp,ho,resolve,hcal,h1]
    ·rw [h4]; exact h3
   ·cases h
  ·cases h
 case h_34 c ho =>
  split at h
  ·rename_i hcal
   unfold br6 at h
   split at h
   ·rename_i s x' t u hargs htys
    obtain ⟨s',l1,e0,hs',hl1⟩:=List.map_eq_cons_iff.1 hargs
    obtain ⟨x'',l2,e0',hx',hl2⟩:=List.map_eq_cons_iff.1 hl1
    have hl3 : l2 = []:=List.map_eq_nil_iff.1 hl2
    subst hl3
    subst e0'
    subst hs'
    subst hx'
    have e1 : c.args = #[s',x'']:=by apply Array.ext'; simpa using e0
    have e2 : c.argTypes = #[t,u]:=by apply Array.ext'; simpa using htys
    split at h
    ·rename_i hu
     have:=bq6 (P:=P) (ty:=o.type) hW hu rfl h (hT.eval s') (hT.eval x'')
     simpa [execOp,ho,resolve,hcal,e1,e2,invoke,builtin] using this
    ·rename_i hu
     have:=bq6 (P:=P) (ty:=o.type) hW hu rfl h (hT.eval s') (hT.eval x'')
     simpa [execOp,ho,resolve,hcal,e1,e2,invoke,builtin] using this
    ·cases h
   ·cases h
  ·rename_i hcal
   refine ar8 hW hT h fun y hy=>?_
   unfold b26 at hy
   split at hy
   ·rename_i x' t hargs htys
    obtain ⟨z,hz,rfl⟩:=aA5 hy
    obtain ⟨s',l1,e0,hs',hl1⟩:=List.map_eq_cons_iff.1 hargs
    have hl3 : l1 = []:=List.map_eq_nil_iff.1 hl1
    subst hl3
    subst hs'
    have e1 : c.args = #[s']:=by apply Array.ext'; simpa using e0
    have e2 : c.argTypes = #[t]:=by apply Array.ext'; simpa using htys
    have:=br2 hW (cu0 (P:=P) (ty:=o.type) hW hz (hT.eval s'))
    show OpOk G S w B _ z S
    simpa [execOp,ho,resolve,hcal,e1,e2,invoke,builtin] using this
   ·cases hy
  ·rename_i hcal
   have hh:=h
   unfold cq0 at h
   split at h
   ·rename_i s x' t tl hargs htys
    obtain ⟨s',l1,e0,hs',hl1⟩:=List.map_eq_cons_iff.1 hargs
    obtain ⟨x'',l2,e0',hx',hl2⟩:=List.map_eq_cons_iff.1 hl1
    have hl3 : l2 = []:=List.map_eq_nil_iff.1 hl2
    subst hl3
    subst e0'
    subst hs'
    subst hx'
    have e1 : c.args = #[s',x'']:=by apply Array.ext'; simpa using e0
    rw [hargs,htys] at hh
    have:=ci2 (P:=P) (ty:=o.type) hW hh (hT.eval s') (hT.eval x'')
    have e2 : c.argTypes = (t :: tl).toArray:=by apply Array.ext'; simpa using htys
    simpa [execOp,ho,resolve,hcal,e1,e2,invoke,builtin] using this
   ·cases h
  ·exact aB8 hW hT h
  ·exact aB8 hW hT h
  ·rename_i f hcal
   split at h
   ·rename_i g cs hg
    obtain ⟨cap,vs,h1,h2,h3,h4⟩:=bv6 hT hg c.args
    have hrun : (execOp a.eval o).run P w = (callFunc g vs.toArray).run P w:=by simp [execOp,ho,resolve,hcal,h1,invoke,h4]
    split at h
    ·rename_i fn hfn
     split at h
     ·split at h
      ·rename_i hsame
       split at h
       ·rename_i b hb
        cases h
        rw [hb] at h3
        obtain ⟨v,rfl⟩ : ∃ v,vs = [v]:=by
         have:=h3.1
         match vs,this with
         | [v],_=>exact ⟨v,rfl⟩
        rw [hrun,show ([v] : List Value).toArray = #[v] from rfl,hC.same g hsame v w]
        exact am2 hW rfl h3.head
       ·cases h
      ·exact aB8 hW hT h
     ·cases h
      exact ⟨vs,h3,hrun⟩
    ·cases h
   ·cases h
  ·cases h
 case h_35=>cases h
end
open Go.RowKit
mutual
theorem AV.bB6 {l m : Nat} (h : l ≤ m) : ∀ {a : AV},a.lv l = true → a.lv m = true
 | .lit _,_=>rfl
 | .agg cs,k=>AV.aH1 h (xs:=cs) k
 | .tup cs,k=>AV.aH1 h (xs:=cs) k
 | .ptr p _ _ _,k=>by simp only [AV.lv,decide_eq_true_eq] at k ⊢; omega
 | .cref cs,k=>AV.aH1 h (xs:=cs) k
 | .list sp _ es,k=>by
  simp only [AV.lv,Bool.and_eq_true] at k ⊢
  refine ⟨?_,AV.b46 h k.2⟩
  cases sp with
  | own p g=>simp only [ap1.lv,decide_eq_true_eq] at k ⊢; omega
  | _=>rfl
 | .row _ p _ _ _ _ _,k=>by simp only [AV.lv,decide_eq_true_eq] at k ⊢; omega
 | .mref p _,k=>by simp only [AV.lv,decide_eq_true_eq] at k ⊢; omega
 | .iface _ a,k=>AV.bB6 h (a:=a) k
 | .fn _ cs,k=>AV.aH1 h (xs:=cs) k
theorem AV.aH1 {l m : Nat} (h : l ≤ m) : ∀ {xs : List AV},AV.lvL l xs = true → AV.lvL m xs = true
 | [],_=>rfl
 | a :: r,k=>by
  simp only [AV.lvL,Bool.and_eq_true] at k ⊢
  exact ⟨AV.bB6 h k.1,AV.aH1 h k.2⟩
theorem AV.b46 {l m : Nat} (h : l ≤ m) : ∀ {es : List (List AV)},AV.lvLL l es = true → AV.lvLL m es = true
 | [],_=>rfl
 | a :: r,k=>by
  simp only [AV.lvLL,Bool.and_eq_true] at k ⊢
  exact ⟨AV.aH1 h k.1,AV.b46 h k.2⟩
end
theorem ab3.bB6 {l m : Nat} (h : l ≤ m) : ∀ {s : ab3},s.lv l = true → s.lv m = true
 | .obj _ _ _,k=>AV.aH1 h k
 | .row _ _ _ _ _,k=>AV.aH1 h k
 | .map _ es _,k=>by
  simp only [ab3.lv,List.all_eq_true] at k ⊢
  exact fun e he=>AV.bB6 h (k e he)
 | .tok _ _ _ _,_=>rfl
 | .iter _ _ _,_=>rfl
 | .dead _ _,_=>rfl
section
variable {P : Program} {G : Gh} {S : AS} {w : World} {B : Nat → Nat}
def under (S : AS) (w : World) (B : Nat → Nat) : Nat → Nat:=fun l=>if l = S.lvl + 1 then w.heap.size else B l
theorem WRel.push [Cfg] (h : WRel G S w B) (f : FuncId) : WRel G (S.enter f) w (under S w B):=by
 refine ⟨h.imm,h.slot,fun p s hp=>ab3.bB6 (Nat.le_succ _) (h.lvs p s hp),h.apart,fun p g n x ho=>?_,fun p g n b c ho=>?_,fun l m hl hm=>?_,fun l hl=>?_,?_⟩
 ·obtain ⟨h1,h2⟩:=h.dom p g n x ho
  exact ⟨Nat.le_succ_of_le h1,h2⟩
 ·obtain ⟨h1,h2⟩:=h.base p g n b c ho
  have h3:=(h.dom p g n _ ho).1
  refine ⟨?_,h2⟩
  unfold under
  rw [if_neg (by omega)]
  exact h1
 ·simp only [AS.enter] at hm
  unfold under
  split
  ·rw [if_pos (by omega)]
   exact Nat.le_refl _
  ·split
   ·exact h.fits l (by omega)
   ·exact h.mono l m hl (by omega)
 ·simp only [AS.enter] at hl
  unfold under
  split
  ·exact Nat.le_refl _
  ·exact h.fits l (by omega)
 ·refine ⟨?_,h.far.2⟩
  unfold under
  rw [if_neg (by omega)]
  exact h.far.1
theorem aB3 : ∀ {lg l : List Loc} {p : Loc},p ∈ aH7 l lg ↔ p ∈ l ∨ p ∈ lg
 | [],l,p=>by simp [aH7]
 | x :: r,l,p=>by
  unfold aH7
  rw [aB3 (lg:=r),ae5,List.mem_cons,or_assoc]
def Mine (G : Gh) (S' : AS) (l b : Nat) : Prop:=∃ p s c,S'.get p = some s ∧ s.live = true ∧ l < p.l ∧ G.own p s.gen s.ext = some (b,c)
open Classical in
noncomputable def Gh.frozen (G : Gh) (S' : AS) (w : World) (l : Nat) : Gh :=
 { own:=fun p g n=>if p.l ≤ l then G.own p g n else none,imm:=fun b o=>if Mine G S' l b then w.cell? ⟨b,o,none⟩ else G.imm b o,far:=G.far }
theorem Gh.az9 [Cfg] (hW : WRel G S w B) (l : Nat) : (G.cut l).le (G.frozen S w l):=⟨fun p g n x h=>h,fun b o v h=>by
 unfold Gh.frozen
 dsimp only
 split
 ·exact hW.imm b o v h
 ·exact h,rfl⟩
mutual
theorem cz8 {l : Nat} {S : AS} : ∀ {n : Nat} {a x : AV},frz l S n a = some x → x.lv l = true
 | 0,a,x,h=>by simp [frz] at h
 | n + 1,a,x,h=>by
  unfold frz at h
  split at h
  ·rename_i hl; cases h; exact hl
  ·split at h
   case h_1=>obtain ⟨y,hy,rfl⟩:=Option.map_eq_some_iff.1 h; exact aN2 hy
   case h_2=>obtain ⟨y,hy,rfl⟩:=Option.map_eq_some_iff.1 h; exact aN2 hy
   case h_3=>obtain ⟨y,hy,rfl⟩:=Option.map_eq_some_iff.1 h; exact aN2 hy
   case h_4=>obtain ⟨y,hy,rfl⟩:=Option.map_eq_some_iff.1 h; exact aN2 hy
   case h_5 =>
    obtain ⟨y,hy,rfl⟩:=Option.map_eq_some_iff.1 h
    have:=cz8 hy
    simpa only [AV.lv] using this
   case h_6 =>
    obtain ⟨y,hy,rfl⟩:=Option.map_eq_some_iff.1 h
    have:=bU5 hy
    simp only [AV.lv,Bool.and_eq_true]
    refine ⟨?_,this⟩
    split
    ·rename_i hs; exact hs
    ·rfl
   case h_7 =>
    split at h
    ·obtain ⟨y,hy,rfl⟩:=Option.map_eq_some_iff.1 h
     exact aN2 hy
    ·cases h
   case h_8 =>
    split at h
    ·obtain ⟨y,hy,rfl⟩:=Option.map_eq_some_iff.1 h
     have:=bU5 hy
     simp only [AV.lv,Bool.and_eq_true]
     exact ⟨rfl,this⟩
    ·cases h
   case h_9=>cases h
theorem aN2 {l : Nat} {S : AS} : ∀ {n : Nat} {xs ys : List AV},frzL l S n xs = some ys → AV.lvL l ys = true
 | 0,xs,ys,h=>by simp [frzL] at h
 | n + 1,[],ys,h=>by simp [frzL] at h; rw [h]; rfl
 | n + 1,a :: r,ys,h=>by
  unfold frzL at h
  split at h
  ·rename_i x y h1 h2
   cases h
   simp only [AV.lvL,Bool.and_eq_true]
   exact ⟨cz8 h1,aN2 h2⟩
  ·cases h
theorem bU5 {l : Nat} {S : AS} : ∀ {n : Nat} {xs ys : List (List AV)},br5 l S n xs = some ys → AV.lvLL l ys = true
 | 0,xs,ys,h=>by simp [br5] at h
 | n + 1,[],ys,h=>by simp [br5] at h; rw [h]; rfl
 | n + 1,a :: r,ys,h=>by
  unfold br5 at h
  split at h
  ·rename_i hl; cases h; exact hl
  split at h
  ·rename_i x y h1 h2
   cases h
   simp only [AV.lvLL,Bool.and_eq_true]
   exact ⟨aN2 h1,bU5 h2⟩
  ·cases h
end
theorem bv1 [Cfg] (hW : WRel G S w B) {l : Nat} {p : Loc} {g k b c : Nat} {cs : List AV} (hcs : S.ai0 p g k = some cs) (ho : G.own p g k = some (b,c)) (hp : l < p.l) :
  ∃ val : Nat → Value,(∀ j,j < cs.length → (G.frozen S w l).imm b j = some (val j)) ∧ ∀ (j : Nat) a,cs[j]? = some a → VRel G a (val j):=by
 obtain ⟨s,vs,t,fr,h1,h2,h3,h4,_,h6,_,h8,h9,_⟩:=hW.ai0 hcs ho
 have hmine : Mine G S l b:=⟨p,s,c,h1,h2,hp,by rw [h3,h4]; exact ho⟩
 refine ⟨fun j=>vs.getD j undef,fun j hj=>?_,fun j a ha=>?_⟩
 ·unfold Gh.frozen
  dsimp only
  rw [if_pos hmine]
  simp only [World.cell?,h6]
  have hlt : j < vs.size:=by omega
  simp [hlt]
 ·have hj:=(List.getElem?_eq_some_iff.1 ha).1
  obtain ⟨v,hv,hr⟩:=h8.get ha
  rw [List.getElem?_take,if_pos hj] at hv
  have : vs.getD j undef = v:=by
   rw [Array.getD_eq_getD_getElem?]
   rw [Array.getElem?_toList] at hv
   rw [hv]; rfl
  show VRel G a (vs.getD j undef)
  rw [this]
  exact hr
theorem bQ3 (sz : Nat) : ∀ (n : Nat) (cs : List AV) (i : Nat) (e : List AV),(chunks sz n cs)[i]? = some e → e = (cs.drop (i * sz)).take sz
 | 0,cs,i,e,h=>by simp [chunks] at h
 | n + 1,cs,0,e,h=>by
  simp [chunks] at h
  rw [← h]; simp
 | n + 1,cs,i + 1,e,h=>by
  simp only [chunks,List.getElem?_cons_succ] at h
  rw [bQ3 sz n (cs.drop sz) i e h,List.drop_drop]
  congr 2
  rw [Nat.add_mul]
  omega
mutual
theorem bp2 [Cfg] (hW : WRel G S w B) {l : Nat} : ∀ {n : Nat} {a x : AV} {v : Value},frz l S n a = some x → VRel G a v → VRel (G.frozen S w l) x v
 | 0,a,x,v,h,_=>by simp [frz] at h
 | n + 1,a,x,v,h,hv=>by
  unfold frz at h
  split at h
  ·rename_i hl; cases h; exact (hv.cut hl).mono (Gh.az9 hW l)
  ·rename_i hl
   split at h
   case h_1 =>
    obtain ⟨y,hy,rfl⟩:=Option.map_eq_some_iff.1 h
    obtain ⟨vs,rfl,hc⟩:=hv.bs5
    exact VRel.aN1 (aI6 hW hy hc)
   case h_2 =>
    obtain ⟨y,hy,rfl⟩:=Option.map_eq_some_iff.1 h
    obtain ⟨vs,rfl,hc⟩:=hv.bR6
    have:=aI6 hW hy hc
    exact .tup _ _ this.1 this.2
   case h_3 =>
    obtain ⟨y,hy,rfl⟩:=Option.map_eq_some_iff.1 h
    cases hv with
    | cref _ b off val h1 h2 =>
     obtain ⟨k1,k2⟩:=aJ3 hW hy h2
     exact .cref _ b off val (fun i hi=>(Gh.az9 hW l).imm _ _ _ (h1 i (by omega))) k2
   case h_4 =>
    obtain ⟨y,hy,rfl⟩:=Option.map_eq_some_iff.1 h
    cases hv with
    | fn f _ vs hl hr =>
     have:=aI6 hW hy ⟨hl,hr⟩
     exact .fn _ _ _ this.1 this.2
   case h_5 =>
    obtain ⟨y,hy,rfl⟩:=Option.map_eq_some_iff.1 h
    cases hv with
    | iface _ _ v hv=>exact .iface _ _ _ (bp2 hW hy hv)
   case h_6 sp sz es =>
    obtain ⟨y,hy,rfl⟩:=Option.map_eq_some_iff.1 h
    cases hv with
    | list _ _ _ b off cap val hn hm hsz h1 h2 hs =>
     obtain ⟨k1,k2,k3⟩:=bm3 hW hy h2
     rw [← k1]
     refine .list _ sz y b off cap val (by omega) hm (fun e he=>?_) (fun i j hi hj=>(Gh.az9 hW l).imm _ _ _ (h1 i j (by omega) hj)) k3 ?_
     ·obtain ⟨i,hi⟩:=List.getElem?_of_mem he
      obtain ⟨e',he',hel⟩:=k2 i e hi
      rw [hel]
      exact hsz e' (List.mem_of_getElem? he')
     ·rw [k1]
      split
      ·rename_i hsl
       cases sp with
       | no=>trivial
       | full=>exact hs
       | own p g =>
        refine ⟨hs.1,(Gh.az9 hW l).own _ _ _ _ ?_⟩
        simp only [Gh.cut]
        rw [if_pos (by simpa [ap1.lv] using hsl)]
        exact hs.2
      ·trivial
   case h_7 p g k off =>
    split at h
    ·rename_i cs hcs
     obtain ⟨y,hy,rfl⟩:=Option.map_eq_some_iff.1 h
     cases hv with
     | ptr _ _ _ _ b c ho =>
      obtain ⟨val,h1,h2⟩:=bv1 hW hcs ho (l:=l) (by simpa [AV.lv] using hl)
      obtain ⟨k1,k2⟩:=aJ3 hW hy (val:=fun j=>val (off + j)) fun j a ha=>h2 _ a (by simpa [List.getElem?_drop] using ha)
      exact .cref _ b off (fun j=>val (off + j)) (fun i hi=>h1 _ (by simp at k1; omega)) k2
    ·cases h
   case h_8 sp p g k off len sz =>
    split at h
    ·rename_i es hes
     obtain ⟨y,hy,rfl⟩:=Option.map_eq_some_iff.1 h
     cases hv with
     | row _ _ _ _ _ _ _ b c o cap ho hoff hn hm hs =>
      unfold al2 at hes
      simp only at hes
      split at hes
      ·rename_i cs hcs
       split at hes
       ·rename_i hc
        cases hes
        obtain ⟨_,hfit⟩:=hc
        obtain ⟨val,h1,h2⟩:=bv1 hW hcs ho (l:=l) (by simpa [AV.lv] using hl)
        have hcl:=bs7 sz len (cs.drop off)
        have hfl:=(bl7 sz len (cs.drop off) (by simp; omega)).2
        obtain ⟨k1,k2,k3⟩:=bm3 hW hy (val:=fun i j=>val (off + (i * sz + j))) fun i j e a he ha=>h2 _ a (by
         have:=bQ3 sz len _ i e he
         rw [this,List.getElem?_take] at ha
         split at ha
         ·rw [List.drop_drop,List.getElem?_drop] at ha
          rw [← ha]; congr 1; omega
         ·cases ha)
        rw [hcl] at k1
        rw [← k1]
        rcases Nat.eq_zero_or_pos len with h0 | hpos
        ·have : y = []:=List.eq_nil_of_length_eq_zero (by omega)
         subst this
         exact .list .no sz [] b o cap (fun _ _=>undef) (Nat.zero_le _) hm (by simp) (fun i j hi _=>by simp at hi) (fun i j e a he _=>by simp at he) trivial
        ·rw [hoff hpos]
         refine .list .no sz y b off cap (fun i j=>val (off + (i * sz + j))) (by omega) hm (fun e he=>?_) (fun i j hi hj=>h1 _ ?_) k3 trivial
         ·obtain ⟨i,hi⟩:=List.getElem?_of_mem he
          obtain ⟨e',he',hel⟩:=k2 i e hi
          rw [hel]
          exact hfl e' (List.mem_of_getElem? he')
         ·have : (i + 1) * sz ≤ len * sz:=Nat.mul_le_mul_right _ (by omega)
          rw [Nat.add_mul] at this
          omega
       ·cases hes
      ·cases hes
    ·cases h
   case h_9=>cases h
theorem aJ3 [Cfg] (hW : WRel G S w B) {l : Nat} : ∀ {n : Nat} {xs ys : List AV} {val : Nat → Value},frzL l S n xs = some ys → (∀ (j : Nat) a,xs[j]? = some a → VRel G a (val j)) → ys.length = xs.length ∧ ∀ (j : Nat) a,ys[j]? = some a → VRel (G.frozen S w l) a (val j)
 | 0,xs,ys,val,h,_=>by simp [frzL] at h
 | n + 1,[],ys,val,h,_=>by simp [frzL] at h; subst h; exact ⟨rfl,fun j a ha=>by simp at ha⟩
 | n + 1,a :: r,ys,val,h,hv=>by
  unfold frzL at h
  split at h
  ·rename_i x y h1 h2
   cases h
   have k0:=bp2 hW h1 (hv 0 a rfl)
   obtain ⟨k1,k2⟩:=aJ3 hW h2 (val:=fun j=>val (j + 1)) fun j a ha=>hv (j + 1) a (by simpa using ha)
   refine ⟨by simp [k1],fun j a ha=>?_⟩
   cases j with
   | zero=>simp at ha; subst ha; exact k0
   | succ j=>exact k2 j a (by simpa using ha)
  ·cases h
theorem bm3 [Cfg] (hW : WRel G S w B) {l : Nat} : ∀ {n : Nat} {xs ys : List (List AV)} {val : Nat → Nat → Value},br5 l S n xs = some ys → (∀ (i j : Nat) e a,xs[i]? = some e → e[j]? = some a → VRel G a (val i j)) →
  ys.length = xs.length ∧ (∀ (i : Nat) e,ys[i]? = some e → ∃ e',xs[i]? = some e' ∧ e.length = e'.length) ∧ ∀ (i j : Nat) e a,ys[i]? = some e → e[j]? = some a → VRel (G.frozen S w l) a (val i j)
 | 0,xs,ys,val,h,_=>by simp [br5] at h
 | n + 1,[],ys,val,h,_=>by simp [br5] at h; subst h; exact ⟨rfl,(fun i e he=>by simp at he),fun i j e a he=>by simp at he⟩
 | n + 1,e0 :: r,ys,val,h,hv=>by
  unfold br5 at h
  split at h
  ·rename_i hl
   cases h
   exact ⟨rfl,fun i e he=>⟨e,he,rfl⟩,fun i j e a he ha=>((hv i j e a he ha).cut (AV.aL2 (AV.b23 hl he) ha)).mono (Gh.az9 hW l)⟩
  split at h
  ·rename_i x y h1 h2
   cases h
   obtain ⟨m1,m2⟩:=aJ3 hW h1 (val:=val 0) fun j a ha=>hv 0 j e0 a rfl ha
   obtain ⟨k1,k2,k3⟩:=bm3 hW h2 (val:=fun i=>val (i + 1)) fun i j e a he ha=>hv (i + 1) j e a (by simpa using he) ha
   refine ⟨by simp [k1],fun i e he=>?_,fun i j e a he ha=>?_⟩
   ·cases i with
    | zero=>simp at he; subst he; exact ⟨e0,rfl,m1⟩
    | succ i =>
     obtain ⟨e',q1,q2⟩:=k2 i e (by simpa using he)
     exact ⟨e',by simpa using q1,q2⟩
   ·cases i with
    | zero=>simp at he; subst he; exact m2 j a ha
    | succ i=>exact k3 i j e a (by simpa using he) ha
  ·cases h
theorem aI6 [Cfg] (hW : WRel G S w B) {l : Nat} : ∀ {n : Nat} {xs ys : List AV} {vs : List Value},frzL l S n xs = some ys → CRel G xs vs → CRel (G.frozen S w l) ys vs
 | n,xs,ys,vs,h,hc=>by
  obtain ⟨k1,k2⟩:=aJ3 hW h (val:=fun j=>vs.getD j undef) fun j a ha=>by
   obtain ⟨v,hv,hr⟩:=hc.get ha
   rw [List.getD_eq_getElem?_getD,hv]
   exact hr
  refine ⟨by rw [k1,hc.1],fun j a v ha hv=>?_⟩
  have:=k2 j a ha
  rw [List.getD_eq_getElem?_getD,hv] at this
  exact this
end
end
open Go.RowKit
theorem az7 {f : Loc → ab3 → Option ab3} {S' : AS} : ∀ {ps : List Loc} {t t' : Tab},ax8 f S' ps t = some t' → ∀ p,(p ∉ ps → t'.get p = t.get p) ∧ (p ∈ ps → ∃ s s',S'.get p = some s ∧ f p s = some s' ∧ t'.get p = some s')
 | [],t,t',h,p=>by simp [ax8] at h; subst h; simp
 | p0 :: r,t,t',h,p=>by
  unfold ax8 at h
  split at h
  ·rename_i s0 hs0
   split at h
   ·rename_i s0' hf
    obtain ⟨i1,i2⟩:=az7 h p
    by_cases hr : p ∈ r
    ·exact ⟨fun hn=>absurd (List.mem_cons_of_mem _ hr) hn,fun _=>i2 hr⟩
    ·by_cases hp : p = p0
     ·subst hp
      exact ⟨fun hn=>absurd (List.mem_cons_self ..) hn,fun _=>⟨s0,s0',hs0,hf,by rw [i1 hr]; exact Tab.aG6 _ _ _⟩⟩
     ·refine ⟨fun _=>by rw [i1 hr]; exact Tab.a98 t s0' hp,fun hm=>?_⟩
      rcases List.mem_cons.1 hm with e | e
      ·exact absurd e hp
      ·exact absurd e hr
   ·cases h
  ·cases h
theorem bP2 [Cfg] {G : Gh} {S : AS} {w : World} {B : Nat → Nat} (hW : WRel G S w B) {l n : Nat} : ∀ {es es' : List ah8} {ents : List MapEntry},frzE l S n es = some es' → ERel G es ents → ERel (G.frozen S w l) es' ents
 | [],es',ents,h,he=>by
  simp [frzE] at h; subst h
  cases ents with
  | nil=>trivial
  | cons _ _=>exact he.elim
 | e :: r,es',ents,h,he=>by
  unfold frzE at h
  split at h
  ·rename_i x y h1 h2
   cases h
   cases ents with
   | nil=>exact he.elim
   | cons d t=>exact ⟨he.1,he.2.1,bp2 hW h1 he.2.2.1,bP2 hW h2 he.2.2.2⟩
  ·cases h
theorem cJ0 {S : AS} {l n : Nat} : ∀ {es es' : List ah8},frzE l S n es = some es' → es'.all (fun e=>e.val.lv l) = true
 | [],es',h=>by simp [frzE] at h; subst h; rfl
 | e :: r,es',h=>by
  unfold frzE at h
  split at h
  ·rename_i x y h1 h2
   cases h
   simp [cz8 h1,cJ0 h2]
  ·cases h
theorem bB8 {S : AS} {l n : Nat} {s s' : ab3} (h : frzS l S n s = some s') : s'.gen = s.gen ∧ s'.ext = s.ext ∧ s'.live = s.live ∧ s'.lv l = true:=by
 cases s <;> simp only [frzS] at h
 case obj g t cs =>
  obtain ⟨y,hy,rfl⟩:=Option.map_eq_some_iff.1 h
  exact ⟨rfl,rfl,rfl,aN2 hy⟩
 case row g k sz e cs =>
  obtain ⟨y,hy,rfl⟩:=Option.map_eq_some_iff.1 h
  exact ⟨rfl,rfl,rfl,aN2 hy⟩
 case map g es ck =>
  obtain ⟨y,hy,rfl⟩:=Option.map_eq_some_iff.1 h
  exact ⟨rfl,rfl,rfl,cJ0 hy⟩
 all_goals (cases h; exact ⟨rfl,rfl,rfl,rfl⟩)
theorem cs3 [Cfg] {G : Gh} {S : AS} {w : World} {B : Nat → Nat} (hW : WRel G S w B) {l n b c : Nat} {s s' : ab3} (h : frzS l S n s = some s') (hi : ∀ o,(G.frozen S w l).imm b o = G.imm b o) (hs : ax2 G w b c s) : ax2 (G.frozen S w l) w b c s':=by
 cases s <;> simp only [frzS] at h
 case obj g t cs =>
  obtain ⟨y,hy,rfl⟩:=Option.map_eq_some_iff.1 h
  obtain ⟨h1,vs,fr,h2,h3,h4⟩:=hs
  exact ⟨fun o=>(hi o).trans (h1 o),vs,fr,h2,h3,aI6 hW hy h4⟩
 case row g k sz e cs =>
  obtain ⟨y,hy,rfl⟩:=Option.map_eq_some_iff.1 h
  obtain ⟨h1,vs,fr,h2,h3,h4,h5,h6,h7⟩:=hs
  have:=aI6 hW hy h7
  refine ⟨fun o=>(hi o).trans (h1 o),vs,fr,h2,h3,h4,?_,h6,this⟩
  rw [this.1,← h7.1,h5]
 case map g es ck =>
  obtain ⟨y,hy,rfl⟩:=Option.map_eq_some_iff.1 h
  obtain ⟨ents,h1,h2⟩:=hs
  exact ⟨ents,h1,bP2 hW hy h2⟩
 case tok g k sz e =>
  cases h
  obtain ⟨h1,vs,fr,h2⟩:=hs
  exact ⟨fun o ho=>(hi o).trans (h1 o ho),vs,fr,h2⟩
 case iter g s pos=>cases h; exact hs
 case dead g k=>cases h; exact hs
theorem ax2.frozen [Cfg] {G : Gh} {S : AS} {w : World} {B : Nat → Nat} (hW : WRel G S w B) {l b c : Nat} {s : ab3} (hl : s.lv l = true) (hi : ∀ o,(G.frozen S w l).imm b o = G.imm b o) (hs : ax2 G w b c s) : ax2 (G.frozen S w l) w b c s:=by
 have hcl:=Gh.az9 hW l
 have hcr : ∀ {xs : List AV} {vs : List Value},AV.lvL l xs = true → CRel G xs vs → CRel (G.frozen S w l) xs vs:=fun hx hc=>⟨hc.1,fun i a v ha hv=>((hc.2 i a v ha hv).cut (AV.aL2 hx ha)).mono hcl⟩
 cases s with
 | obj g t cs =>
  obtain ⟨h1,vs,fr,h2,h3,h4⟩:=hs
  exact ⟨fun o=>(hi o).trans (h1 o),vs,fr,h2,h3,hcr hl h4⟩
 | row g k sz e cs =>
  obtain ⟨h1,vs,fr,h2,h3,h4,h5,h6,h7⟩:=hs
  exact ⟨fun o=>(hi o).trans (h1 o),vs,fr,h2,h3,h4,h5,h6,hcr hl h7⟩
 | map g es ck =>
  obtain ⟨ents,h1,h2⟩:=hs
  refine ⟨ents,h1,?_⟩
  simp only [ab3.lv,List.all_eq_true] at hl
  generalize ents.toList = ds at h2
  induction es generalizing ds with
  | nil =>
   cases ds with
   | nil=>trivial
   | cons _ _=>exact h2.elim
  | cons e r ih =>
   cases ds with
   | nil=>exact h2.elim
   | cons d t=>exact ⟨h2.1,h2.2.1,(h2.2.2.1.cut (hl e (List.mem_cons_self ..))).mono hcl,ih (fun x hx=>hl x (List.mem_cons_of_mem _ hx)) t h2.2.2.2⟩
 | tok g k sz e =>
  obtain ⟨h1,vs,fr,h2⟩:=hs
  exact ⟨fun o ho=>(hi o).trans (h1 o ho),vs,fr,h2⟩
 | iter g s pos=>exact hs
 | dead g k=>exact hs
theorem bm0.cm9 {G H : Gh} (hfar : H.far = G.far) (h : ∀ b o v,G.imm b o = some v → H.imm b o = some v) {x y : Option Obj} {b : Nat} (k : bm0 G x y b) : bm0 H x y b:=by
 obtain ⟨vs,t,fr,fr',h1,h2,⟨o,v,h3⟩,hf,h4⟩:=k
 exact ⟨vs,t,fr,fr',h1,h2,⟨o,v,h _ _ _ h3⟩,by rw [hfar]; exact hf,fun o ho=>(h4 o ho).imp id fun ⟨o',v,k1,k2⟩=>⟨o',v,k1,h _ _ _ k2⟩⟩
theorem aw0 {l : Nat} {S' : AS} {p : Loc} : p ∈ S'.outs l ↔ p ∈ S'.log ∧ p.l ≤ l:=by simp [AS.outs]
theorem WRel.b86 [Cfg] {G G' : Gh} {S S' S2 : AS} {w w' : World} {B : Nat → Nat} {f : FuncId} {n : Nat} (h : WRel G S w B) (h' : WRel G' S' w' (under S w B)) (hm : Mod G (S.enter f) w G' S' w') (hlvl : S2.lvl = S.lvl) (hfn : S2.fn = S.fn)
  (hin : ∀ p,p ∈ S'.outs S.lvl → ∀ s,S'.get p = some s → ∃ s',frzS S.lvl S' n s = some s' ∧ S2.get p = some s') (hout : ∀ p,p.l ≤ S.lvl → (p ∉ S'.outs S.lvl ∨ S'.get p = none) → S2.get p = S'.get p)
  (hlv : ∀ p s,S2.get p = some s → s.lv S.lvl = true) (hlog : ∀ p,p ∈ S2.log ↔ p ∈ S.log ∨ p ∈ S'.outs S.lvl) :
  WRel (G'.frozen S' w' S.lvl) S2 w' B ∧ Mod G S w (G'.frozen S' w' S.lvl) S2 w':=by
 obtain ⟨nl,e1,b1,s1,i1⟩:=hm.log
 have hl' : S'.lvl = S.lvl + 1:=hm.lvl
 have elog : ∀ p,p ∈ S'.log ↔ nl p:=fun p=>by rw [e1]; simp [AS.enter]
 have hown : ∀ {p g k x},(G'.frozen S' w' S.lvl).own p g k = some x → p.l ≤ S.lvl ∧ G'.own p g k = some x:=fun {p g k x} ho=>by
  simp only [Gh.frozen] at ho
  split at ho
  ·rename_i hp; exact ⟨hp,ho⟩
  ·cases ho
 have hown' : ∀ {p g k},p.l ≤ S.lvl → (G'.frozen S' w' S.lvl).own p g k = G'.own p g k:=fun {p g k} hp=>by
  simp only [Gh.frozen]
  rw [if_pos hp]
 have himm : ∀ {b o v},G'.imm b o = some v → (G'.frozen S' w' S.lvl).imm b o = some v:=fun {b o v} hi=>(Gh.az9 h' S.lvl).imm b o v hi
 have hmine : ∀ {b},Mine G' S' S.lvl b → w.heap.size ≤ b:=fun {b} ⟨p,s,c,hp,hl,hlt,ho⟩=>by
  have h1:=(h'.dom _ _ _ _ ho).1
  have h2:=(h'.base _ _ _ _ _ ho).1
  unfold under at h2
  rw [if_pos (by omega)] at h2
  exact h2
 have hsame : ∀ {p s b c},S'.get p = some s → s.live = true → p.l ≤ S.lvl → G'.own p s.gen s.ext = some (b,c) → ∀ o,(G'.frozen S' w' S.lvl).imm b o = G'.imm b o:=fun {p s b c} hp hl hpl ho o=>by
  simp only [Gh.frozen]
  rw [if_neg]
  rintro ⟨q,t,d,hq,hlt,hql,ho'⟩
  have:=h'.apart p q s t hp hq hl hlt b c d ho ho'
  subst this
  omega
 -- what stands behind a slot
 have back : ∀ p s,p.l ≤ S.lvl → S2.get p = some s → ∃ s0,S'.get p = some s0 ∧ s.gen = s0.gen ∧ s.ext = s0.ext ∧ s.live = s0.live ∧ (s = s0 ∨ frzS S.lvl S' n s0 = some s):=by
  intro p s hpl hp
  by_cases hin' : p ∈ S'.outs S.lvl
  ·cases hs0 : S'.get p with
   | none=>rw [hout p hpl (.inr hs0),hs0] at hp; cases hp
   | some s0 =>
    obtain ⟨s',k1,k2⟩:=hin p hin' s0 hs0
    rw [hp] at k2
    cases k2
    obtain ⟨m1,m2,m3,_⟩:=bB8 k1
    exact ⟨s0,rfl,m1,m2,m3,.inr k1⟩
  ·rw [hout p hpl (.inl hin')] at hp
   exact ⟨s,hp,rfl,rfl,rfl,.inl rfl⟩
 have front : ∀ p s0,p.l ≤ S.lvl → S'.get p = some s0 → ∃ s,S2.get p = some s ∧ s.gen = s0.gen ∧ s.ext = s0.ext:=by
  intro p s0 hpl hp
  by_cases hin' : p ∈ S'.outs S.lvl
  ·obtain ⟨s',k1,k2⟩:=hin p hin' s0 hp
   obtain ⟨m1,m2,_,_⟩:=bB8 k1
   exact ⟨s',k2,m1,m2⟩
  ·exact ⟨s0,(hout p hpl (.inl hin')).trans hp,rfl,rfl⟩
 refine ⟨⟨fun b o v hi=>?_,fun p s hp hl b c ho=>?_,fun p s hp=>by rw [hlvl]; exact hlv p s hp,fun p q s t hp hq hs ht b c d ho ho'=>?_,fun p g k x ho=>?_,fun p g k b c ho=>?_,
   fun l m hl hm'=>h.mono l m hl (by rw [hlvl] at hm'; exact hm'),fun l hl=>Nat.le_trans (h.fits l (by rw [hlvl] at hl; exact hl)) hm.size,by rw [show (G'.frozen S' w' S.lvl).far = G.far from hm.le.far]; exact h.far.1,fun x hx=>(h.far.2 x hx).imp fun _ k=>⟨himm (hm.le.imm _ _ _ k.1),k.2⟩⟩,
  ⟨⟨fun p g k x ho=>?_,fun b o v hi=>himm (hm.le.imm b o v hi),hm.le.far⟩,hlvl,hfn,⟨fun p=>p ∈ S'.outs S.lvl,hlog,fun b hb=>?_,fun p hp hnl=>?_,fun b o v hi=>?_⟩,hm.os,hm.tape,hm.output,hm.size⟩⟩
 ·by_cases hmi : Mine G' S' S.lvl b
  ·simp only [Gh.frozen] at hi
   rw [if_pos hmi] at hi
   exact hi
  ·simp only [Gh.frozen] at hi
   rw [if_neg hmi] at hi
   exact h'.imm b o v hi
 ·obtain ⟨hpl,ho⟩:=hown ho
  obtain ⟨s0,k1,k2,k3,k4,k5⟩:=back p s hpl hp
  rw [k2,k3] at ho
  have hl0 : s0.live = true:=by rw [← k4]; exact hl
  have hsl:=h'.slot p s0 k1 hl0 b c ho
  have hi:=hsame k1 hl0 hpl ho
  rcases k5 with rfl | k5
  ·exact hsl.frozen h' (hlv p s hp) hi
  ·exact cs3 h' k5 hi hsl
 ·obtain ⟨hpl,ho⟩:=hown ho
  obtain ⟨hql,ho'⟩:=hown ho'
  obtain ⟨s0,k1,k2,k3,k4,_⟩:=back p s hpl hp
  obtain ⟨t0,m1,m2,m3,m4,_⟩:=back q t hql hq
  rw [k2,k3] at ho
  rw [m2,m3] at ho'
  exact h'.apart p q s0 t0 k1 m1 (by rw [← k4]; exact hs) (by rw [← m4]; exact ht) b c d ho ho'
 ·obtain ⟨hpl,ho⟩:=hown ho
  obtain ⟨_,s0,hs0,hlt⟩:=h'.dom p g k x ho
  obtain ⟨s,k1,k2,k3⟩:=front p s0 hpl hs0
  exact ⟨by rw [hlvl]; exact hpl,s,k1,by rw [k2,k3]; exact hlt⟩
 ·obtain ⟨hpl,ho⟩:=hown ho
  obtain ⟨h3,h4⟩:=h'.base p g k b c ho
  refine ⟨?_,h4⟩
  unfold under at h3
  rw [if_neg (by omega)] at h3
  exact h3
 ·have hp:=(h.dom p g k x ho).1
  rw [hown' hp]
  exact hm.le.own _ _ _ _ ho
 ·rcases b1 b hb with hb1 | hb1 | ⟨p,hp,g,k,c,ho⟩
  ·exact .inl hb1
  ·exact .inr (.inl (hb1.cm9 (G:=G') (H:=G'.frozen S' w' S.lvl) rfl fun b o v hi=>himm hi))
  ·by_cases hpl : p.l ≤ S.lvl
   ·exact .inr (.inr ⟨p,aw0.2 ⟨(elog p).2 hp,hpl⟩,g,k,c,by rw [hown' hpl]; exact ho⟩)
   ·have h1:=(h'.dom _ _ _ _ ho).1
    have h2:=(h'.base _ _ _ _ _ ho).1
    unfold under at h2
    rw [if_pos (by omega)] at h2
    omega
 ·have hn : ¬ nl p:=fun e=>hnl (aw0.2 ⟨(elog p).2 e,hp⟩)
  obtain ⟨k1,k2⟩:=s1 p (Nat.le_succ_of_le hp) hn
  refine ⟨(hout p hp (.inl hnl)).trans k1,fun g k=>?_⟩
  rw [hown' hp]
  exact k2 g k
 ·by_cases hmi : Mine G' S' S.lvl b
  ·exact .inr (.inl (hmine hmi))
  ·simp only [Gh.frozen] at hi
   rw [if_neg hmi] at hi
   rcases i1 b o v hi with k | k | ⟨p,hp,g,j,c,ho⟩
   ·exact .inl k
   ·exact .inr (.inl k)
   ·by_cases hpl : p.l ≤ S.lvl
    ·exact .inr (.inr ⟨p,aw0.2 ⟨(elog p).2 hp,hpl⟩,g,j,c,by rw [hown' hpl]; exact ho⟩)
    ·have h1:=(h'.dom _ _ _ _ ho).1
     have h2:=(h'.base _ _ _ _ _ ho).1
     unfold under at h2
     rw [if_pos (by omega)] at h2
     exact .inr (.inl h2)
theorem bW6 [Cfg] {G G' : Gh} {S S' : AS} {w w' : World} {B : Nat → Nat} {f : FuncId} {v x : AV} {u : Value} {r : Upd} (hup : Cfg.up f S.fn = false) (h : WRel G S w B) (h' : WRel G' S' w' (under S w B)) (hm : Mod G (S.enter f) w G' S' w') (hv : VRel G' v u)
  (hh : ak3 f S S' v = some (x,r)) : ∃ G2,VRel G2 x u ∧ WRel G2 (S.after r) w' B ∧ Mod G S w G2 (S.after r) w':=by
 unfold ak3 at hh
 simp only [hup,Bool.false_eq_true,if_false] at hh
 obtain ⟨nl,e1,b1,s1,i1⟩:=hm.log
 have elog : ∀ p,p ∈ S'.log ↔ nl p:=fun p=>by rw [e1]; simp [AS.enter]
 have hun : ∀ p,p.l ≤ S.lvl → p ∉ S'.outs S.lvl → S'.get p = S.get p:=fun p hp hno =>
  (s1 p (Nat.le_succ_of_le hp) fun e=>hno (aw0.2 ⟨(elog p).2 e,hp⟩)).1
 split at hh
 case h_2=>cases hh
 rename_i v' hv'
 have hvr:=bp2 h' hv' hv
 split at hh
 ·rename_i ho
  cases hh
  have hno : ∀ p,p ∉ S'.outs S.lvl:=fun p=>by rw [ho]; simp
  obtain ⟨k1,k2⟩:=h.b86 (S2:=S) (n:=0) h' hm rfl rfl (fun p hp=>absurd hp (hno p)) (fun p hp _=>(hun p hp (hno p)).symm) h.lvs (fun p=>⟨.inl,fun e=>e.elim id fun e=>absurd e (hno p)⟩)
  exact ⟨_,hvr,k1,k2⟩
 ·split at hh
  case h_2=>cases hh
  rename_i t ht
  cases hh
  have hget:=az7 ht
  refine ⟨_,hvr,h.b86 (S2:=S.after (some (t,S'.outs S.lvl))) (n:=100000) h' hm rfl rfl (fun p hp s hs=>?_) (fun p hp hc=>?_) (fun p s hp=>?_) (fun p=>aB3)⟩
  ·obtain ⟨s0,s',h0,hs',hg⟩:=(hget p).2 hp
   rw [hs] at h0; cases h0
   exact ⟨s',hs',hg⟩
  ·show t.get p = _
   by_cases hin : p ∈ S'.outs S.lvl
   ·obtain ⟨s0,s',h0,_⟩:=(hget p).2 hin
    rcases hc with hc | hc
    ·exact absurd hin hc
    ·rw [hc] at h0; cases h0
   ·rw [(hget p).1 hin]
    exact (hun p hp hin).symm
  ·have hp' : t.get p = some s:=hp
   by_cases hin : p ∈ S'.outs S.lvl
   ·obtain ⟨s0,s',h0,hs',hg⟩:=(hget p).2 hin
    rw [hp'] at hg; cases hg
    exact (bB8 hs').2.2.2
   ·rw [(hget p).1 hin] at hp'
    exact h.lvs p s hp'
open Go.RowKit
theorem Names.get_mem : ∀ {N : Names} {p q : Loc} {g : Nat},N.get p = some (q,g) → (p,q,g) ∈ N
 | [],_,_,_,h=>by simp [Names.get] at h
 | (a,r) :: t,p,q,g,h=>by
  unfold Names.get at h
  split at h
  ·rename_i e
   subst e
   cases h
   exact List.mem_cons_self ..
  ·exact List.mem_cons_of_mem _ (Names.get_mem h)
theorem aJ7 : ∀ {l : List Loc},nodupB l = true → l.Nodup
 | [],_=>List.nodup_nil
 | p :: r,h=>by
  simp only [nodupB,Bool.and_eq_true] at h
  exact List.nodup_cons.2 ⟨by simpa using h.1,aJ7 h.2⟩
structure au9 (l : Nat) (S' : AS) (N : Names) : Prop where
 deep : ∀ p q g,(p,q,g) ∈ N → l < p.l
 lvl : ∀ p q g,(p,q,g) ∈ N → q.l = l
 new : ∀ p q g,(p,q,g) ∈ N → S'.get q = none
 gen : ∀ p q g,(p,q,g) ∈ N → g = 0
 slot : ∀ p q g,(p,q,g) ∈ N → ∃ s,S'.get p = some s ∧ s.live = true
 fst : ∀ p q q' g g',(p,q,g) ∈ N → (p,q',g') ∈ N → q = q' ∧ g = g'
 snd : ∀ p p' q g g',(p,q,g) ∈ N → (p',q,g') ∈ N → p = p' ∧ g = g'
theorem bG8 {α β : Type} : ∀ {l : List (α × β)},(l.map (·.1)).Nodup → ∀ a b c,(a,b) ∈ l → (a,c) ∈ l → b = c
 | [],_,_,_,_,h,_=>by cases h
 | x :: r,hn,a,b,c,h1,h2=>by
  rw [List.map_cons,List.nodup_cons] at hn
  rcases List.mem_cons.1 h1 with e1 | h1 <;> rcases List.mem_cons.1 h2 with e2 | h2
  ·rw [← e1] at e2; cases e2; rfl
  ·exact absurd (List.mem_map.2 ⟨_,h2,by rw [← e1]⟩) hn.1
  ·exact absurd (List.mem_map.2 ⟨_,h1,by rw [← e2]⟩) hn.1
  ·exact bG8 hn.2 a b c h1 h2
theorem cu8 {l : Nat} {S' : AS} {N : Names} (h : aM0 l S' N = true) : au9 l S' N:=by
 simp only [aM0,Bool.and_eq_true,List.all_eq_true] at h
 obtain ⟨⟨h1,h2⟩,h3⟩:=h
 have n1:=aJ7 h2
 have n2:=aJ7 h3
 have key : ∀ p q g,(p,q,g) ∈ N → l < p.l ∧ q.l = l ∧ S'.get q = none ∧ g = 0 ∧ ∃ s,S'.get p = some s ∧ s.live = true:=fun p q g hm=>by
  obtain ⟨⟨⟨⟨k1,k2⟩,k3⟩,k4⟩,k5⟩:=h1 _ hm
  refine ⟨by simpa using k1,by simpa using k2,by simpa using k3,by simpa using k4,?_⟩
  dsimp only at k5
  split at k5
  ·rename_i s hs; exact ⟨s,hs,k5⟩
  ·cases k5
 have hsnd : ∀ p p' q g g',(p,q,g) ∈ N → (p',q,g') ∈ N → p = p':=fun p p' q g g' m1 m2=>by
  have:=bG8 (l:=N.map fun x=>(x.2.1,x.1)) (by simpa [List.map_map,Function.comp_def] using n2) q p p' (List.mem_map.2 ⟨_,m1,rfl⟩) (List.mem_map.2 ⟨_,m2,rfl⟩)
  exact this
 refine ⟨fun p q g m=>(key p q g m).1,fun p q g m=>(key p q g m).2.1,fun p q g m=>(key p q g m).2.2.1,fun p q g m=>(key p q g m).2.2.2.1,fun p q g m=>(key p q g m).2.2.2.2,fun p q q' g g' m1 m2=>?_,fun p p' q g g' m1 m2=>?_⟩
 ·have:=bG8 n1 p (q,g) (q',g') m1 m2
  cases this
  exact ⟨rfl,rfl⟩
 ·exact ⟨hsnd p p' q g g' m1 m2,by rw [(key _ _ _ m1).2.2.2.1,(key _ _ _ m2).2.2.2.1]⟩
section
variable {P : Program} {G : Gh} {S : AS} {w : World} {B : Nat → Nat}
open Classical in
noncomputable def Gh.raised (G : Gh) (S' : AS) (l : Nat) (N : Names) : Gh :=
 { own:=fun p g n=>if p.l ≤ l then (if h : ∃ p0 g0,(p0,p,g0) ∈ N then (match S'.get h.choose with
   | some s=>if g = 0 ∧ n = s.ext then G.own h.choose s.gen s.ext else none
   | none=>none) else G.own p g n) else none,imm:=G.imm,far:=G.far }
theorem aJ2 [Cfg] (hW : WRel G S w B) {l : Nat} {N : Names} (hN : au9 l S N) {p : Loc} (hp : p.l ≤ l) {g n : Nat} {x : Nat × Nat} (ho : G.own p g n = some x) : (G.raised S l N).own p g n = some x:=by
 obtain ⟨_,s,hs,_⟩:=hW.dom _ _ _ _ ho
 unfold Gh.raised
 dsimp only
 rw [if_pos hp,dif_neg]
 ·exact ho
 ·rintro ⟨p0,g0,hm⟩
  rw [hN.new _ _ _ hm] at hs
  cases hs
theorem aK1 {l : Nat} {N : Names} (hN : au9 l S N) {p q : Loc} {h : Nat} (hm : (p,q,h) ∈ N) {s : ab3} (hs : S.get p = some s) : (G.raised S l N).own q h s.ext = G.own p s.gen s.ext:=by
 have hex : ∃ p0 g0,(p0,q,g0) ∈ N:=⟨p,h,hm⟩
 obtain ⟨g0,hc⟩:=hex.choose_spec
 have hpe:=(hN.snd _ _ _ _ _ hc hm).1
 unfold Gh.raised
 dsimp only
 rw [if_pos (by rw [hN.lvl _ _ _ hm]; exact Nat.le_refl _),dif_pos hex,hpe,hs]
 simp only
 rw [if_pos ⟨hN.gen _ _ _ hm,by trivial⟩]
mutual
theorem br3 [Cfg] (hW : WRel G S w B) {l : Nat} {N : Names} (hN : au9 l S N) : ∀ {a x : AV} {v : Value},ren l S N a = some x → VRel G a v → VRel (G.raised S l N) x v
 | .lit u,x,v,h,hv=>by
  simp only [ren,Option.some.injEq] at h
  subst h
  rw [hv.al0]
  exact .lit _
 | .agg cs,x,v,h,hv=>by
  obtain ⟨y,hy,rfl⟩:=Option.map_eq_some_iff.1 h
  obtain ⟨vs,rfl,hc⟩:=hv.bs5
  exact VRel.aN1 (aJ4 hW hN hy hc)
 | .tup cs,x,v,h,hv=>by
  obtain ⟨y,hy,rfl⟩:=Option.map_eq_some_iff.1 h
  obtain ⟨vs,rfl,hc⟩:=hv.bR6
  have:=aJ4 hW hN hy hc
  exact .tup _ _ this.1 this.2
 | .cref cs,x,v,h,hv=>by
  obtain ⟨y,hy,rfl⟩:=Option.map_eq_some_iff.1 h
  cases hv with
  | cref _ b off val h1 h2 =>
   obtain ⟨k1,k2⟩:=ba8 hW hN hy h2
   exact .cref _ b off val (fun i hi=>h1 i (by omega)) k2
 | .fn f cs,x,v,h,hv=>by
  obtain ⟨y,hy,rfl⟩:=Option.map_eq_some_iff.1 h
  cases hv with
  | fn _ _ vs hl hr =>
   have:=aJ4 hW hN hy ⟨hl,hr⟩
   exact .fn _ _ _ this.1 this.2
 | .iface t a,x,v,h,hv=>by
  obtain ⟨y,hy,rfl⟩:=Option.map_eq_some_iff.1 h
  cases hv with
  | iface _ _ v hv=>exact .iface _ _ _ (br3 hW hN hy hv)
 | .list sp sz es,x,v,h,hv=>by
  obtain ⟨y,hy,rfl⟩:=Option.map_eq_some_iff.1 h
  cases hv with
  | list _ _ _ b off cap val hn hm hsz h1 h2 hs =>
   obtain ⟨k1,k2,k3⟩:=bD4 hW hN hy h2
   rw [← k1]
   refine .list _ sz y b off cap val (by omega) hm (fun e he=>?_) (fun i j hi hj=>h1 i j (by omega) hj) k3 ?_
   ·obtain ⟨i,hi⟩:=List.getElem?_of_mem he
    obtain ⟨e',he',hel⟩:=k2 i e hi
    rw [hel]
    exact hsz e' (List.mem_of_getElem? he')
   ·rw [k1]
    cases sp with
    | no=>trivial
    | full=>exact hs
    | own p g =>
     dsimp only
     split
     ·rename_i hp
      exact ⟨hs.1,aJ2 hW hN hp hs.2⟩
     ·split
      ·rename_i q g0 g' n sz' e' hq hs'
       split
       ·rename_i hc
        obtain ⟨rfl,rfl⟩:=hc
        have:=aK1 (G:=G) hN (Names.get_mem hq) hs'
        exact ⟨hs.1,this.trans hs.2⟩
       ·trivial
      ·trivial
 | .ptr p g k off,x,v,h,hv=>by
  cases hv with
  | ptr _ _ _ _ b c ho =>
   unfold ren at h
   split at h
   ·rename_i hp
    cases h
    exact .ptr _ _ _ _ b c (aJ2 hW hN hp ho)
   ·split at h
    ·rename_i q g0 s hq hs
     split at h
     ·rename_i hc
      simp only [Bool.and_eq_true,beq_iff_eq] at hc
      obtain ⟨⟨_,rfl⟩,rfl⟩:=hc
      cases h
      exact .ptr _ _ _ _ b c ((aK1 hN (Names.get_mem hq) hs).trans ho)
     ·cases h
    ·cases h
 | .row sp p g k off len sz,x,v,h,hv=>by
  cases hv with
  | row _ _ _ _ _ _ _ b c o cap ho hoff hn hm hs =>
   unfold ren at h
   split at h
   ·rename_i hp
    cases h
    exact .row _ _ _ _ _ _ _ b c o cap (aJ2 hW hN hp ho) hoff hn hm hs
   ·split at h
    ·rename_i q g0 s hq hs'
     split at h
     ·rename_i hc
      simp only [Bool.and_eq_true,beq_iff_eq] at hc
      obtain ⟨⟨_,rfl⟩,rfl⟩:=hc
      cases h
      exact .row _ _ _ _ _ _ _ b c o cap ((aK1 hN (Names.get_mem hq) hs').trans ho) hoff hn hm hs
     ·cases h
    ·cases h
 | .mref p g,x,v,h,hv=>by
  cases hv with
  | mref _ _ b c ho =>
   unfold ren at h
   split at h
   ·rename_i hp
    cases h
    exact .mref _ _ b c (aJ2 hW hN hp ho)
   ·split at h
    ·rename_i q g0 s hq hs
     split at h
     ·rename_i hc
      simp only [Bool.and_eq_true,beq_iff_eq] at hc
      obtain ⟨⟨_,rfl⟩,he⟩:=hc
      cases h
      have:=aK1 (G:=G) hN (Names.get_mem hq) hs
      rw [he] at this
      exact .mref _ _ b c (this.trans ho)
     ·cases h
    ·cases h
theorem ba8 [Cfg] (hW : WRel G S w B) {l : Nat} {N : Names} (hN : au9 l S N) : ∀ {xs ys : List AV} {val : Nat → Value},renL l S N xs = some ys → (∀ (j : Nat) a,xs[j]? = some a → VRel G a (val j)) → ys.length = xs.length ∧ ∀ (j : Nat) a,ys[j]? = some a → VRel (G.raised S l N) a (val j)
 | [],ys,val,h,_=>by simp [renL] at h; subst h; exact ⟨rfl,fun j a ha=>by simp at ha⟩
 | a :: r,ys,val,h,hv=>by
  unfold renL at h
  split at h
  ·rename_i x y h1 h2
   cases h
   have k0:=br3 hW hN h1 (hv 0 a rfl)
   obtain ⟨k1,k2⟩:=ba8 hW hN h2 (val:=fun j=>val (j + 1)) fun j a ha=>hv (j + 1) a (by simpa using ha)
   refine ⟨by simp [k1],fun j a ha=>?_⟩
   cases j with
   | zero=>simp at ha; subst ha; exact k0
   | succ j=>exact k2 j a (by simpa using ha)
  ·cases h
theorem bD4 [Cfg] (hW : WRel G S w B) {l : Nat} {N : Names} (hN : au9 l S N) : ∀ {xs ys : List (List AV)} {val : Nat → Nat → Value},bB3 l S N xs = some ys → (∀ (i j : Nat) e a,xs[i]? = some e → e[j]? = some a → VRel G a (val i j)) →
  ys.length = xs.length ∧ (∀ (i : Nat) e,ys[i]? = some e → ∃ e',xs[i]? = some e' ∧ e.length = e'.length) ∧ ∀ (i j : Nat) e a,ys[i]? = some e → e[j]? = some a → VRel (G.raised S l N) a (val i j)
 | [],ys,val,h,_=>by simp [bB3] at h; subst h; exact ⟨rfl,(fun i e he=>by simp at he),fun i j e a he=>by simp at he⟩
 | e0 :: r,ys,val,h,hv=>by
  unfold bB3 at h
  split at h
  ·rename_i x y h1 h2
   cases h
   obtain ⟨m1,m2⟩:=ba8 hW hN h1 (val:=val 0) fun j a ha=>hv 0 j e0 a rfl ha
   obtain ⟨k1,k2,k3⟩:=bD4 hW hN h2 (val:=fun i=>val (i + 1)) fun i j e a he ha=>hv (i + 1) j e a (by simpa using he) ha
   refine ⟨by simp [k1],fun i e he=>?_,fun i j e a he ha=>?_⟩
   ·cases i with
    | zero=>simp at he; subst he; exact ⟨e0,rfl,m1⟩
    | succ i =>
     obtain ⟨e',q1,q2⟩:=k2 i e (by simpa using he)
     exact ⟨e',by simpa using q1,q2⟩
   ·cases i with
    | zero=>simp at he; subst he; exact m2 j a ha
    | succ i=>exact k3 i j e a (by simpa using he) ha
  ·cases h
theorem aJ4 [Cfg] (hW : WRel G S w B) {l : Nat} {N : Names} (hN : au9 l S N) : ∀ {xs ys : List AV} {vs : List Value},renL l S N xs = some ys → CRel G xs vs → CRel (G.raised S l N) ys vs
 | xs,ys,vs,h,hc=>by
  obtain ⟨k1,k2⟩:=ba8 hW hN h (val:=fun j=>vs.getD j undef) fun j a ha=>by
   obtain ⟨v,hv,hr⟩:=hc.get ha
   rw [List.getD_eq_getElem?_getD,hv]
   exact hr
  refine ⟨by rw [k1,hc.1],fun j a v ha hv=>?_⟩
  have:=k2 j a ha
  rw [List.getD_eq_getElem?_getD,hv] at this
  exact this
end
end
open Go.RowKit
section
variable {G : Gh} {S : AS} {w : World} {B : Nat → Nat}
theorem bO2 [Cfg] (hW : WRel G S w B) {l : Nat} {N : Names} (hN : au9 l S N) : ∀ {es es' : List ah8} {ents : List MapEntry},renE l S N es = some es' → ERel G es ents → ERel (G.raised S l N) es' ents
 | [],es',ents,h,he=>by
  simp [renE] at h; subst h
  cases ents with
  | nil=>trivial
  | cons _ _=>exact he.elim
 | e :: r,es',ents,h,he=>by
  unfold renE at h
  split at h
  ·rename_i x y h1 h2
   cases h
   cases ents with
   | nil=>exact he.elim
   | cons d t=>exact ⟨he.1,he.2.1,br3 hW hN h1 he.2.2.1,bO2 hW hN h2 he.2.2.2⟩
  ·cases h
theorem bp8 {l : Nat} {N : Names} {g : Nat} {s s' : ab3} (h : renS l S N g s = some s') : s'.gen = g ∧ s'.ext = s.ext ∧ s'.live = s.live:=by
 cases s <;> simp only [renS] at h
 case obj g t cs=>obtain ⟨y,hy,rfl⟩:=Option.map_eq_some_iff.1 h; exact ⟨rfl,rfl,rfl⟩
 case row g k sz e cs=>obtain ⟨y,hy,rfl⟩:=Option.map_eq_some_iff.1 h; exact ⟨rfl,rfl,rfl⟩
 case map g es ck=>obtain ⟨y,hy,rfl⟩:=Option.map_eq_some_iff.1 h; exact ⟨rfl,rfl,rfl⟩
 all_goals first | (cases h; done) | (cases h; exact ⟨rfl,rfl,rfl⟩)
theorem bQ4 [Cfg] (hW : WRel G S w B) {l : Nat} {N : Names} (hN : au9 l S N) {g b c : Nat} {s s' : ab3} (h : renS l S N g s = some s') (hs : ax2 G w b c s) : ax2 (G.raised S l N) w b c s':=by
 cases s <;> simp only [renS] at h
 case obj g t cs =>
  obtain ⟨y,hy,rfl⟩:=Option.map_eq_some_iff.1 h
  obtain ⟨h1,vs,fr,h2,h3,h4⟩:=hs
  exact ⟨h1,vs,fr,h2,h3,aJ4 hW hN hy h4⟩
 case row g k sz e cs =>
  obtain ⟨y,hy,rfl⟩:=Option.map_eq_some_iff.1 h
  obtain ⟨h1,vs,fr,h2,h3,h4,h5,h6,h7⟩:=hs
  have:=aJ4 hW hN hy h7
  refine ⟨h1,vs,fr,h2,h3,h4,?_,h6,this⟩
  rw [this.1,← h7.1,h5]
 case map g es ck =>
  obtain ⟨y,hy,rfl⟩:=Option.map_eq_some_iff.1 h
  obtain ⟨ents,h1,h2⟩:=hs
  exact ⟨ents,h1,bO2 hW hN hy h2⟩
 case tok g k sz e =>
  cases h
  obtain ⟨h1,vs,fr,h2⟩:=hs
  exact ⟨h1,vs,fr,h2⟩
 case iter g s pos=>cases h; exact hs
 case dead g k=>cases h
mutual
theorem cJ1 {l : Nat} {N : Names} (hN : au9 l S N) : ∀ {a x : AV},ren l S N a = some x → x.lv l = true
 | .lit u,x,h=>by simp only [ren,Option.some.injEq] at h; subst h; rfl
 | .agg cs,x,h=>by obtain ⟨y,hy,rfl⟩:=Option.map_eq_some_iff.1 h; exact aS5 hN hy
 | .tup cs,x,h=>by obtain ⟨y,hy,rfl⟩:=Option.map_eq_some_iff.1 h; exact aS5 hN hy
 | .cref cs,x,h=>by obtain ⟨y,hy,rfl⟩:=Option.map_eq_some_iff.1 h; exact aS5 hN hy
 | .fn f cs,x,h=>by obtain ⟨y,hy,rfl⟩:=Option.map_eq_some_iff.1 h; exact aS5 hN hy
 | .iface t a,x,h=>by
  obtain ⟨y,hy,rfl⟩:=Option.map_eq_some_iff.1 h
  have:=cJ1 hN hy
  simpa only [AV.lv] using this
 | .list sp sz es,x,h=>by
  obtain ⟨y,hy,rfl⟩:=Option.map_eq_some_iff.1 h
  have:=cn5 hN hy
  simp only [AV.lv,Bool.and_eq_true]
  refine ⟨?_,this⟩
  cases sp with
  | no=>rfl
  | full=>rfl
  | own p g =>
   dsimp only
   split
   ·rename_i hp; exact decide_eq_true hp
   ·split
    ·rename_i q g0 g' n sz' e' hq hs'
     split
     ·exact decide_eq_true (by rw [hN.lvl _ _ _ (Names.get_mem hq)]; exact Nat.le_refl _)
     ·rfl
    ·rfl
 | .ptr p g k off,x,h=>by
  unfold ren at h
  split at h
  ·rename_i hp; cases h; exact decide_eq_true hp
  ·split at h
   ·rename_i q g0 s hq hs
    split at h
    ·cases h; exact decide_eq_true (by rw [hN.lvl _ _ _ (Names.get_mem hq)]; exact Nat.le_refl _)
    ·cases h
   ·cases h
 | .row sp p g k off len sz,x,h=>by
  unfold ren at h
  split at h
  ·rename_i hp; cases h; exact decide_eq_true hp
  ·split at h
   ·rename_i q g0 s hq hs
    split at h
    ·cases h; exact decide_eq_true (by rw [hN.lvl _ _ _ (Names.get_mem hq)]; exact Nat.le_refl _)
    ·cases h
   ·cases h
 | .mref p g,x,h=>by
  unfold ren at h
  split at h
  ·rename_i hp; cases h; exact decide_eq_true hp
  ·split at h
   ·rename_i q g0 s hq hs
    split at h
    ·cases h; exact decide_eq_true (by rw [hN.lvl _ _ _ (Names.get_mem hq)]; exact Nat.le_refl _)
    ·cases h
   ·cases h
theorem aS5 {l : Nat} {N : Names} (hN : au9 l S N) : ∀ {xs ys : List AV},renL l S N xs = some ys → AV.lvL l ys = true
 | [],ys,h=>by simp [renL] at h; subst h; rfl
 | a :: r,ys,h=>by
  unfold renL at h
  split at h
  ·rename_i x y h1 h2
   cases h
   simp only [AV.lvL,Bool.and_eq_true]
   exact ⟨cJ1 hN h1,aS5 hN h2⟩
  ·cases h
theorem cn5 {l : Nat} {N : Names} (hN : au9 l S N) : ∀ {xs ys : List (List AV)},bB3 l S N xs = some ys → AV.lvLL l ys = true
 | [],ys,h=>by simp [bB3] at h; subst h; rfl
 | a :: r,ys,h=>by
  unfold bB3 at h
  split at h
  ·rename_i x y h1 h2
   cases h
   simp only [AV.lvLL,Bool.and_eq_true]
   exact ⟨aS5 hN h1,cn5 hN h2⟩
  ·cases h
end
theorem cH8 {l : Nat} {N : Names} (hN : au9 l S N) : ∀ {es es' : List ah8},renE l S N es = some es' → es'.all (fun e=>e.val.lv l) = true
 | [],es',h=>by simp [renE] at h; subst h; rfl
 | e :: r,es',h=>by
  unfold renE at h
  split at h
  ·rename_i x y h1 h2
   cases h
   simp [cJ1 hN h1,cH8 hN h2]
  ·cases h
theorem cG4 {l : Nat} {N : Names} (hN : au9 l S N) {g : Nat} {s s' : ab3} (h : renS l S N g s = some s') : s'.lv l = true:=by
 cases s <;> simp only [renS] at h
 case obj g t cs=>obtain ⟨y,hy,rfl⟩:=Option.map_eq_some_iff.1 h; exact aS5 hN hy
 case row g k sz e cs=>obtain ⟨y,hy,rfl⟩:=Option.map_eq_some_iff.1 h; exact aS5 hN hy
 case map g es ck=>obtain ⟨y,hy,rfl⟩:=Option.map_eq_some_iff.1 h; exact cH8 hN hy
 all_goals first | (cases h; done) | (cases h; rfl)
end
open Go.RowKit
theorem aG5 {G : Gh} {S' : AS} {l : Nat} {N : Names} {p : Loc} (hp : p.l ≤ l) (hno : ∀ p0 g0,(p0,p,g0) ∉ N) (g n : Nat) : (G.raised S' l N).own p g n = G.own p g n:=by
 unfold Gh.raised
 dsimp only
 rw [if_pos hp,dif_neg]
 rintro ⟨p0,g0,hm⟩
 exact hno p0 g0 hm
theorem aF5 {G : Gh} {S' : AS} {l : Nat} {N : Names} (hN : au9 l S' N) {p : Loc} {g n : Nat} {x : Nat × Nat} (ho : (G.raised S' l N).own p g n = some x) :
  p.l ≤ l ∧ (((∀ p0 g0,(p0,p,g0) ∉ N) ∧ G.own p g n = some x) ∨ ∃ p0 s0,(p0,p,g) ∈ N ∧ g = 0 ∧ S'.get p0 = some s0 ∧ n = s0.ext ∧ G.own p0 s0.gen s0.ext = some x):=by
 by_cases hp : p.l ≤ l
 ·refine ⟨hp,?_⟩
  by_cases hex : ∃ p0 g0,(p0,p,g0) ∈ N
  ·obtain ⟨p0,g0,hm⟩:=hex
   obtain ⟨s0,hs0,_⟩:=hN.slot _ _ _ hm
   have hg0:=hN.gen _ _ _ hm
   subst hg0
   have hex : ∃ p0 g0,(p0,p,g0) ∈ N:=⟨p0,0,hm⟩
   obtain ⟨g1,hc⟩:=hex.choose_spec
   have hpe:=(hN.snd _ _ _ _ _ hc hm).1
   unfold Gh.raised at ho
   dsimp only at ho
   rw [if_pos hp,dif_pos hex,hpe,hs0] at ho
   simp only at ho
   split at ho
   ·rename_i hc2
    obtain ⟨rfl,rfl⟩:=hc2
    exact .inr ⟨p0,s0,hm,rfl,hs0,rfl,ho⟩
   ·cases ho
  ·have hno : ∀ p0 g0,(p0,p,g0) ∉ N:=fun p0 g0 hm=>hex ⟨p0,g0,hm⟩
   rw [aG5 hp hno] at ho
   exact .inl ⟨hno,ho⟩
 ·unfold Gh.raised at ho
  dsimp only at ho
  rw [if_neg hp] at ho
  cases ho
theorem WRel.b61 [Cfg] {G G' : Gh} {S S' S2 : AS} {w w' : World} {B : Nat → Nat} {f : FuncId} {N : Names} (h : WRel G S w B) (h' : WRel G' S' w' (under S w B)) (hm : Mod G (S.enter f) w G' S' w') (hN : au9 S.lvl S' N) (hlvl : S2.lvl = S.lvl) (hfn : S2.fn = S.fn)
  (hin : ∀ p,p ∈ S'.outs S.lvl → ∀ s,S'.get p = some s → ∃ s',renS S.lvl S' N s.gen s = some s' ∧ S2.get p = some s')
  (hnew : ∀ p q g,(p,q,g) ∈ N → ∀ s,S'.get p = some s → ∃ s',renS S.lvl S' N g s = some s' ∧ S2.get q = some s')
  (hout : ∀ p,p.l ≤ S.lvl → (∀ p0 g0,(p0,p,g0) ∉ N) → (p ∉ S'.outs S.lvl ∨ S'.get p = none) → S2.get p = S'.get p)
  (hlv : ∀ p s,S2.get p = some s → s.lv S.lvl = true) (hlog : ∀ p,p ∈ S2.log ↔ p ∈ S.log ∨ (p ∈ S'.outs S.lvl ∨ ∃ p0 g0,(p0,p,g0) ∈ N)) :
  WRel (G'.raised S' S.lvl N) S2 w' B ∧ Mod G S w (G'.raised S' S.lvl N) S2 w':=by
 obtain ⟨nl,e1,b1,s1,i1⟩:=hm.log
 have hl' : S'.lvl = S.lvl + 1:=hm.lvl
 have elog : ∀ p,p ∈ S'.log ↔ nl p:=fun p=>by rw [e1]; simp [AS.enter]
 have old : ∀ {p g k x},p.l ≤ S.lvl → G'.own p g k = some x → (G'.raised S' S.lvl N).own p g k = some x:=fun hp ho=>aJ2 h' hN hp ho
 have notq : ∀ {p s},S'.get p = some s → ∀ p0 g0,(p0,p,g0) ∉ N:=fun hs p0 g0 hm=>by rw [hN.new _ _ _ hm] at hs; cases hs
 -- what stands behind a slot
 have back : ∀ p s,p.l ≤ S.lvl → S2.get p = some s → ∃ p' s0,S'.get p' = some s0 ∧ s.live = s0.live ∧ (∀ x,(G'.raised S' S.lvl N).own p s.gen s.ext = some x → G'.own p' s0.gen s0.ext = some x) ∧
   (p' = p ∨ (S.lvl < p'.l ∧ ∃ g0,(p',p,g0) ∈ N)) ∧ ∀ b c,ax2 G' w' b c s0 → ax2 (G'.raised S' S.lvl N) w' b c s:=by
  intro p s hpl hp
  by_cases hex : ∃ p0 g0,(p0,p,g0) ∈ N
  ·obtain ⟨p0,g0,hm0⟩:=hex
   obtain ⟨s0,hs0,_⟩:=hN.slot _ _ _ hm0
   obtain ⟨s',k1,k2⟩:=hnew p0 p g0 hm0 s0 hs0
   rw [hp] at k2
   cases k2
   obtain ⟨m1,m2,m3⟩:=bp8 k1
   refine ⟨p0,s0,hs0,m3,fun x ho=>?_,.inr ⟨hN.deep _ _ _ hm0,g0,hm0⟩,fun b c hsl=>bQ4 h' hN k1 hsl⟩
   rw [m1,m2,aK1 (G:=G') hN hm0 hs0] at ho
   exact ho
  ·have hno : ∀ p0 g0,(p0,p,g0) ∉ N:=fun p0 g0 hm=>hex ⟨p0,g0,hm⟩
   by_cases hin' : p ∈ S'.outs S.lvl
   ·cases hs0 : S'.get p with
    | none=>rw [hout p hpl hno (.inr hs0),hs0] at hp; cases hp
    | some s0 =>
     obtain ⟨s',k1,k2⟩:=hin p hin' s0 hs0
     rw [hp] at k2
     cases k2
     obtain ⟨m1,m2,m3⟩:=bp8 k1
     refine ⟨p,s0,hs0,m3,fun x ho=>?_,.inl rfl,fun b c hsl=>bQ4 h' hN k1 hsl⟩
     rw [m1,m2,aG5 hpl hno] at ho
     exact ho
   ·rw [hout p hpl hno (.inl hin')] at hp
    refine ⟨p,s,hp,rfl,fun x ho=>?_,.inl rfl,fun b c hsl=>?_⟩
    ·rw [aG5 hpl hno] at ho
     exact ho
    ·have hlvs:=hlv p s ((hout p hpl hno (.inl hin')).trans hp)
     have hcl : (G'.cut S.lvl).le (G'.raised S' S.lvl N):=⟨(fun q g k x ho=>by
      simp only [Gh.cut] at ho
      split at ho
      ·rename_i hq; exact old hq ho
      ·cases ho),fun b o v hi=>hi,rfl⟩
     have hcr : ∀ {xs : List AV} {vs : List Value},AV.lvL S.lvl xs = true → CRel G' xs vs → CRel (G'.raised S' S.lvl N) xs vs:=fun hx hc=>⟨hc.1,fun i a v ha hv=>((hc.2 i a v ha hv).cut (AV.aL2 hx ha)).mono hcl⟩
     cases s with
     | obj g t cs =>
      obtain ⟨h1,vs,fr,h2,h3,h4⟩:=hsl
      exact ⟨h1,vs,fr,h2,h3,hcr hlvs h4⟩
     | row g k sz e cs =>
      obtain ⟨h1,vs,fr,h2,h3,h4,h5,h6,h7⟩:=hsl
      exact ⟨h1,vs,fr,h2,h3,h4,h5,h6,hcr hlvs h7⟩
     | map g es ck =>
      obtain ⟨ents,h1,h2⟩:=hsl
      refine ⟨ents,h1,?_⟩
      simp only [ab3.lv,List.all_eq_true] at hlvs
      clear h1 hp
      generalize ents.toList = ds at h2
      induction es generalizing ds with
      | nil =>
       cases ds with
       | nil=>trivial
       | cons _ _=>exact h2.elim
      | cons e r ih =>
       cases ds with
       | nil=>exact h2.elim
       | cons d t=>exact ⟨h2.1,h2.2.1,(h2.2.2.1.cut (hlvs e (List.mem_cons_self ..))).mono hcl,ih (fun x hx=>hlvs x (List.mem_cons_of_mem _ hx)) t h2.2.2.2⟩
     | tok g k sz e=>exact hsl
     | iter g s pos=>exact hsl
     | dead g k=>exact hsl
 refine ⟨⟨h'.imm,fun p s hp hl b c ho=>?_,fun p s hp=>by rw [hlvl]; exact hlv p s hp,fun p q s t hp hq hs ht b c d ho ho'=>?_,fun p g k x ho=>?_,fun p g k b c ho=>?_,
   fun l m hl hm'=>h.mono l m hl (by rw [hlvl] at hm'; exact hm'),fun l hl=>Nat.le_trans (h.fits l (by rw [hlvl] at hl; exact hl)) hm.size,by rw [show (G'.raised S' S.lvl N).far = G.far from hm.le.far]; exact h.far.1,fun x hx=>(h.far.2 x hx).imp fun _ k=>⟨hm.le.imm _ _ _ k.1,k.2⟩⟩,
  ⟨⟨fun p g k x ho=>?_,fun b o v hi=>hm.le.imm b o v hi,hm.le.far⟩,hlvl,hfn,⟨fun p=>p ∈ S'.outs S.lvl ∨ ∃ p0 g0,(p0,p,g0) ∈ N,hlog,fun b hb=>?_,fun p hp hnl=>?_,fun b o v hi=>?_⟩,hm.os,hm.tape,hm.output,hm.size⟩⟩
 ·have hpl:=(aF5 hN ho).1
  obtain ⟨p',s0,k1,k2,k3,_,k5⟩:=back p s hpl hp
  exact k5 b c (h'.slot p' s0 k1 (by rw [← k2]; exact hl) b c (k3 _ ho))
 ·have hpl:=(aF5 hN ho).1
  have hql:=(aF5 hN ho').1
  obtain ⟨p',s0,k1,k2,k3,k4,_⟩:=back p s hpl hp
  obtain ⟨q',t0,m1,m2,m3,m4,_⟩:=back q t hql hq
  have e:=h'.apart p' q' s0 t0 k1 m1 (by rw [← k2]; exact hs) (by rw [← m2]; exact ht) b c d (k3 _ ho) (m3 _ ho')
  subst e
  rcases k4 with rfl | ⟨k4,g0,k6⟩ <;> rcases m4 with m4 | ⟨m4,g1,m6⟩
  ·exact m4
  ·omega
  ·subst m4; omega
  ·exact (hN.fst _ _ _ _ _ k6 m6).1
 ·obtain ⟨hpl,hc⟩:=aF5 hN ho
  refine ⟨by rw [hlvl]; exact hpl,?_⟩
  rcases hc with ⟨hno,ho⟩ | ⟨p0,s0,hm0,rfl,hs0,rfl,_⟩
  ·obtain ⟨_,s0,hs0,hlt⟩:=h'.dom p g k x ho
   by_cases hin' : p ∈ S'.outs S.lvl
   ·obtain ⟨s',k1,k2⟩:=hin p hin' s0 hs0
    obtain ⟨m1,m2,_⟩:=bp8 k1
    exact ⟨s',k2,by rw [m1,m2]; exact hlt⟩
   ·exact ⟨s0,(hout p hpl hno (.inl hin')).trans hs0,hlt⟩
  ·obtain ⟨s',k1,k2⟩:=hnew p0 p 0 hm0 s0 hs0
   obtain ⟨m1,m2,_⟩:=bp8 k1
   exact ⟨s',k2,.inr ⟨m1.symm,by rw [m2]; exact Nat.le_refl _⟩⟩
 ·obtain ⟨hpl,hc⟩:=aF5 hN ho
  rcases hc with ⟨hno,ho⟩ | ⟨p0,s0,hm0,rfl,hs0,rfl,ho0⟩
  ·obtain ⟨h3,h4⟩:=h'.base p g k b c ho
   refine ⟨?_,h4⟩
   unfold under at h3
   rw [if_neg (by omega)] at h3
   exact h3
  ·obtain ⟨h3,h4⟩:=h'.base _ _ _ _ _ ho0
   refine ⟨?_,h4⟩
   have h1:=(h'.dom _ _ _ _ ho0).1
   have h2:=hN.deep _ _ _ hm0
   unfold under at h3
   rw [if_pos (by omega)] at h3
   rw [hN.lvl _ _ _ hm0]
   exact Nat.le_trans (h.fits _ (Nat.le_refl _)) h3
 ·exact old (h.dom p g k x ho).1 (hm.le.own _ _ _ _ ho)
 ·rcases b1 b hb with hb1 | hb1 | ⟨p,hp,g,k,c,ho⟩
  ·exact .inl hb1
  ·exact .inr (.inl (hb1.cm9 (G:=G') (H:=G'.raised S' S.lvl N) rfl fun b o v hi=>hi))
  ·by_cases hpl : p.l ≤ S.lvl
   ·exact .inr (.inr ⟨p,.inl (aw0.2 ⟨(elog p).2 hp,hpl⟩),g,k,c,old hpl ho⟩)
   ·have h1:=(h'.dom _ _ _ _ ho).1
    have h2:=(h'.base _ _ _ _ _ ho).1
    unfold under at h2
    rw [if_pos (by omega)] at h2
    omega
 ·have hno : ∀ p0 g0,(p0,p,g0) ∉ N:=fun p0 g0 hm=>hnl (.inr ⟨p0,g0,hm⟩)
  have hn : ¬ nl p:=fun e=>hnl (.inl (aw0.2 ⟨(elog p).2 e,hp⟩))
  obtain ⟨k1,k2⟩:=s1 p (Nat.le_succ_of_le hp) hn
  refine ⟨(hout p hp hno (.inl fun e=>hnl (.inl e))).trans k1,fun g k=>?_⟩
  rw [aG5 hp hno]
  exact k2 g k
 ·rcases i1 b o v hi with k | k | ⟨p,hp,g,j,c,ho⟩
  ·exact .inl k
  ·exact .inr (.inl k)
  ·by_cases hpl : p.l ≤ S.lvl
   ·exact .inr (.inr ⟨p,.inl (aw0.2 ⟨(elog p).2 hp,hpl⟩),g,j,c,old hpl ho⟩)
   ·have h1:=(h'.dom _ _ _ _ ho).1
    have h2:=(h'.base _ _ _ _ _ ho).1
    unfold under at h2
    rw [if_pos (by omega)] at h2
    exact .inr (.inl h2)
open Go.RowKit
theorem aG7 {l : Nat} {S' : AS} {N : Names} : ∀ {M : Names} {t t' : Tab},aD8 l S' N M t = some t' → (M.map (·.2.1)).Nodup → (∀ p,(∀ p0 g0,(p0,p,g0) ∉ M) → t'.get p = t.get p) ∧
  ∀ p q g,(p,q,g) ∈ M → ∀ s,S'.get p = some s → ∃ s',renS l S' N g s = some s' ∧ t'.get q = some s'
 | [],t,t',h,_=>by
  simp [aD8] at h; subst h
  exact ⟨fun _ _=>rfl,fun p q g hm=>by cases hm⟩
 | (p1,q1,g1) :: r,t,t',h,hn=>by
  simp only [List.map_cons,List.nodup_cons] at hn
  unfold aD8 at h
  split at h
  ·rename_i s1 hs1
   split at h
   ·rename_i s1' hr
    obtain ⟨k1,k2⟩:=aG7 h hn.2
    have hq1 : t'.get q1 = some s1':=by
     rw [k1 q1 fun p0 g0 hm=>hn.1 (List.mem_map.2 ⟨_,hm,rfl⟩)]
     exact Tab.aG6 _ _ _
    refine ⟨fun p hno=>?_,fun p q g hm s hs=>?_⟩
    ·rw [k1 p fun p0 g0 hm=>hno p0 g0 (List.mem_cons_of_mem _ hm)]
     exact Tab.a98 _ _ fun e=>hno p1 g1 (by rw [e]; exact List.mem_cons_self ..)
    ·rcases List.mem_cons.1 hm with e | hm
     ·cases e
      rw [hs1] at hs; cases hs
      exact ⟨s1',hr,hq1⟩
     ·exact k2 p q g hm s hs
   ·cases h
  ·cases h
theorem bX3 [Cfg] {G G' : Gh} {S S' : AS} {w w' : World} {B : Nat → Nat} {f : FuncId} {v x : AV} {u : Value} {r : Upd} (hup : Cfg.up f S.fn = true) (h : WRel G S w B) (h' : WRel G' S' w' (under S w B)) (hm : Mod G (S.enter f) w G' S' w') (hv : VRel G' v u)
  (hh : ak3 f S S' v = some (x,r)) : ∃ G2,VRel G2 x u ∧ WRel G2 (S.after r) w' B ∧ Mod G S w G2 (S.after r) w':=by
 unfold ak3 at hh
 simp only [hup,if_true] at hh
 generalize aC7 S.lvl _ _ = N at hh
 split at hh
 case isTrue=>cases hh
 rename_i hok
 have hok : aM0 S.lvl S' N = true:=by simpa using hok
 have hN:=cu8 hok
 have hnd : (N.map (·.2.1)).Nodup:=by
  simp only [aM0,Bool.and_eq_true] at hok
  exact aJ7 hok.2
 obtain ⟨nl,e1,b1,s1,i1⟩:=hm.log
 have elog : ∀ p,p ∈ S'.log ↔ nl p:=fun p=>by rw [e1]; simp [AS.enter]
 have hun : ∀ p,p.l ≤ S.lvl → p ∉ S'.outs S.lvl → S'.get p = S.get p:=fun p hp hno =>
  (s1 p (Nat.le_succ_of_le hp) fun e=>hno (aw0.2 ⟨(elog p).2 e,hp⟩)).1
 split at hh
 case h_2=>cases hh
 rename_i v' hv'
 have hvr:=br3 h' hN hv' hv
 have two : (S'.outs S.lvl = [] ∧ N = [] ∧ x = v' ∧ r = none) ∨ (∃ t t2,ax8 (fun _ s=>renS S.lvl S' N s.gen s) S' (S'.outs S.lvl) S.tab = some t ∧ aD8 S.lvl S' N N t = some t2 ∧ x = v' ∧ r = some (t2,S'.outs S.lvl ++ N.map fun x=>x.2.1)):=by
  cases ho : S'.outs S.lvl with
  | nil =>
   cases N with
   | nil =>
    rw [ho] at hh
    simp only [Option.some.injEq,Prod.mk.injEq] at hh
    exact .inl ⟨rfl,rfl,hh.1.symm,hh.2.symm⟩
   | cons n N =>
    rw [ho] at hh
    simp only at hh
    split at hh
    ·rename_i t ht
     split at hh
     ·rename_i t2 ht2
      simp only [Option.some.injEq,Prod.mk.injEq] at hh
      exact .inr ⟨t,t2,ht,ht2,hh.1.symm,hh.2.symm⟩
     ·cases hh
    ·cases hh
  | cons o os =>
   rw [ho] at hh
   simp only at hh
   split at hh
   ·rename_i t ht
    split at hh
    ·rename_i t2 ht2
     simp only [Option.some.injEq,Prod.mk.injEq] at hh
     exact .inr ⟨t,t2,ht,ht2,hh.1.symm,hh.2.symm⟩
    ·cases hh
   ·cases hh
 rcases two with ⟨ho,rfl,rfl,rfl⟩ | ⟨t,t2,ht,ht2,rfl,rfl⟩
 ·have hno : ∀ p,p ∉ S'.outs S.lvl:=fun p=>by rw [ho]; simp
  refine ⟨_,hvr,h.b61 (S2:=S) h' hm hN rfl rfl (fun p hp=>absurd hp (hno p)) (fun p q g hm=>by cases hm) (fun p hp _ _=>(hun p hp (hno p)).symm) h.lvs (fun p=>⟨.inl,fun e=>e.elim id fun e=>e.elim (fun e=>absurd e (hno p)) fun ⟨_,_,e⟩=>by cases e⟩)⟩
 ·
  have hget:=az7 ht
  obtain ⟨r1,r2⟩:=aG7 ht2 hnd
  have hq : ∀ {p s},S'.get p = some s → ∀ p0 g0,(p0,p,g0) ∉ N:=fun hs p0 g0 hm=>by rw [hN.new _ _ _ hm] at hs; cases hs
  refine ⟨_,hvr,h.b61 (S2:=S.after (some (t2,S'.outs S.lvl ++ N.map fun x=>x.2.1))) h' hm hN rfl rfl (fun p hp s hs=>?_) (fun p q g hm s hs=>r2 p q g hm s hs) (fun p hp hno hc=>?_) (fun p s hp=>?_) (fun p=>?_)⟩
  ·obtain ⟨s0,s',h0,hs',hg⟩:=(hget p).2 hp
   rw [hs] at h0; cases h0
   refine ⟨s',hs',?_⟩
   show t2.get p = _
   rw [r1 p (hq hs)]
   exact hg
  ·show t2.get p = _
   rw [r1 p hno]
   by_cases hin : p ∈ S'.outs S.lvl
   ·obtain ⟨s0,s',h0,_⟩:=(hget p).2 hin
    rcases hc with hc | hc
    ·exact absurd hin hc
    ·rw [hc] at h0; cases h0
   ·rw [(hget p).1 hin]
    exact (hun p hp hin).symm
  ·have hp' : t2.get p = some s:=hp
   by_cases hex : ∃ p0 g0,(p0,p,g0) ∈ N
   ·obtain ⟨p0,g0,hm0⟩:=hex
    obtain ⟨s0,hs0,_⟩:=hN.slot _ _ _ hm0
    obtain ⟨s',k1,k2⟩:=r2 p0 p g0 hm0 s0 hs0
    rw [hp'] at k2
    cases k2
    exact cG4 hN k1
   ·rw [r1 p fun p0 g0 hm=>hex ⟨p0,g0,hm⟩] at hp'
    by_cases hin : p ∈ S'.outs S.lvl
    ·obtain ⟨s0,s',h0,hs',hg⟩:=(hget p).2 hin
     rw [hp'] at hg; cases hg
     exact cG4 hN hs'
    ·rw [(hget p).1 hin] at hp'
     exact h.lvs p s hp'
  ·show p ∈ aH7 _ _ ↔ _
   rw [aB3,List.mem_append]
   refine or_congr Iff.rfl (or_congr Iff.rfl ?_)
   rw [List.mem_map]
   exact ⟨fun ⟨⟨p0,q,g0⟩,hm,e⟩=>⟨p0,g0,by rw [← e]; exact hm⟩,fun ⟨p0,g0,hm⟩=>⟨(p0,p,g0),hm,rfl⟩⟩
theorem aQ9 [Cfg] {G G' : Gh} {S S' : AS} {w w' : World} {B : Nat → Nat} {f : FuncId} {v x : AV} {u : Value} {r : Upd} (h : WRel G S w B) (h' : WRel G' S' w' (under S w B)) (hm : Mod G (S.enter f) w G' S' w') (hv : VRel G' v u)
  (hh : ak3 f S S' v = some (x,r)) : ∃ G2,VRel G2 x u ∧ WRel G2 (S.after r) w' B ∧ Mod G S w G2 (S.after r) w':=by
 cases hup : Cfg.up f S.fn with
 | true=>exact bX3 hup h h' hm hv hh
 | false=>exact bW6 hup h h' hm hv hh
theorem aW6 [Cfg] {S S' : AS} {f : FuncId} {v x : AV} {t : Tab} {l : List Loc} (hh : ak3 f S S' v = some (x,some (t,l))) : ∀ p,p ∉ l → t.get p = S.tab.get p:=by
 unfold ak3 at hh
 simp only at hh
 split at hh
 ·generalize aC7 S.lvl _ _ = N at hh
  split at hh
  case isTrue=>cases hh
  rename_i hok
  have hok : aM0 S.lvl S' N = true:=by simpa using hok
  have hnd : (N.map (·.2.1)).Nodup:=by
   simp only [aM0,Bool.and_eq_true] at hok
   exact aJ7 hok.2
  split at hh
  case h_2=>cases hh
  have fin : ∀ t1 t2,ax8 (fun _ s=>renS S.lvl S' N s.gen s) S' (S'.outs S.lvl) S.tab = some t1 → aD8 S.lvl S' N N t1 = some t2 → ∀ p,p ∉ (S'.outs S.lvl ++ N.map fun x=>x.2.1) → t2.get p = S.tab.get p:=by
   intro t1 t2 h1 h2 p hp
   rw [List.mem_append,not_or] at hp
   rw [(aG7 h2 hnd).1 p fun p0 g0 hm=>hp.2 (List.mem_map.2 ⟨_,hm,rfl⟩),((az7 h1) p).1 hp.1]
  cases ho : S'.outs S.lvl with
  | nil =>
   rw [ho] at fin
   cases N with
   | nil =>
    rw [ho] at hh
    simp at hh
   | cons n N =>
    rw [ho] at hh
    simp only at hh
    split at hh
    ·rename_i t1 ht
     split at hh
     ·rename_i t2 ht2
      simp only [Option.some.injEq,Prod.mk.injEq] at hh
      obtain ⟨_,rfl,rfl⟩:=hh
      exact fin _ _ ht ht2
     ·cases hh
    ·cases hh
  | cons o os =>
   rw [ho] at fin hh
   simp only at hh
   split at hh
   ·rename_i t1 ht
    split at hh
    ·rename_i t2 ht2
     simp only [Option.some.injEq,Prod.mk.injEq] at hh
     obtain ⟨_,rfl,rfl⟩:=hh
     exact fin _ _ ht ht2
    ·cases hh
   ·cases hh
 ·split at hh
  case h_2=>cases hh
  split at hh
  ·cases hh
  ·split at hh
   case h_2=>cases hh
   rename_i t1 ht
   cases hh
   exact fun p hp=>((az7 ht) p).1 hp
end Go.Proofs.YtdcfkmgnkhkoeaaGreatDoor
