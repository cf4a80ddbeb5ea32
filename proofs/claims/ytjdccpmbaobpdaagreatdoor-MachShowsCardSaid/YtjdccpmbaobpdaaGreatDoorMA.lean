/-
  A machine of plain values, second form: what it knows, and what it does. (No proofs here.) A machine of plain values, second form: what it says of a world. A machine of plain values, second form: what a change of the store does to the world's reading. A machine of plain values, second form: what its operations say of the program's. A machine of plain values, second form: what its operations say of the program's (building, parts, slices). A machine of plain values, second form: what its operations say of the program's (places, slices, appends), and all of them. A machine of plain values, second
-/
import Derived.WalkKit
import Derived.Handy
import Derived.Maps.AppendAt
import Derived.Laws.AppendOwnNone
import Derived.StillTail
import Derived.Deep.Quiet
import Derived.Lib.Hide
import Derived.LoopN
import Derived.Recover
import Derived.Laws.CopyRow
namespace Go.Proofs.YtjdccpmbaobpdaaGreatDoor
open Go.RowKit

structure Loc where
  l : Nat
  k : Nat
  i : Nat
  deriving DecidableEq

/-- What is known of the room behind a slice whose elements stay. -/
inductive Spare where
  | no
  | full
  | own (p : Loc) (g : Nat)

/-- What is known of the room behind a slice of a row that is written to. -/
inductive Room where
  | no
  | full
  | room

inductive AV where
  | lit (v : Value)
  | agg (cs : List AV)
  | tup (cs : List AV)
  | ptr (p : Loc) (g n off : Nat)
  | cref (cs : List AV)
  | list (sp : Spare) (sz : Nat) (es : List (List AV))
  | row (sp : Room) (p : Loc) (g n off len sz : Nat)
  | mref (p : Loc) (g : Nat)
  | iface (t : TypeId) (a : AV)
  | fn (f : FuncId) (cs : List AV)

/-! ### The store -/
structure AEntry where
  key : Value
  val : AV
  born : Nat

inductive ASlot where
  | obj (g : Nat) (t : TypeId) (cs : List AV)
  | tok (g n sz : Nat) (e : TypeId)
  | row (g n sz : Nat) (e : TypeId) (cs : List AV)
  | map (g : Nat) (es : List AEntry) (clock : Nat)
  | iter (g : Nat) (s : ByteArray) (pos : Nat)
  | dead (g n : Nat)
def ASlot.gen : ASlot → Nat
  | .obj g _ _ => g
  | .tok g _ _ _ => g
  | .row g _ _ _ _ => g
  | .map g _ _ => g
  | .iter g _ _ => g
  | .dead g _ => g
def ASlot.ext : ASlot → Nat
  | .obj _ _ _ => 0
  | .tok _ n _ _ => n
  | .row _ n _ _ _ => n
  | .map _ _ _ => 0
  | .iter _ _ _ => 0
  | .dead _ n => n
def ASlot.live : ASlot → Bool
  | .dead _ _ => false
  | _ => true

def Loc.before (p q : Loc) : Bool := decide (p.l < q.l) || (decide (p.l = q.l) && (decide (p.k < q.k) || (decide (p.k = q.k) && decide (p.i < q.i))))

abbrev Tab := List (Loc × ASlot)
def Tab.get : Tab → Loc → Option ASlot
  | [], _ => none
  | (q, s) :: r, p => if q = p then some s else Tab.get r p
/-- Laid in order. -/
def Tab.put : Tab → Loc → ASlot → Tab
  | [], p, s => [(p, s)]
  | (q, t) :: r, p, s => if q = p then (p, s) :: r else if q.before p then (q, t) :: Tab.put r p s else (p, s) :: (q, t) :: r
def Tab.cut (l : Nat) : Tab → Tab
  | [] => []
  | (q, s) :: r => if q.l ≤ l then (q, s) :: Tab.cut l r else Tab.cut l r
def logPut : List Loc → Loc → List Loc
  | [], p => [p]
  | q :: r, p => if q = p then q :: r else if q.before p then q :: logPut r p else p :: q :: r

def mergeLog : List Loc → List Loc → List Loc
  | l, [] => l
  | l, p :: r => mergeLog (logPut l p) r

structure AS where
  lvl : Nat
  fn : FuncId
  tab : Tab
  log : List Loc
  dfr : List (FuncId × List AV)
abbrev Upd := Option (Tab × List Loc)
inductive AE where
  | ret (v : AV)
  | pan (v : AV)
/-- Which rows are written to, by the operations that make them; what is handed up as it is (of which function, to which one); what is told of functions of which no body is walked; cells of the program's tables. -/
class Cfg where
  live : FuncId → Tmp → Bool
  up : FuncId → FuncId → Bool
  same : FuncId → Bool
  given : FuncId → Option (List AV → AS → Option (AE × Upd))
  tabs : List (Nat × Nat × Value) := []

def AS.get (S : AS) (p : Loc) : Option ASlot := S.tab.get p
def AS.set (S : AS) (p : Loc) (s : ASlot) : AS := { S with tab := S.tab.put p s, log := logPut S.log p }
def AS.fresh (S : AS) (p : Loc) : Nat := match S.get p with
  | none => 0
  | some s => s.gen + 1
def AS.here (S : AS) (d : Tmp) : Loc := ⟨S.lvl, d, 0⟩

/-! ### Values -/
mutual
/-- A value outright. -/
def AV.toV : AV → Option Value
  | .lit v => some v
  | .agg cs => (AV.toVL cs).map fun vs => .agg vs.toArray
  | .tup cs => (AV.toVL cs).map fun vs => .tuple vs.toArray
  | .iface t a => (AV.toV a).map (.iface t)
  | _ => none
def AV.toVL : List AV → Option (List Value)
  | [] => some []
  | a :: r => match AV.toV a, AV.toVL r with
    | some v, some vs => some (v :: vs)
    | _, _ => none
end

def Spare.closed : Spare → Bool
  | .own _ _ => false
  | _ => true
mutual
/-- Names nothing of the store. -/
def AV.closed : AV → Bool
  | .lit _ => true
  | .agg cs => AV.closedL cs
  | .tup cs => AV.closedL cs
  | .cref cs => AV.closedL cs
  | .fn _ cs => AV.closedL cs
  | .iface _ a => a.closed
  | .list sp _ es => sp.closed && AV.closedLL es
  | _ => false
def AV.closedL : List AV → Bool
  | [] => true
  | a :: r => a.closed && AV.closedL r
def AV.closedLL : List (List AV) → Bool
  | [] => true
  | e :: r => AV.closedL e && AV.closedLL r
end
def Spare.lv (l : Nat) : Spare → Bool
  | .own p _ => decide (p.l ≤ l)
  | _ => true
mutual
/-- Names nothing that is deeper than this level. -/
def AV.lv (l : Nat) : AV → Bool
  | .lit _ => true
  | .agg cs => AV.lvL l cs
  | .tup cs => AV.lvL l cs
  | .ptr p _ _ _ => decide (p.l ≤ l)
  | .cref cs => AV.lvL l cs
  | .list sp _ es => sp.lv l && AV.lvLL l es
  | .row _ p _ _ _ _ _ => decide (p.l ≤ l)
  | .mref p _ => decide (p.l ≤ l)
  | .iface _ a => a.lv l
  | .fn _ cs => AV.lvL l cs
def AV.lvL (l : Nat) : List AV → Bool
  | [] => true
  | a :: r => a.lv l && AV.lvL l r
def AV.lvLL (l : Nat) : List (List AV) → Bool
  | [] => true
  | e :: r => AV.lvL l e && AV.lvLL l r
end
def ASlot.lv (l : Nat) : ASlot → Bool
  | .obj _ _ cs => AV.lvL l cs
  | .row _ _ _ _ cs => AV.lvL l cs
  | .map _ es _ => es.all fun e => e.val.lv l
  | _ => true

/-- A slice whose room is forgotten. -/
def AV.norm1 : AV → AV
  | .list _ sz es => .list .no sz es
  | a => a
def AV.normA : AV → AV
  | .agg cs => .agg (cs.map AV.norm1)
  | a => a.norm1

def AV.cells : AV → List AV
  | .lit v => v.cells.toList.map AV.lit
  | .agg cs => cs
  | a => [a]
def AV.one : AV → Bool
  | .lit v => v.oneCell'
  | .agg _ | .tup _ => false
  | _ => true

def AV.ofV1 : Value → AV
  | .agg cs => .agg (cs.toList.map .lit)
  | v => .lit v
def AV.ofV : Value → AV
  | .agg cs => .agg (cs.toList.map .lit)
  | .tuple vs => .tup (vs.toList.map AV.ofV1)
  | v => .lit v

/-! ### Operations -/
/-- What is reckoned without memory. -/
def evalPure (P : Program) {α : Type} : Sem α → Option α
  | .pure a => some a
  | .program k => evalPure P (k P)
  | .mark _ k => evalPure P k
  | _ => none

abbrev TM := List AV
def aev (T : TM) : Operand → AV
  | .tmp t => T.getD t (.lit undef)
  | .const v => AV.ofV v
  | .global g => .lit (.pointer (some ⟨g, 0, none⟩))
  | .func f => .lit (.func (.func f) #[] #[])
def TM.put (T : TM) (d : Option Tmp) (v : AV) : TM := match d with
  | some d => T.set d v
  | none => T
def ayielded (ops : Array Oper) (T : TM) (j : Nat) : Option Bool :=
  match ((ops[j]?).bind (·.dst)).bind (T[·]?) with
  | some (.lit (.bool b)) => some b
  | _ => none

inductive AR where
  | val (v : AV)
  | chg (v : AV) (p : Loc) (s : ASlot)
  | call (f : FuncId) (args : List AV)
  | pan (v : AV)
  | dfr (f : FuncId) (args : List AV)

def notSelect : Op → Bool
  | .select .. => false
  | _ => true

/-- What all of whose operands are known outright. -/
def pureOp (P : Program) (ρ : Operand → AV) (o : Oper) : Option AR :=
  if notSelect o.op && o.op.operands.all (fun x => (ρ x).toV.isSome) then
    match evalPure P (execOp (fun x => ((ρ x).toV).getD undef) o) with
    | some (.value v) => some (.val (AV.ofV v))
    | _ => none
  else none

def isAggD : TypeDesc → Bool
  | .struct _ | .array _ _ => true
  | _ => false

/-- The cells of an object, or of a row. -/
def AS.cellsAt (S : AS) (p : Loc) (g n : Nat) : Option (List AV) := match S.get p with
  | some (.obj g' _ cs) => if g' = g ∧ n = 0 then some cs else none
  | some (.row g' n' _ _ cs) => if g' = g ∧ n' = n then some cs else none
  | _ => none
def ASlot.withCells (cs : List AV) : ASlot → ASlot
  | .obj g t _ => .obj g t cs
  | .row g n sz e _ => .row g n sz e cs
  | s => s

def aread (S : AS) : AV → Option (List AV)
  | .ptr p g n off => (S.cellsAt p g n).map (·.drop off)
  | .cref cs => some cs
  | _ => none

def aload (P : Program) (S : AS) (t : TypeId) (a : AV) : Option AV :=
  match aread S a, P.underlying t, P.info? t with
  | some cs, some d, some i => if isAggD d then (if i.size ≤ cs.length then some (.agg (cs.take i.size)) else none) else cs.head?
  | _, _, _ => none

def splice (cs : List AV) (off : Nat) (xs : List AV) : List AV := cs.take off ++ xs ++ cs.drop (off + xs.length)

/-- Cells are written over. -/
def AS.write (S : AS) (p : Loc) (g n off : Nat) (ys : List AV) : Option (Loc × ASlot) :=
  match S.cellsAt p g n, S.get p with
  | some cs, some s => if off + ys.length ≤ cs.length ∧ ys.all AV.one = true then some (p, s.withCells (splice cs off ys)) else none
  | _, _ => none

def astore (P : Program) (S : AS) (t : TypeId) (a x : AV) : Option (Loc × ASlot) :=
  match a, P.info? t with
  | .ptr p g n off, some i => if x.cells.length = i.size then S.write p g n off x.cells else none
  | _, _ => none

def apart' (P : Program) (t : TypeId) (cs : List AV) (off : Nat) : Option AV :=
  match P.underlying t, P.info? t with
  | some d, some i => if isAggD d then (if off + i.size ≤ cs.length then some (.agg ((cs.drop off).take i.size)) else none) else cs[off]?
  | _, _ => none

def afill (place : Nat → Option (Nat × Nat)) : List AV → List (Nat × AV) → Option (List AV)
  | cs, [] => some cs
  | cs, (i, v) :: rest => match place i with
    | some (off, size) => if v.cells.length = size ∧ off + size ≤ cs.length then afill place (splice cs off v.cells) rest else none
    | none => none

def aplaces (P : Program) (fields : Array Field) : Option (List (Nat × Nat)) :=
  if fields.toList.all (fun f => (P.info? f.type).isSome) then some (fields.toList.map fun f => (f.offset, ((P.info? f.type).map (·.size)).getD 0)) else none

def abuild (P : Program) (t : TypeId) (parts : List (Nat × AV)) : Option AV :=
  match P.underlying t, (P.info? t).bind (·.zero) with
  | some (.struct fields), some z => match aplaces P fields with
    | some pl => (afill (pl[·]?) (z.cells.toList.map .lit) parts).map .agg
    | none => none
  | some (.array _ elem), some z => match P.info? elem with
    | some i => (afill (fun j => some (j * i.size, i.size)) (z.cells.toList.map .lit) parts).map .agg
    | none => none
  | _, _ => none

def abuildSlice (P : Program) (S : AS) [Cfg] (d : Option Tmp) (t : TypeId) (len : Nat) (parts : List (Nat × AV)) : Option AR :=
  match P.underlying t, d with
  | some (.slice elem), some d => match P.info? elem with
    | some i => match i.zero with
      | some z => if z.cells.size = i.size ∧ 0 < i.size ∧ len * i.size ≤ 2 ^ 24 ∧ parts.map Prod.fst = List.range len ∧ parts.all (fun p => p.2.cells.length == i.size) = true ∧ parts.all (fun p => p.2.cells.all AV.one) = true then
          (if Cfg.live S.fn d then some (.chg (.row .room (S.here d) (S.fresh (S.here d)) len 0 len i.size) (S.here d) (.row (S.fresh (S.here d)) len i.size elem (parts.flatMap fun p => p.2.cells)))
           else some (.val (.list .full i.size (parts.map fun p => p.2.cells)))) else none
      | none => none
    | none => none
  | _, _ => none

def afieldAddr (P : Program) (s : TypeId) (a : AV) (f : Nat) : Option AV :=
  match P.underlying s with
  | some (.struct fields) => match fields[f]? with
    | some fd => if ((P.info? fd.type).map (·.size)).getD 0 = 0 then none else match a with
      | .ptr p g n off => some (.ptr p g n (off + fd.offset))
      | .cref cs => some (.cref (cs.drop fd.offset))
      | _ => none
    | none => none
  | _ => none

def afield (P : Program) (s : TypeId) (a : AV) (f : Nat) : Option AV :=
  match P.underlying s, a with
  | some (.struct fields), .agg cs => match fields[f]? with
    | some fd => apart' P fd.type cs fd.offset
    | none => none
  | _, _ => none

def aindexAddr (P : Program) (t : TypeId) (a x : AV) : Option AV :=
  match P.underlying t, a, x with
  | some (.slice elem), .list _ sz es, .lit (.int _ i) => if 0 ≤ i ∧ (P.info? elem).map (·.size) = some sz then (es[i.toNat]?).map .cref else none
  | some (.slice elem), .row _ p g n off len sz, .lit (.int _ i) => if 0 ≤ i ∧ (P.info? elem).map (·.size) = some sz ∧ i.toNat < len then some (.ptr p g n (off + i.toNat * sz)) else none
  | some (.array len elem), a, .lit (.int _ i) => match P.info? elem with
    | some inf => if 0 ≤ i ∧ i < len then match a with
        | .ptr p g n off => some (.ptr p g n (off + i.toNat * inf.size))
        | .cref cs => some (.cref (cs.drop (i.toNat * inf.size)))
        | _ => none
      else none
    | none => none
  | _, _, _ => none

def aindex (P : Program) (t : TypeId) (a x : AV) : Option AV :=
  match P.underlying t, a, x with
  | some (.array len elem), .agg cs, .lit (.int _ i) => match P.info? elem with
    | some inf => if 0 ≤ i ∧ i < len then apart' P elem cs (i.toNat * inf.size) else none
    | none => none
  | _, _, _ => none

/-- A bound of a slice expression. -/
def abound (d : Nat) : Option AV → Option Nat
  | none => some d
  | some (.lit (.int _ i)) => if 0 ≤ i then some i.toNat else none
  | _ => none

def Room.cut (sp : Room) (isMax m h l : Nat) : Room := if isMax = 1 then (if m = h then .full else .no) else if h = l ∧ 0 < l then .no else match sp with
  | .room => .room
  | _ => .no

def aslice (P : Program) (t : TypeId) (a : AV) (lo hi mx : Option AV) : Option AV :=
  match P.underlying t, a with
  | some (.slice elem), .list sp sz es =>
    match abound 0 lo, abound es.length hi, abound es.length mx with
    | some l, some h, some m =>
      if (P.info? elem).map (·.size) = some sz ∧ l ≤ h ∧ h ≤ m ∧ m ≤ es.length ∧ (mx.isSome → hi.isSome) then
        some (.list (if mx.isSome then (if m = h then .full else .no) else if l = 0 ∧ h = es.length then sp else .no) sz ((es.drop l).take (h - l))) else none
    | _, _, _ => none
  | some (.slice elem), .row sp p g n off len sz =>
    match abound 0 lo, abound len hi, abound len mx with
    | some l, some h, some m =>
      if (P.info? elem).map (·.size) = some sz ∧ l ≤ h ∧ h ≤ m ∧ m ≤ len ∧ (mx.isSome → hi.isSome) then
        some (if h = l ∧ mx.isSome ∧ m = h then .list .full sz [] else .row (sp.cut (if mx.isSome then 1 else 0) m h l) p g n (off + l * sz) (h - l) sz) else none
    | _, _, _ => none
  | some (.array len elem), .ptr p g n off => match P.info? elem, abound 0 lo, abound len hi, abound len mx with
    | some i, some l, some h, some m => if l ≤ h ∧ h ≤ m ∧ m ≤ len ∧ len ≤ maxLen ∧ (mx.isSome → hi.isSome) then some (.row .no p g n (off + l * i.size) (h - l) i.size) else none
    | _, _, _, _ => none
  | _, _ => none

def anil : AV → Option AV
  | .ptr p g n off => some (.ptr p g n off)
  | .cref cs => some (.cref cs)
  | .fn f cs => some (.fn f cs)
  | .iface t a => some (.iface t a)
  | _ => none

def isIfaceD : TypeDesc → Bool
  | .interface _ => true
  | _ => false

def aassert (P : Program) (asserted : TypeId) (commaOk : Bool) : AV → Option AV
  | .iface t a => match P.underlying asserted with
    | some d => if isIfaceD d then none else if t = asserted then some (if commaOk then .tup [a, .lit (.bool true)] else a) else
        if commaOk then ((P.info? asserted).bind (·.zero)).map fun z => .tup [AV.ofV1 z, .lit (.bool false)] else none
    | none => none
  | _ => none

/-- Of a value that stands, and nil of its kind. -/
def nilFits : TypeDesc → AV → Value → Bool
  | .slice _, .list .., .slice none _ _ => true
  | .slice _, .row .., .slice none _ _ => true
  | .map _ _, .mref .., .map none => true
  | .interface _, .iface .., .nilIface => true
  | .pointer _, .ptr .., .pointer none => true
  | .pointer _, .cref _, .pointer none => true
  | .func _ _ _, .fn .., .nilFunc => true
  | _, _, _ => false
/-- Whether both are the same. -/
def aequal (P : Program) (t : TypeId) (a b : AV) : Option Bool :=
  match P.underlying t, b with
  | some d, .lit v => if nilFits d a v then some false else none
  | some (.pointer e), .ptr p g n off => match a with
    | .ptr p' g' n' off' => if p' = p ∧ g' = g ∧ n' = n ∧ ((P.info? e).map (·.size)).getD 0 ≠ 0 then some (decide (off' = off)) else none
    | .lit (.pointer none) => some false
    | _ => none
  | _, _ => none
/-- What is compared with nil, or with a pointer. -/
def acmp (P : Program) (op : BinOp) (t : TypeId) (a b : AV) : Option AV :=
  match op with
  | .eql => (aequal P t a b).map fun z => .lit (.bool z)
  | .neq => (aequal P t a b).map fun z => .lit (.bool !z)
  | _ => none

def chunks (sz : Nat) : Nat → List AV → List (List AV)
  | 0, _ => []
  | n + 1, cs => cs.take sz :: chunks sz n (cs.drop sz)

/-- A slice's elements. -/
def aelems (S : AS) (sz : Nat) : AV → Option (List (List AV))
  | .list _ sz' es => if sz' = sz then some es else none
  | .row _ p g n off len sz' => match S.cellsAt p g n with
    | some cs => if sz' = sz ∧ off + len * sz ≤ cs.length then some (chunks sz len (cs.drop off)) else none
    | none => none
  | .lit (.slice _ 0 0) => some []
  | .lit (.string s) => if sz = 1 then some (s.data.toList.map fun b => [.lit (.int .u8 b.toNat)]) else none
  | _ => none

/-- A row that is made anew, of elements. -/
def anewRow [Cfg] (S : AS) (d : Tmp) (e : TypeId) (sz : Nat) (es : List (List AV)) : AR :=
  if Cfg.live S.fn d then .chg (.row .room (S.here d) (S.fresh (S.here d)) es.length 0 es.length sz) (S.here d) (.row (S.fresh (S.here d)) es.length sz e es.flatten)
  else .chg (.list (.own (S.here d) (S.fresh (S.here d))) sz es) (S.here d) (.tok (S.fresh (S.here d)) es.length sz e)

def aappend [Cfg] (P : Program) (S : AS) (d : Option Tmp) (t : TypeId) (s x : AV) : Option AR :=
  match P.underlying t, d with
  | some (.slice e), some d => match P.info? e with
    | some i => match i.zero with
      | some z => match aelems S i.size x with
        | some news =>
          if z.cells.size = i.size ∧ 0 < i.size ∧ news.all (fun e => e.all AV.one) = true then
            if news.length = 0 then (match s with
              | .lit (.slice _ 0 0) => some (.val s)
              | .list .. => some (.val s)
              | .row .. => some (.val s)
              | _ => none) else
            match s with
            | .lit (.slice _ 0 0) => if news.length ≤ maxLen ∧ news.length * i.bytes ≤ 140737488355328 then some (anewRow S d e i.size news) else none
            | .list .full sz es => if sz = i.size ∧ es.length + news.length ≤ maxLen ∧ (es.length + news.length) * i.bytes ≤ 140737488355328 then
                some (anewRow S d e i.size (es ++ news)) else none
            | .list (.own p g) sz es => match S.get p with
              | some (.tok g' n sz' e') => if g' = g ∧ n = es.length ∧ sz' = i.size ∧ e' = e ∧ sz = i.size ∧ es.length + news.length ≤ maxLen ∧ (es.length + news.length) * i.bytes ≤ 140737488355328 then
                  some (.chg (.list (.own p g) i.size (es ++ news)) p (.tok g (es.length + news.length) i.size e)) else none
              | _ => none
            | .row .room p g n off len sz => match S.get p with
              | some (.row g' n' sz' e' cs) => if g' = g ∧ n' = n ∧ sz' = i.size ∧ e' = e ∧ sz = i.size ∧ off = 0 ∧ cs.length = n * i.size then
                  (if len + news.length ≤ n then some (.chg (.row .room p g n 0 (len + news.length) sz) p (.row g n sz e (splice cs (len * sz) news.flatten)))
                   else if len = n ∧ n + news.length ≤ maxLen ∧ (n + news.length) * i.bytes ≤ 140737488355328 then
                     some (.chg (.row .room p g (n + news.length) 0 (n + news.length) sz) p (.row g (n + news.length) sz e (cs ++ news.flatten)))
                   else none) else none
              | _ => none
            | .row .full p g n off len sz => match aelems S i.size s with
              | some es => if sz = i.size ∧ es.length + news.length ≤ maxLen ∧ (es.length + news.length) * i.bytes ≤ 140737488355328 then some (anewRow S d e i.size (es ++ news)) else none
              | none => none
            | _ => none
          else none
        | none => none
      | none => none
    | none => none
  | _, _ => none

def alen (P : Program) (S : AS) (t : TypeId) (x : AV) : Option AV :=
  match P.underlying t, x with
  | some (.slice _), .list _ _ es => some (.lit (.int .i64 es.length))
  | some (.slice _), .row _ _ _ _ _ len _ => some (.lit (.int .i64 len))
  | some (.array n _), _ => some (.lit (.int .i64 n))
  | some (.map _ _), .mref p g => match S.get p with
    | some (.map g' es _) => if g' = g then some (.lit (.int .i64 es.length)) else none
    | _ => none
  | _, _ => none

def aappendC [Cfg] (P : Program) (S : AS) (d : Option Tmp) : List AV → List TypeId → Option AR
  | [s, x], [t, u] => match P.underlying u with
    | some (.slice _) => aappend P S d t s x
    | some .string => aappend P S d t s x
    | _ => none
  | _, _ => none
def alenC (P : Program) (S : AS) : List AV → List TypeId → Option AR
  | [x], [t] => (alen P S t x).map .val
  | _, _ => none

def acopyC (P : Program) (S : AS) : List AV → List TypeId → Option AR
  | [d, x], t :: _ => match P.underlying t with
    | some (.slice e) => match P.info? e with
      | some i => match aelems S i.size x with
        | some es => match d with
          | .row _ p g n off len sz => if sz = i.size ∧ 0 < i.size then (S.write p g n off (es.take len).flatten).map fun y => .chg (.lit (.int .i64 (min es.length len))) y.1 y.2 else none
          | _ => none
        | none => none
      | none => none
    | _ => none
  | _, _ => none

def amakeSlice [Cfg] (P : Program) (S : AS) (d : Option Tmp) (t : TypeId) (l c : AV) : Option AR :=
  match P.underlying t, d, l, c with
  | some (.slice e), some d, .lit (.int _ l), .lit (.int _ c) => match P.info? e with
    | some i => match i.zero with
      | some z => if z.cells.size = i.size ∧ 0 < i.size ∧ 0 ≤ l ∧ l ≤ c ∧ c ≤ 1000000 ∧ c * i.bytes ≤ 140737488355328 then
          (if l = 0 ∧ Cfg.live S.fn d = false then some (.chg (.list (.own (S.here d) (S.fresh (S.here d))) i.size []) (S.here d) (.tok (S.fresh (S.here d)) 0 i.size e))
           else some (.chg (.row .room (S.here d) (S.fresh (S.here d)) l.toNat 0 l.toNat i.size) (S.here d) (.row (S.fresh (S.here d)) l.toNat i.size e (List.replicate l.toNat (z.cells.toList.map AV.lit)).flatten)))
        else none
      | none => none
    | none => none
  | _, _, _, _ => none

/-! maps -/
def afind (P : Program) (kt : TypeId) (empty : Bool) (k : Value) (ks : List Value) : Option (Option Nat) :=
  match evalPure P (Instr.checkKey empty 10000 kt k), evalPure P (Instr.findKey kt k (ks.map fun x => ⟨x, undef, 0⟩)) with
  | some (), some r => some (r.map Prod.fst)
  | _, _ => none

def alookup (P : Program) (S : AS) (t : TypeId) (m k : AV) (ok : Bool) : Option AV :=
  match P.underlying t, k.toV with
  | some (.map kt vt), some k => match (match m with
      | .lit (.map none) => some []
      | .mref p g => match S.get p with
        | some (.map g' es _) => if g' = g then some es else none
        | _ => none
      | _ => none : Option (List AEntry)) with
    | some es => match afind P kt es.isEmpty k (es.map (·.key)), (P.info? vt).bind (·.zero) with
      | some r, some z => match r with
        | some i => (es[i]?).map fun e => if ok then .tup [e.val, .lit (.bool true)] else e.val
        | none => some (if ok then .tup [AV.ofV1 z, .lit (.bool false)] else AV.ofV1 z)
      | _, _ => none
    | none => none
  | _, _ => none

def amapUpdate (P : Program) (S : AS) (t : TypeId) (m k x : AV) : Option AR :=
  match P.underlying t, m, k.toV with
  | some (.map kt _), .mref p g, some k => match S.get p with
    | some (.map g' es ck) => if g' = g then match afind P kt false k (es.map (·.key)) with
        | some (some i) => match es[i]? with
          | some e => if Instr.sameBits 10000 e.key k then some (.chg (.lit undef) p (.map g (es.set i ⟨k, x, e.born⟩) ck)) else none
          | none => none
        | some none => some (.chg (.lit undef) p (.map g (es ++ [⟨k, x, ck⟩]) (ck + 1)))
        | none => none
      else none
    | _ => none
  | _, _, _ => none

def amapEntry (P : Program) (S : AS) (t : TypeId) (m k : AV) : Option AR :=
  match P.underlying t, m, k.toV with
  | some (.map kt vt), .mref p g, some k => match S.get p, (P.info? vt).bind (·.zero) with
    | some (.map g' es ck), some z => if g' = g then match afind P kt false k (es.map (·.key)) with
        | some (some i) => match es[i]? with
          | some e => if Instr.sameBits 10000 e.key k then (if afind P kt false k (List.map AEntry.key (es.set i ⟨k, e.val, e.born⟩)) = some (some i) then some (.chg (.tup [e.val, .lit (.int .i64 e.born)]) p (.map g (es.set i ⟨k, e.val, e.born⟩) ck)) else none) else none
          | none => none
        | some none => if afind P kt false k (List.map AEntry.key (es ++ [⟨k, AV.ofV1 z, ck⟩])) = some (some es.length) then some (.chg (.tup [AV.ofV1 z, .lit (.int .i64 ck)]) p (.map g (es ++ [⟨k, AV.ofV1 z, ck⟩]) (ck + 1))) else none
        | none => none
      else none
    | _, _ => none
  | _, _, _ => none

def aentryStore (S : AS) (m st x : AV) : Option AR :=
  match m, st with
  | .mref p g, .lit (.int _ b) => match S.get p with
    | some (.map g' es ck) => if g' = g then match es.findIdx? (fun e => (e.born : Int) == b) with
        | some i => match es[i]? with
          | some e => some (.chg (.lit undef) p (.map g (es.set i ⟨e.key, x, e.born⟩) ck))
          | none => none
        | none => none
      else none
    | _ => none
  | _, _ => none

def anext (S : AS) (it : AV) : Option AR :=
  match it with
  | .ptr p g 0 0 => match S.get p with
    | some (.iter g' s pos) => if g' = g then
        (if pos < s.size then some (.chg (.tup [.lit (.bool true), .lit (.int .i64 pos), .lit (.int .i32 (Utf8.decode s pos).1)]) p (.iter g s (pos + (Utf8.decode s pos).2)))
         else some (.val (.tup [.lit (.bool false)]))) else none
    | _ => none
  | _ => none

/-- What is called. -/
def acallee : AV → Option (FuncId × List AV)
  | .lit (.func (.func f) first cap) => if first.size = 0 ∧ cap.size = 0 then some (f, []) else none
  | .fn f cs => some (f, cs)
  | _ => none

def orPure (r : Option AR) (P : Program) (ρ : Operand → AV) (o : Oper) : Option AR := match r with
  | some r => some r
  | none => pureOp P ρ o

def bytesOf : List (List AV) → Option (List UInt8)
  | [] => some []
  | [.lit (.int .u8 n)] :: r => (bytesOf r).map (UInt8.ofNat n.toNat :: ·)
  | _ => none

def aconvert (P : Program) (S : AS) (src dst : TypeId) (x : AV) : Option AR :=
  match P.underlying src, P.underlying dst with
  | some (.slice e), some .string => match P.underlying e with
    | some (.int .u8) => match x with
      | .list .. | .row .. => match aelems S 1 x with
        | some es => (bytesOf es).map fun bs => .val (.lit (.string ⟨bs.toArray⟩))
        | none => none
      | _ => none
    | _ => none
  | _, _ => none

/-- A pointer to an object, as an unsafe one, and back. -/
def aconvPtr (P : Program) (S : AS) (src dst : TypeId) (x : AV) : Option AR :=
  match P.underlying src, P.underlying dst, x with
  | some (.pointer t), some .unsafePointer, .ptr p g 0 off => match S.get p, P.info? t with
    | some (.obj g' _ cs), some i => if g' = g ∧ off < cs.length ∧ i.size ≠ 0 then some (.val (.ptr p g 0 off)) else none
    | _, _ => none
  | some .unsafePointer, some (.pointer u), .ptr p g 0 off => match S.get p, P.info? u with
    | some (.obj g' t cs), some _ => if g' = g ∧ liesAt P P.depth t (cs.length / P.cellsOf t) off u 1 = true then some (.val (.ptr p g 0 off)) else none
    | _, _ => none
  | _, _, _ => none
def orA : Option AR → Option AR → Option AR
  | some r, _ => some r
  | none, b => b

def aop [Cfg] (P : Program) (S : AS) (ρ : Operand → AV) (o : Oper) : Option AR :=
  match o.op with
  | .move x | .assign x => some (.val (ρ x))
  | .pick c a b => match ρ c with
    | .lit (.bool t) => some (.val (if t then ρ a else ρ b))
    | _ => none
  | .alloc elem => match o.dst, (P.info? elem).bind (·.zero) with
    | some d, some z => some (.chg (.ptr (S.here d) (S.fresh (S.here d)) 0 0) (S.here d) (.obj (S.fresh (S.here d)) elem (z.cells.toList.map .lit)))
    | _, _ => none
  | .box e x => match o.dst with
    | some d => some (.chg (.ptr (S.here d) (S.fresh (S.here d)) 0 0) (S.here d) (.obj (S.fresh (S.here d)) e (ρ x).cells))
    | none => none
  | .build t parts => (abuild P t (parts.toList.map fun (i, x) => (i, ρ x))).map .val
  | .buildSlice t len parts => abuildSlice P S o.dst t len (parts.toList.map fun (i, x) => (i, ρ x))
  | .load t x => (aload P S t (ρ x)).map .val
  | .store t x v => (astore P S t (ρ x) (ρ v)).map fun x => .chg (.lit undef) x.1 x.2
  | .nilCheck x => orPure ((anil (ρ x)).map .val) P ρ o
  | .binOp op t x y _ => orPure ((acmp P op t (ρ x) (ρ y)).map .val) P ρ o
  | .makeInterface t x => match P.underlying t with
    | some d => if isIfaceD d then none else some (.val (.iface t (ρ x)))
    | none => none
  | .makeFunc fn first cap => match fn with
    | .func f => if first.size = 0 then some (.val (.fn f (cap.toList.map ρ))) else none
    | _ => none
  | .makeMap _ r => match o.dst, r with
    | some d, none => some (.chg (.mref (S.here d) (S.fresh (S.here d))) (S.here d) (.map (S.fresh (S.here d)) [] 0))
    | _, _ => none
  | .makeSlice t l c => amakeSlice P S o.dst t (ρ l) (ρ c)
  | .slice t x lo hi mx => orPure ((aslice P t (ρ x) (lo.map ρ) (hi.map ρ) (mx.map ρ)).map .val) P ρ o
  | .fieldAddr s x f => (afieldAddr P s (ρ x) f).map .val
  | .field s x f => (afield P s (ρ x) f).map .val
  | .indexAddr t x i => (aindexAddr P t (ρ x) (ρ i)).map .val
  | .index t x i => orPure ((aindex P t (ρ x) (ρ i)).map .val) P ρ o
  | .lookup t m k ok => (alookup P S t (ρ m) (ρ k) ok).map .val
  | .mapUpdate t m k x | .insert t m k x => amapUpdate P S t (ρ m) (ρ k) (ρ x)
  | .mapEntry t m k => amapEntry P S t (ρ m) (ρ k)
  | .entryStore _ m st x => aentryStore S (ρ m) (ρ st) (ρ x)
  | .range t x => match P.underlying t, ρ x, o.dst with
    | some .string, .lit (.string s), some d => some (.chg (.ptr (S.here d) (S.fresh (S.here d)) 0 0) (S.here d) (.iter (S.fresh (S.here d)) s 0))
    | _, _, _ => none
  | .next it isString => if isString then anext S (ρ it) else none
  | .typeAssert x _ asserted ok => orPure ((aassert P asserted ok (ρ x)).map .val) P ρ o
  | .extract t i => match ρ t with
    | .tup cs => (cs[i]?).map .val
    | _ => none
  | .convert src dst x => orPure (orA (aconvert P S src dst (ρ x)) (aconvPtr P S src dst (ρ x))) P ρ o
  | .unOp .. => pureOp P ρ o
  | .panic x => match ρ x with
    | .iface t a => some (.pan (.iface t a))
    | _ => none
  | .defer c => match c.callee with
    | .value f => match acallee (ρ f) with
      | some (f, cs) => some (.dfr f (c.args.toList.map ρ ++ cs))
      | none => none
    | _ => none
  | .call c => match c.callee with
    | .builtin .append => aappendC P S o.dst (c.args.toList.map ρ) c.argTypes.toList
    | .builtin .len => orPure (alenC P S (c.args.toList.map ρ) c.argTypes.toList) P ρ o
    | .builtin .copy => acopyC P S (c.args.toList.map ρ) c.argTypes.toList
    | .builtin .min | .builtin .max => pureOp P ρ o
    | .value f => match acallee (ρ f) with
      | some (f, cs) => match P.funcs[f]? with
        | some fn => if fn.body.isNone then (if Cfg.same f then (match c.args.toList.map ρ ++ cs with
            | [a] => some (.val a)
            | _ => none) else pureOp P ρ o) else some (.call f (c.args.toList.map ρ ++ cs))
        | none => none
      | none => none
    | _ => none
  | _ => none

/-! ### Footprints -/
inductive FK where
  | none
  | slots (L : List Loc)
  | all
structure Foot where
  rd : FK
  wr : FK
def FK.clear : FK → FK → Bool
  | .none, _ => true
  | _, .none => true
  | .slots L, .slots M => L.all fun p => !M.contains p
  | _, _ => false
def FK.slot (p : Loc) : FK := .slots [p]
def Foot.indep (a b : Foot) : Bool := a.wr.clear b.rd && a.wr.clear b.wr && b.wr.clear a.rd

def ptrSlot : AV → FK
  | .ptr p _ _ _ => .slot p
  | .row _ p _ _ _ _ _ => .slot p
  | .mref p _ => .slot p
  | .list (.own p _) _ _ => .slot p
  | _ => .none
def FK.with : FK → FK → FK
  | .none, b => b
  | a, .none => a
  | .slots L, .slots M => .slots (L ++ M)
  | _, _ => .all
def hereSlot (S : AS) (d : Option Tmp) : FK := match d with
  | some d => .slot (S.here d)
  | none => .none
def appSlot (S : AS) (d : Option Tmp) : List AV → FK
  | [s, x] => match s with
    | .list (.own p _) _ _ => (FK.slot p).with (ptrSlot x)
    | .row .room p _ _ _ _ _ => (FK.slot p).with (ptrSlot x)
    | s => ((hereSlot S d).with (ptrSlot s)).with (ptrSlot x)
  | _ => .all
/-- What an operation reads. -/
def afoot (S : AS) (ρ : Operand → AV) (o : Oper) : FK :=
  match o.op with
  | .alloc _ | .box _ _ | .makeMap _ _ | .makeSlice _ _ _ | .buildSlice _ _ _ | .range _ _ => hereSlot S o.dst
  | .load _ x => ptrSlot (ρ x)
  | .store _ x _ => ptrSlot (ρ x)
  | .lookup _ m _ _ => ptrSlot (ρ m)
  | .mapUpdate _ m _ _ | .insert _ m _ _ | .mapEntry _ m _ | .entryStore _ m _ _ => ptrSlot (ρ m)
  | .next it _ => ptrSlot (ρ it)
  | .convert _ _ x => ptrSlot (ρ x)
  | .call c => match c.callee with
    | .builtin .append => appSlot S o.dst (c.args.toList.map ρ)
    | .builtin .len => match c.args.toList.map ρ with
      | [x] => ptrSlot x
      | _ => .none
    | .builtin .copy => .all
    | _ => .none
  | _ => .none

def AS.after (S : AS) : Upd → AS
  | none => S
  | some (t, l) => { S with tab := t, log := mergeLog S.log l }
def Upd.kind : Upd → FK
  | none => .none
  | some (_, l) => .slots l
def AS.bare : AS := ⟨0, 0, [], [], []⟩
abbrev Oracle := FuncId → List AV → AS → Option (AE × Upd)

def mayW (o : Oper) : Bool := match o.op with
  | .alloc _ | .box _ _ | .store .. | .makeMap .. | .makeSlice .. | .buildSlice .. | .range .. | .mapUpdate .. | .insert .. | .mapEntry .. | .entryStore .. | .next .. => true
  | .call c => match c.callee with
    | .builtin .append => true
    | .builtin .copy => true
    | .builtin _ => false
    | _ => true
  | .defer _ => true
  | _ => false
def mayR (o : Oper) : Bool := match o.op with
  | .load .. | .lookup .. | .convert .. => true
  | .call c => match c.callee with
    | .builtin .len => true
    | _ => mayW o
  | _ => mayW o

/-- An operation. -/
def astep [Cfg] (P : Program) (Δ : Oracle) (ops : Array Oper) (o : Oper) (T : TM) (S : AS) : Option (Foot × TM × AS × Option AV) :=
  if Region.wanted o (ayielded ops T) then
    match aop P S (aev T) o with
    | some (.val v) => some (⟨afoot S (aev T) o, .none⟩, T.put o.dst v, S, none)
    | some (.chg v p s) => if mayW o then some (⟨afoot S (aev T) o, .slot p⟩, T.put o.dst v, S.set p s, none) else none
    | some (.call f args) => if mayW o then (if !Cfg.up f S.fn && AV.closedL args then (match Δ f args .bare with
        | some (.ret v, none) => some (⟨afoot S (aev T) o, .none⟩, T.put o.dst v, S, none)
        | some (.pan v, none) => some (⟨.all, .all⟩, T, S, some v)
        | _ => none)
      else (match Δ f args S with
        | some (.ret v, u) => some (⟨.all, u.kind⟩, T.put o.dst v, S.after u, none)
        | some (.pan v, u) => some (⟨.all, .all⟩, T, S.after u, some v)
        | none => none)) else none
    | some (.pan v) => some (⟨.all, .all⟩, T, S, some v)
    | some (.dfr f args) => if mayW o then some (⟨.all, .all⟩, T.put o.dst (.lit undef), { S with dfr := (f, args) :: S.dfr }, none) else none
    | none => none
  else some (⟨.none, .none⟩, T.put o.dst (.lit undef), S, none)

/-- Operations, one behind the other. -/
def asteps [Cfg] (P : Program) (Δ : Oracle) (ops : Array Oper) : List Oper → TM → AS → Option (List Foot × TM × AS × Option AV)
  | [], T, S => some ([], T, S, none)
  | o :: r, T, S => match astep P Δ ops o T S with
    | some (f, T', S', none) => match asteps P Δ ops r T' S' with
      | some (fs, T'', S'', x) => some (f :: fs, T'', S'', x)
      | none => none
    | some (f, T', S', some v) => some ([f], T', S', some v)
    | none => none

/-! ### Regions that draw their order -/
def reach (ops : Array Oper) : Nat → Nat → Nat → Bool
  | 0, _, _ => false
  | n + 1, i, j => match ops[i]? with
    | some o => o.after.any fun e => Region.binds .any e && (e.on == j || reach ops n e.on j)
    | none => false
def drawPairs (ops : Array Oper) : List (Nat × Nat) :=
  ops.toList.zipIdx.flatMap fun (oi, i) => (ops.toList.zipIdx.take i).filterMap fun (oj, j) =>
    if (mayW oj && mayR oi) || (mayW oi && mayR oj) then (if reach ops 3 i j then none else some (j, i)) else none
def noDefer (o : Oper) : Bool := match o.op with
  | .defer _ => false
  | _ => true
def drawStat (ops : Array Oper) : Bool :=
  Region.noSelect ops && ops.toList.all noDefer &&
  ops.toList.zipIdx.all fun (oi, i) => oi.after.all (fun e => !Region.binds .any e || decide (e.on < i)) &&
    (ops.toList.zipIdx.take i).all fun (oj, j) => oj.apart ops oi || reach ops 3 i j
/-- One looks up what the other one makes sure of. -/
def twins (ops : Array Oper) (p : Nat × Nat) : Bool := match ops[p.1]?, ops[p.2]? with
  | some a, some b => match a.op, b.op with
    | .lookup t (.tmp m) (.tmp k) false, .mapEntry t' (.tmp m') (.tmp k') => t == t' && m == m' && k == k'
    | _, _ => false
  | _, _ => false
def pairOk (ops : Array Oper) (fs : List Foot) (p : Nat × Nat) : Bool := twins ops p || match fs[p.1]?, fs[p.2]? with
  | some a, some b => a.indep b
  | _, _ => false

/-! ### Code -/
inductive AX where
  | normal
  | exit (id : Nat)
  | ret
  | pan (v : AV)

def aloop (f : TM → AS → Option (AX × TM × AS)) : Nat → TM → AS → Option (AX × TM × AS)
  | 0, _, _ => none
  | n + 1, T, S => match f T S with
    | some (.normal, T', S') => aloop f n T' S'
    | r => r

def regionEnd (T : TM) (S : AS) : Option AV → AX × TM × AS
  | none => (.normal, T, S)
  | some v => (.pan v, T, S)

def aregion [Cfg] (P : Program) (Δ : Oracle) (ops : Array Oper) (draw : Bool) (T : TM) (S : AS) : Option (AX × TM × AS) :=
  match asteps P Δ ops ops.toList T S with
  | some (fs, T', S', x) => if draw then (if x.isNone && drawStat ops && (drawPairs ops).all (pairOk ops fs) then some (.normal, T', S') else none) else some (regionEnd T' S' x)
  | none => none

def aexec [Cfg] (P : Program) (Δ : Oracle) (n : Nat) : Code → TM → AS → Option (AX × TM × AS)
  | .skip, T, S => some (.normal, T, S)
  | .label _, T, S => some (.normal, T, S)
  | .region _ ops draw, T, S => aregion P Δ ops draw T S
  | .seq a b, T, S => match aexec P Δ n a T S with
    | some (.normal, T', S') => aexec P Δ n b T' S'
    | r => r
  | .cond c a b, T, S => match aev T c with
    | .lit (.bool t) => if t then aexec P Δ n a T S else aexec P Δ n b T S
    | _ => none
  | .block id b, T, S => match aexec P Δ n b T S with
    | some (.exit j, T', S') => if j = id then some (.normal, T', S') else some (.exit j, T', S')
    | r => r
  | .loop b, T, S => aloop (aexec P Δ n b) n T S
  | .exit id, T, S => some (.exit id, T, S)
  | .ret, T, S => some (.ret, T, S)
  | _, _, _ => none

def aresult (P : Program) (S : AS) (T : TM) : ResultVar → Option AV
  | .tmp t => some (T.getD t (.lit undef))
  | .cell a t => aload P S t (T.getD a (.lit undef))
def aresultL (P : Program) (S : AS) (T : TM) : List ResultVar → Option (List AV)
  | [] => some []
  | r :: rs => match aresult P S T r with
    | some v => match aresultL P S T rs with
      | some vs => some (v :: vs)
      | none => none
    | none => none
def tupled : List AV → AV
  | [v] => v
  | vs => .tup vs
def aresults (P : Program) (fn : Func) (S : AS) (T : TM) : Option AV := (aresultL P S T fn.results.toList).map tupled

/-! ### What a call hands up -/
mutual
/-- What is answered, where all that the call made stays as it is. -/
def frz (l : Nat) (S : AS) : Nat → AV → Option AV
  | 0, _ => none
  | n + 1, a => if a.lv l then some a else match a with
    | .agg cs => (frzL l S n cs).map .agg
    | .tup cs => (frzL l S n cs).map .tup
    | .cref cs => (frzL l S n cs).map .cref
    | .fn f cs => (frzL l S n cs).map (.fn f)
    | .iface t x => (frz l S n x).map (.iface t)
    | .list sp sz es => (frzLL l S n es).map (.list (if sp.lv l then sp else .no) sz)
    | .ptr p g k off => match S.cellsAt p g k with
      | some cs => (frzL l S n (cs.drop off)).map .cref
      | none => none
    | .row sp p g k off len sz => match aelems S sz (.row sp p g k off len sz) with
      | some es => (frzLL l S n es).map (.list .no sz)
      | none => none
    | _ => none
def frzL (l : Nat) (S : AS) : Nat → List AV → Option (List AV)
  | 0, _ => none
  | _ + 1, [] => some []
  | n + 1, a :: r => match frz l S n a, frzL l S n r with
    | some x, some y => some (x :: y)
    | _, _ => none
def frzLL (l : Nat) (S : AS) : Nat → List (List AV) → Option (List (List AV))
  | 0, _ => none
  | _ + 1, [] => some []
  | n + 1, a :: r => if AV.lvLL l (a :: r) then some (a :: r) else match frzL l S n a, frzLL l S n r with
    | some x, some y => some (x :: y)
    | _, _ => none
end
def frzE (l : Nat) (S : AS) (n : Nat) : List AEntry → Option (List AEntry)
  | [] => some []
  | e :: r => match frz l S n e.val, frzE l S n r with
    | some x, some y => some (⟨e.key, x, e.born⟩ :: y)
    | _, _ => none
def frzS (l : Nat) (S : AS) (n : Nat) : ASlot → Option ASlot
  | .obj g t cs => (frzL l S n cs).map (.obj g t)
  | .row g k sz e cs => (frzL l S n cs).map (.row g k sz e)
  | .map g es ck => (frzE l S n es).map fun es => .map g es ck
  | s => some s

/-- Names of what is handed up. -/
abbrev Names := List (Loc × Loc × Nat)
def Names.get : Names → Loc → Option (Loc × Nat)
  | [], _ => none
  | (q, r) :: t, p => if q = p then some r else Names.get t p
mutual
def ren (l : Nat) (S : AS) (N : Names) : AV → Option AV
  | .lit v => some (.lit v)
  | .agg cs => (renL l S N cs).map .agg
  | .tup cs => (renL l S N cs).map .tup
  | .cref cs => (renL l S N cs).map .cref
  | .fn f cs => (renL l S N cs).map (.fn f)
  | .iface t x => (ren l S N x).map (.iface t)
  | .list sp sz es => (renLL l S N es).map (.list (match sp with
      | .own p g => if p.l ≤ l then .own p g else match Names.get N p, S.get p with
        | some (q, h), some (.tok g' n _ _) => if g' = g ∧ n = es.length then .own q h else .no
        | _, _ => .no
      | sp => sp) sz)
  | .ptr p g k off => if p.l ≤ l then some (.ptr p g k off) else match Names.get N p, S.get p with
    | some (q, h), some s => if s.live && s.gen == g && s.ext == k then some (.ptr q h k off) else none
    | _, _ => none
  | .row sp p g k off len sz => if p.l ≤ l then some (.row sp p g k off len sz) else match Names.get N p, S.get p with
    | some (q, h), some s => if s.live && s.gen == g && s.ext == k then some (.row sp q h k off len sz) else none
    | _, _ => none
  | .mref p g => if p.l ≤ l then some (.mref p g) else match Names.get N p, S.get p with
    | some (q, h), some s => if s.live && s.gen == g && s.ext == 0 then some (.mref q h) else none
    | _, _ => none
def renL (l : Nat) (S : AS) (N : Names) : List AV → Option (List AV)
  | [] => some []
  | a :: r => match ren l S N a, renL l S N r with
    | some x, some y => some (x :: y)
    | _, _ => none
def renLL (l : Nat) (S : AS) (N : Names) : List (List AV) → Option (List (List AV))
  | [] => some []
  | a :: r => match renL l S N a, renLL l S N r with
    | some x, some y => some (x :: y)
    | _, _ => none
end
def renE (l : Nat) (S : AS) (N : Names) : List AEntry → Option (List AEntry)
  | [] => some []
  | e :: r => match ren l S N e.val, renE l S N r with
    | some x, some y => some (⟨e.key, x, e.born⟩ :: y)
    | _, _ => none
def renS (l : Nat) (S : AS) (N : Names) (g : Nat) : ASlot → Option ASlot
  | .obj _ t cs => (renL l S N cs).map (.obj g t)
  | .row _ k sz e cs => (renL l S N cs).map (.row g k sz e)
  | .map _ es ck => (renE l S N es).map fun es => .map g es ck
  | .tok _ n sz e => some (.tok g n sz e)
  | .iter _ s pos => some (.iter g s pos)
  | .dead _ _ => none

mutual
/-- The names deeper than a level. -/
def AV.deep (l : Nat) : AV → List Loc
  | .lit _ => []
  | .agg cs => AV.deepL l cs
  | .tup cs => AV.deepL l cs
  | .cref cs => AV.deepL l cs
  | .fn _ cs => AV.deepL l cs
  | .iface _ x => AV.deep l x
  | .list sp _ es => (match sp with
      | .own p _ => if p.l ≤ l then [] else [p]
      | _ => []) ++ AV.deepLL l es
  | .ptr p _ _ _ => if p.l ≤ l then [] else [p]
  | .row _ p _ _ _ _ _ => if p.l ≤ l then [] else [p]
  | .mref p _ => if p.l ≤ l then [] else [p]
def AV.deepL (l : Nat) : List AV → List Loc
  | [] => []
  | a :: r => AV.deep l a ++ AV.deepL l r
def AV.deepLL (l : Nat) : List (List AV) → List Loc
  | [] => []
  | a :: r => AV.deepL l a ++ AV.deepLL l r
end
def ASlot.deep (l : Nat) : ASlot → List Loc
  | .obj _ _ cs => AV.deepL l cs
  | .row _ _ _ _ cs => AV.deepL l cs
  | .map _ es _ => es.flatMap fun e => AV.deep l e.val
  | _ => []
/-- All that is reached from some names. -/
def reached (l : Nat) (S : AS) : Nat → List Loc → List Loc → List Loc
  | 0, _, seen => seen
  | _, [], seen => seen
  | n + 1, p :: r, seen => if seen.contains p then reached l S n r seen else match S.get p with
    | some s => reached l S n (s.deep l ++ r) (logPut seen p)
    | none => reached l S n r seen
def nextName (l : Nat) : Tab → Nat
  | [] => 1
  | (q, _) :: r => if q.l = l ∧ q.k = 0 then max (q.i + 1) (nextName l r) else nextName l r
def nameAll (l : Nat) : Nat → List Loc → Names
  | _, [] => []
  | j, p :: r => (p, ⟨l, 0, j⟩, 0) :: nameAll l (j + 1) r

def AS.outs (l : Nat) (S' : AS) : List Loc := S'.log.filter (fun p => decide (p.l ≤ l))

/-- Slots of a table, each turned. -/
def turnAll (f : Loc → ASlot → Option ASlot) (S' : AS) : List Loc → Tab → Option Tab
  | [], t => some t
  | p :: r, t => match S'.get p with
    | some s => match f p s with
      | some s' => turnAll f S' r (t.put p s')
      | none => none
    | none => none
def raiseAll (l : Nat) (S' : AS) (N : Names) : Names → Tab → Option Tab
  | [], t => some t
  | (p, q, h) :: r, t => match S'.get p with
    | some s => match renS l S' N h s with
      | some s' => raiseAll l S' N r (t.put q s')
      | none => none
    | none => none

def nodupB : List Loc → Bool
  | [] => true
  | p :: r => !r.contains p && nodupB r
/-- Names that are new, of slots of the call's own, each once. -/
def namesOk (l : Nat) (S' : AS) (N : Names) : Bool :=
  N.all (fun x => decide (l < x.1.l) && x.2.1.l == l && (S'.get x.2.1).isNone && x.2.2 == 0 && (match S'.get x.1 with
    | some s => s.live
    | none => false)) && nodupB (N.map (·.1)) && nodupB (N.map (·.2.1))

/-- What a call hands up: its value, and what is left of its store. -/
def handUp [Cfg] (f : FuncId) (S S' : AS) (v : AV) : Option (AV × Upd) :=
  let outs := S'.outs S.lvl
  if Cfg.up f S.fn then
    let N := nameAll S.lvl (nextName S.lvl (S'.tab.cut S.lvl)) (reached S.lvl S' 10000 (v.deep S.lvl ++ outs.flatMap fun p => match S'.get p with
      | some s => s.deep S.lvl
      | none => []) [])
    if !namesOk S.lvl S' N then none else match ren S.lvl S' N v with
    | some v' => match outs, N with
      | [], [] => some (v', none)
      | outs, N => match turnAll (fun _ s => renS S.lvl S' N s.gen s) S' outs S.tab with
        | some t => match raiseAll S.lvl S' N N t with
          | some t => some (v', some (t, outs ++ N.map fun x => x.2.1))
          | none => none
        | none => none
    | none => none
  else match frz S.lvl S' 100000 v with
    | some v' => match outs with
      | [] => some (v', none)
      | outs => match turnAll (fun _ s => frzS S.lvl S' 100000 s) S' outs S.tab with
        | some t => some (v', some (t, outs))
        | none => none
    | none => none

def AX.done : AX → Bool
  | .exit _ => false
  | _ => true

/-! ### Calls that were put off -/
/-- How the frame leaves: by a return, or by a panic, which may be caught. -/
abbrev AM := Option (AV × Bool)
def AM.settle : AM → AM
  | some (_, true) => none
  | m => m

/-- An operation of a call that was put off: it may catch. -/
def adsteps [Cfg] (P : Program) (Δ : Oracle) (ops : Array Oper) : List Oper → TM → AS → AM → Option (TM × AS × AM × Option AV)
  | [], T, S, m => some (T, S, m, none)
  | o :: r, T, S, m => match o.op with
    | .call ⟨.builtin .recover, _, _⟩ => if Region.wanted o (ayielded ops T) then (match m with
        | some (v, false) => adsteps P Δ ops r (T.put o.dst v) S (some (v, true))
        | m => adsteps P Δ ops r (T.put o.dst (.lit .nilIface)) S m)
      else adsteps P Δ ops r (T.put o.dst (.lit undef)) S m
    | _ => match astep P Δ ops o T S with
      | some (_, T', S', none) => adsteps P Δ ops r T' S' m
      | some (_, T', S', some v) => some (T', S', m, some v)
      | none => none
def adexec [Cfg] (P : Program) (Δ : Oracle) (n : Nat) : Code → TM → AS → AM → Option (AX × TM × AS × AM)
  | .region _ ops false, T, S, m => match adsteps P Δ ops ops.toList T S m with
    | some (T', S', m', none) => some (.normal, T', S', m')
    | some (T', S', m', some v) => some (.pan v, T', S', m')
    | none => none
  | .seq a b, T, S, m => match adexec P Δ n a T S m with
    | some (.normal, T', S', m') => adexec P Δ n b T' S' m'
    | r => r
  | c, T, S, m => (aexec P Δ n c T S).map fun r => (r.1, r.2.1, r.2.2, m)

def abegin (fn : Func) (args : List AV) : TM := args ++ List.replicate (fn.ntmps - args.length) (.lit undef)
def AS.enter (S : AS) (f : FuncId) : AS := ⟨S.lvl + 1, f, S.tab, [], []⟩

/-- The calls that were put off, the last one first. -/
def aleaves [Cfg] (P : Program) (Δ : Oracle) (n : Nat) : List (FuncId × List AV) → AM → AS → Option (AM × AS)
  | [], m, S => some (m, S)
  | (f, args) :: r, m, S => match P.funcs[f]? with
    | none => none
    | some fn => match fn.body with
      | none => none
      | some c => if (fn.name == "runtime.NumGoroutine") = false ∧ args.length ≤ fn.ntmps then
          match adexec P Δ n c (abegin fn args) (S.enter f) m with
          | some (x, T', S', m') => if S'.dfr.isEmpty && (aresults P fn S' T').isSome then match x with
            | .exit _ => none
            | .pan _ => none
            | _ => match handUp f S S' (.tup []) with
              | some (_, u) => aleaves P Δ n r m'.settle (S.after u)
              | none => none
            else none
          | none => none
        else none

def atEnd [Cfg] (P : Program) (fn : Func) (f : FuncId) (S S' : AS) (T' : TM) : AM → Option (AE × Upd)
  | none => match aresults P fn S' T' with
    | some v => (handUp f S S' v).map fun y => (.ret y.1, y.2)
    | none => none
  | some (v, false) => (handUp f S S' v).map fun y => (.pan y.1, y.2)
  | some (_, true) => none

def aargs [Cfg] (f g : FuncId) (args : List AV) : List AV := if Cfg.up f g then args else args.map AV.normA

def acall [Cfg] (P : Program) : Nat → Oracle
  | 0 => fun _ _ _ => none
  | n + 1 => fun f args S => match Cfg.given f with
    | some h => h args S
    | none => match P.funcs[f]? with
    | none => none
    | some fn => match fn.body with
      | none => none
      | some c =>
        if (fn.name == "runtime.NumGoroutine") = false ∧ args.length ≤ fn.ntmps then
          match aexec P (acall P n) n c (abegin fn (aargs f S.fn args)) (S.enter f) with
          | some (x, T', S') => match (match x with
              | .normal | .ret => some none
              | .pan v => some (some (v, false))
              | .exit _ => none : Option AM) with
            | some m => match S'.dfr with
              | [] => atEnd P fn f S S' T' m
              | ds => match aleaves P (acall P n) n ds m { S' with dfr := [] } with
                | some (m', S'') => atEnd P fn f S S'' T' m'
                | none => none
            | none => none
          | none => none
        else none
end Go.Proofs.YtjdccpmbaobpdaaGreatDoor

namespace Go.Proofs.YtjdccpmbaobpdaaGreatDoor
open Go.RowKit

structure Gh where
  own : Loc → Nat → Nat → Option (Nat × Nat)
  imm : Nat → Nat → Option Value
  far : Nat

structure Gh.le (G H : Gh) : Prop where
  own : ∀ p g n x, G.own p g n = some x → H.own p g n = some x
  imm : ∀ b o v, G.imm b o = some v → H.imm b o = some v
  far : H.far = G.far

theorem Gh.le.refl (G : Gh) : G.le G := ⟨fun _ _ _ _ h => h, fun _ _ _ h => h, rfl⟩
theorem Gh.le.trans {G H I : Gh} (h : G.le H) (k : H.le I) : G.le I := ⟨fun _ _ _ _ e => k.own _ _ _ _ (h.own _ _ _ _ e), fun _ _ _ e => k.imm _ _ _ (h.imm _ _ _ e), k.far.trans h.far⟩

def Spare.ok (G : Gh) (b off n cap : Nat) : Spare → Prop
  | .no => True
  | .full => cap = n
  | .own p g => off = 0 ∧ G.own p g n = some (b, cap)

theorem Spare.ok.mono {G H : Gh} (h : G.le H) {b off n cap : Nat} {sp : Spare} (k : sp.ok G b off n cap) : sp.ok H b off n cap := by
  cases sp with
  | no => trivial
  | full => exact k
  | own p g => exact ⟨k.1, h.own _ _ _ _ k.2⟩

/-- Of a slice of a row: where it lies, and how much room there is. -/
def Room.ok (off o len cap sz c : Nat) : Room → Prop
  | .no => True
  | .full => cap = len
  | .room => o = off ∧ off + cap * sz = c * sz

inductive VRel (G : Gh) : AV → Value → Prop
  | lit (v : Value) : VRel G (.lit v) v
  | agg (xs : List AV) (vs : List Value) (hl : xs.length = vs.length) (h : ∀ (i : Nat) a v, xs[i]? = some a → vs[i]? = some v → VRel G a v) : VRel G (.agg xs) (.agg vs.toArray)
  | tup (xs : List AV) (vs : List Value) (hl : xs.length = vs.length) (h : ∀ (i : Nat) a v, xs[i]? = some a → vs[i]? = some v → VRel G a v) : VRel G (.tup xs) (.tuple vs.toArray)
  | ptr (p : Loc) (g n off b c : Nat) (h : G.own p g n = some (b, c)) : VRel G (.ptr p g n off) (.pointer (some ⟨b, off, none⟩))
  | cref (xs : List AV) (b off : Nat) (val : Nat → Value) (h1 : ∀ i, i < xs.length → G.imm b (off + i) = some (val i)) (h2 : ∀ (i : Nat) a, xs[i]? = some a → VRel G a (val i)) :
      VRel G (.cref xs) (.pointer (some ⟨b, off, none⟩))
  | list (sp : Spare) (sz : Nat) (es : List (List AV)) (b off cap : Nat) (val : Nat → Nat → Value) (hn : es.length ≤ cap) (hm : cap ≤ maxLen) (hsz : ∀ e ∈ es, e.length = sz)
      (h1 : ∀ i j, i < es.length → j < sz → G.imm b (off + (i * sz + j)) = some (val i j)) (h2 : ∀ (i j : Nat) e a, es[i]? = some e → e[j]? = some a → VRel G a (val i j)) (hs : sp.ok G b off es.length cap) :
      VRel G (.list sp sz es) (.slice (some ⟨b, off, none⟩) es.length cap)
  | row (sp : Room) (p : Loc) (g n off len sz b c o cap : Nat) (h : G.own p g n = some (b, c)) (ho : 0 < len → o = off) (hn : len ≤ cap) (hm : cap ≤ maxLen) (hs : sp.ok off o len cap sz c) :
      VRel G (.row sp p g n off len sz) (.slice (some ⟨b, o, none⟩) len cap)
  | mref (p : Loc) (g b c : Nat) (h : G.own p g 0 = some (b, c)) : VRel G (.mref p g) (.map (some b))
  | iface (t : TypeId) (a : AV) (v : Value) (h : VRel G a v) : VRel G (.iface t a) (.iface t v)
  | fn (f : FuncId) (xs : List AV) (vs : List Value) (hl : xs.length = vs.length) (h : ∀ (i : Nat) a v, xs[i]? = some a → vs[i]? = some v → VRel G a v) : VRel G (.fn f xs) (.func (.func f) #[] vs.toArray)

theorem VRel.mono {G H : Gh} (hg : G.le H) {a : AV} {v : Value} (h : VRel G a v) : VRel H a v := by
  induction h with
  | lit v => exact .lit v
  | agg xs vs hl _ ih => exact .agg xs vs hl ih
  | tup xs vs hl _ ih => exact .tup xs vs hl ih
  | ptr p g n off b c h => exact .ptr p g n off b c (hg.own _ _ _ _ h)
  | cref xs b off val h1 _ ih => exact .cref xs b off val (fun i hi => hg.imm _ _ _ (h1 i hi)) ih
  | list sp sz es b off cap val hn hm hsz h1 _ hs ih => exact .list sp sz es b off cap val hn hm hsz (fun i j hi hj => hg.imm _ _ _ (h1 i j hi hj)) ih (hs.mono hg)
  | row sp p g n off len sz b c o cap h ho hn hm hs => exact .row sp p g n off len sz b c o cap (hg.own _ _ _ _ h) ho hn hm hs
  | mref p g b c h => exact .mref p g b c (hg.own _ _ _ _ h)
  | iface t a v _ ih => exact .iface t a v ih
  | fn f xs vs hl _ ih => exact .fn f xs vs hl ih

/-- Cells. -/
def CRel (G : Gh) (xs : List AV) (vs : List Value) : Prop := xs.length = vs.length ∧ ∀ (i : Nat) a v, xs[i]? = some a → vs[i]? = some v → VRel G a v

theorem CRel.mono {G H : Gh} (hg : G.le H) {xs : List AV} {vs : List Value} (h : CRel G xs vs) : CRel H xs vs := ⟨h.1, fun i a v ha hv => (h.2 i a v ha hv).mono hg⟩
theorem CRel.nil (G : Gh) : CRel G [] [] := ⟨rfl, fun i a v h _ => by simp at h⟩
theorem CRel.cons {G : Gh} {a : AV} {v : Value} {xs : List AV} {vs : List Value} (h : VRel G a v) (k : CRel G xs vs) : CRel G (a :: xs) (v :: vs) := by
  refine ⟨by simp [k.1], fun i x y hx hy => ?_⟩
  cases i with
  | zero => simp at hx hy; subst hx hy; exact h
  | succ i => exact k.2 i x y (by simpa using hx) (by simpa using hy)
theorem CRel.head {G : Gh} {a : AV} {v : Value} {xs : List AV} {vs : List Value} (h : CRel G (a :: xs) (v :: vs)) : VRel G a v := h.2 0 a v rfl rfl
theorem CRel.tail {G : Gh} {a : AV} {v : Value} {xs : List AV} {vs : List Value} (h : CRel G (a :: xs) (v :: vs)) : CRel G xs vs :=
  ⟨by have := h.1; simpa using this, fun i x y hx hy => h.2 (i + 1) x y (by simpa using hx) (by simpa using hy)⟩
theorem CRel.append {G : Gh} {xs bs : List AV} {vs us : List Value} (h : CRel G xs vs) (k : CRel G bs us) : CRel G (xs ++ bs) (vs ++ us) := by
  refine ⟨by simp [h.1, k.1], fun i x y hx hy => ?_⟩
  by_cases hi : i < xs.length
  · rw [List.getElem?_append_left hi] at hx
    rw [List.getElem?_append_left (by rw [← h.1]; exact hi)] at hy
    exact h.2 i x y hx hy
  · rw [List.getElem?_append_right (by omega)] at hx
    rw [List.getElem?_append_right (by rw [← h.1]; omega), ← h.1] at hy
    exact k.2 _ x y hx hy
theorem CRel.drop {G : Gh} {xs : List AV} {vs : List Value} (h : CRel G xs vs) (n : Nat) : CRel G (xs.drop n) (vs.drop n) :=
  ⟨by simp [h.1], fun i x y hx hy => h.2 (n + i) x y (by simpa [List.getElem?_drop] using hx) (by simpa [List.getElem?_drop] using hy)⟩
theorem CRel.take {G : Gh} {xs : List AV} {vs : List Value} (h : CRel G xs vs) (n : Nat) : CRel G (xs.take n) (vs.take n) := by
  refine ⟨by simp [h.1], fun i x y hx hy => ?_⟩
  rw [List.getElem?_take] at hx hy
  split at hx
  · rename_i hi; rw [if_pos hi] at hy; exact h.2 i x y hx hy
  · cases hx
theorem CRel.lits (G : Gh) (vs : List Value) : CRel G (vs.map AV.lit) vs := by
  refine ⟨by simp, fun i a v ha hv => ?_⟩
  simp [hv] at ha
  subst ha
  exact .lit v
theorem CRel.get {G : Gh} {xs : List AV} {vs : List Value} (h : CRel G xs vs) {i : Nat} {a : AV} (ha : xs[i]? = some a) : ∃ v, vs[i]? = some v ∧ VRel G a v := by
  have hlt := (List.getElem?_eq_some_iff.1 ha).1
  have hlt' : i < vs.length := by rw [← h.1]; exact hlt
  exact ⟨vs[i], List.getElem?_eq_getElem hlt', h.2 i a _ ha (List.getElem?_eq_getElem hlt')⟩
theorem CRel.set {G : Gh} {xs : List AV} {vs : List Value} (h : CRel G xs vs) {i : Nat} {a : AV} {v : Value} (ha : VRel G a v) : CRel G (xs.set i a) (vs.set i v) := by
  refine ⟨by simp [h.1], fun j x y hx hy => ?_⟩
  rw [List.getElem?_set] at hx hy
  by_cases hij : i = j
  · subst hij
    simp only [if_true] at hx hy
    split at hx
    · rename_i hi
      rw [if_pos (by rw [← h.1]; exact hi)] at hy
      cases hx; cases hy
      exact ha
    · cases hx
  · rw [if_neg hij] at hx hy
    exact h.2 j x y hx hy

theorem VRel.agg_iff {G : Gh} {xs : List AV} {vs : List Value} (h : CRel G xs vs) : VRel G (.agg xs) (.agg vs.toArray) := .agg xs vs h.1 h.2
theorem VRel.agg_inv {G : Gh} {xs : List AV} {v : Value} (h : VRel G (.agg xs) v) : ∃ vs, v = .agg vs.toArray ∧ CRel G xs vs := by
  cases h with
  | agg _ vs hl h => exact ⟨vs, rfl, hl, h⟩
theorem VRel.tup_inv {G : Gh} {xs : List AV} {v : Value} (h : VRel G (.tup xs) v) : ∃ vs, v = .tuple vs.toArray ∧ CRel G xs vs := by
  cases h with
  | tup _ vs hl h => exact ⟨vs, rfl, hl, h⟩
theorem VRel.lit_inv {G : Gh} {u v : Value} (h : VRel G (.lit u) v) : v = u := by
  cases h with
  | lit => rfl

theorem AV.lvL_get {l : Nat} : ∀ {xs : List AV} {i : Nat} {a : AV}, AV.lvL l xs = true → xs[i]? = some a → a.lv l = true
  | [], _, _, _, h => by simp at h
  | x :: r, 0, a, h, ha => by
    simp only [List.getElem?_cons_zero, Option.some.injEq] at ha
    simp only [AV.lvL, Bool.and_eq_true] at h
    rw [← ha]; exact h.1
  | x :: r, i + 1, a, h, ha => by
    simp only [AV.lvL, Bool.and_eq_true] at h
    exact AV.lvL_get h.2 (by simpa using ha)
theorem AV.lvLL_get {l : Nat} : ∀ {es : List (List AV)} {i : Nat} {e : List AV}, AV.lvLL l es = true → es[i]? = some e → AV.lvL l e = true
  | [], _, _, _, h => by simp at h
  | x :: r, 0, a, h, ha => by
    simp only [List.getElem?_cons_zero, Option.some.injEq] at ha
    simp only [AV.lvLL, Bool.and_eq_true] at h
    rw [← ha]; exact h.1
  | x :: r, i + 1, a, h, ha => by
    simp only [AV.lvLL, Bool.and_eq_true] at h
    exact AV.lvLL_get h.2 (by simpa using ha)

def Gh.cut (G : Gh) (l : Nat) : Gh := { own := fun p g n => if p.l ≤ l then G.own p g n else none, imm := G.imm, far := G.far }
theorem Gh.cut_le (G : Gh) (l : Nat) : (G.cut l).le G := ⟨fun p g n x h => by simp only [Gh.cut] at h; split at h <;> simp_all, fun _ _ _ h => h, rfl⟩
theorem Gh.cut_mono {G H : Gh} (h : G.le H) (l : Nat) : (G.cut l).le (H.cut l) :=
  ⟨(fun p g n x e => by
    simp only [Gh.cut] at e ⊢
    split at e
    · rename_i hp; rw [if_pos hp]; exact h.own _ _ _ _ e
    · cases e), h.imm, h.far⟩
theorem Gh.cut_cut (G : Gh) {l m : Nat} (h : l ≤ m) : (G.cut m).cut l = G.cut l := by
  simp only [Gh.cut, Gh.mk.injEq, and_true]
  funext p g n
  split
  · rw [if_pos (by omega)]
  · rfl
theorem Gh.le_cut (G : Gh) {l : Nat} (h : ∀ p g n x, G.own p g n = some x → p.l ≤ l) : G.le (G.cut l) :=
  ⟨fun p g n x e => by simp only [Gh.cut]; rw [if_pos (h p g n x e)]; exact e, fun _ _ _ h => h, rfl⟩

theorem VRel.cut {G : Gh} {l : Nat} {a : AV} {v : Value} (h : VRel G a v) : a.lv l = true → VRel (G.cut l) a v := by
  induction h with
  | lit v => exact fun _ => .lit v
  | agg xs vs hl _ ih => exact fun h => .agg xs vs hl fun i a v ha hv => ih i a v ha hv (AV.lvL_get h ha)
  | tup xs vs hl _ ih => exact fun h => .tup xs vs hl fun i a v ha hv => ih i a v ha hv (AV.lvL_get h ha)
  | ptr p g n off b c h =>
    intro hv
    refine .ptr p g n off b c ?_
    simp only [Gh.cut]
    rw [if_pos (by simpa [AV.lv] using hv)]
    exact h
  | cref xs b off val h1 _ ih => exact fun h => .cref xs b off val h1 fun i a ha => ih i a ha (AV.lvL_get h ha)
  | list sp sz es b off cap val hn hm hsz h1 _ hs ih =>
    intro h
    simp only [AV.lv, Bool.and_eq_true] at h
    refine .list sp sz es b off cap val hn hm hsz h1 (fun i j e a he ha => ih i j e a he ha (AV.lvL_get (AV.lvLL_get h.2 he) ha)) ?_
    cases sp with
    | no => trivial
    | full => exact hs
    | own p g =>
      refine ⟨hs.1, ?_⟩
      simp only [Gh.cut]
      rw [if_pos (by simpa [Spare.lv] using h.1)]
      exact hs.2
  | row sp p g n off len sz b c o cap h ho hn hm hs =>
    intro hv
    refine .row sp p g n off len sz b c o cap ?_ ho hn hm hs
    simp only [Gh.cut]
    rw [if_pos (by simpa [AV.lv] using hv)]
    exact h
  | mref p g b c h =>
    intro hv
    refine .mref p g b c ?_
    simp only [Gh.cut]
    rw [if_pos (by simpa [AV.lv] using hv)]
    exact h
  | iface t a v _ ih => exact fun h => .iface t a v (ih h)
  | fn f xs vs hl _ ih => exact fun h => .fn f xs vs hl fun i a v ha hv => ih i a v ha hv (AV.lvL_get h ha)

theorem AV.lvL_of {l : Nat} : ∀ {xs : List AV}, (∀ (i : Nat) a, xs[i]? = some a → a.lv l = true) → AV.lvL l xs = true
  | [], _ => rfl
  | a :: r, h => by
    simp only [AV.lvL, Bool.and_eq_true]
    exact ⟨h 0 a rfl, AV.lvL_of fun i x hx => h (i + 1) x (by simpa using hx)⟩
theorem AV.lvLL_of {l : Nat} : ∀ {es : List (List AV)}, (∀ (i : Nat) e, es[i]? = some e → AV.lvL l e = true) → AV.lvLL l es = true
  | [], _ => rfl
  | a :: r, h => by
    simp only [AV.lvLL, Bool.and_eq_true]
    exact ⟨h 0 a rfl, AV.lvLL_of fun i x hx => h (i + 1) x (by simpa using hx)⟩

/-- What is said of a value is said of slots that there are. -/
theorem VRel.lvs {G : Gh} {l : Nat} (hG : ∀ p g n x, G.own p g n = some x → p.l ≤ l) {a : AV} {v : Value} (h : VRel G a v) : a.lv l = true := by
  induction h with
  | lit v => rfl
  | agg xs vs hl _ ih =>
    refine AV.lvL_of fun i a ha => ?_
    have hi : i < vs.length := by rw [← hl]; exact (List.getElem?_eq_some_iff.1 ha).1
    exact ih i a vs[i] ha (List.getElem?_eq_getElem hi)
  | tup xs vs hl _ ih =>
    refine AV.lvL_of fun i a ha => ?_
    have hi : i < vs.length := by rw [← hl]; exact (List.getElem?_eq_some_iff.1 ha).1
    exact ih i a vs[i] ha (List.getElem?_eq_getElem hi)
  | ptr p g n off b c h => exact decide_eq_true (hG _ _ _ _ h)
  | cref xs b off val h1 _ ih => exact AV.lvL_of fun i a ha => ih i a ha
  | list sp sz es b off cap val hn hm hsz h1 _ hs ih =>
    simp only [AV.lv, Bool.and_eq_true]
    refine ⟨?_, AV.lvLL_of fun i e he => AV.lvL_of fun j a ha => ih i j e a he ha⟩
    cases sp with
    | no => rfl
    | full => rfl
    | own p g => exact decide_eq_true (hG _ _ _ _ hs.2)
  | row sp p g n off len sz b c o cap h ho hn hm hs => exact decide_eq_true (hG _ _ _ _ h)
  | mref p g b c h => exact decide_eq_true (hG _ _ _ _ h)
  | iface t a v _ ih => exact ih
  | fn f xs vs hl _ ih =>
    refine AV.lvL_of fun i a ha => ?_
    have hi : i < vs.length := by rw [← hl]; exact (List.getElem?_eq_some_iff.1 ha).1
    exact ih i a vs[i] ha (List.getElem?_eq_getElem hi)
theorem CRel.lvs {G : Gh} {l : Nat} (hG : ∀ p g n x, G.own p g n = some x → p.l ≤ l) {xs : List AV} {vs : List Value} (h : CRel G xs vs) : AV.lvL l xs = true :=
  AV.lvL_of fun i a ha => by
    obtain ⟨v, hv, hr⟩ := h.get ha
    exact hr.lvs hG

theorem AV.closedL_get : ∀ {xs : List AV} {i : Nat} {a : AV}, AV.closedL xs = true → xs[i]? = some a → a.closed = true
  | [], _, _, _, h => by simp at h
  | x :: r, 0, a, h, ha => by
    simp only [List.getElem?_cons_zero, Option.some.injEq] at ha
    simp only [AV.closedL, Bool.and_eq_true] at h
    rw [← ha]; exact h.1
  | x :: r, i + 1, a, h, ha => by
    simp only [AV.closedL, Bool.and_eq_true] at h
    exact AV.closedL_get h.2 (by simpa using ha)
theorem AV.closedLL_get : ∀ {es : List (List AV)} {i : Nat} {e : List AV}, AV.closedLL es = true → es[i]? = some e → AV.closedL e = true
  | [], _, _, _, h => by simp at h
  | x :: r, 0, a, h, ha => by
    simp only [List.getElem?_cons_zero, Option.some.injEq] at ha
    simp only [AV.closedLL, Bool.and_eq_true] at h
    rw [← ha]; exact h.1
  | x :: r, i + 1, a, h, ha => by
    simp only [AV.closedLL, Bool.and_eq_true] at h
    exact AV.closedLL_get h.2 (by simpa using ha)
/-- What stays, whatever the store is. -/
theorem VRel.closed {G H : Gh} (hG : ∀ b o v, G.imm b o = some v → H.imm b o = some v) {a : AV} {v : Value} (h : VRel G a v) : a.closed = true → VRel H a v := by
  induction h with
  | lit v => exact fun _ => .lit v
  | agg xs vs hl _ ih => exact fun h => .agg xs vs hl fun i a v ha hv => ih i a v ha hv (AV.closedL_get h ha)
  | tup xs vs hl _ ih => exact fun h => .tup xs vs hl fun i a v ha hv => ih i a v ha hv (AV.closedL_get h ha)
  | ptr p g n off b c h => intro h; cases h
  | cref xs b off val h1 _ ih => exact fun h => .cref xs b off val (fun i hi => hG _ _ _ (h1 i hi)) fun i a ha => ih i a ha (AV.closedL_get h ha)
  | list sp sz es b off cap val hn hm hsz h1 _ hs ih =>
    intro h
    simp only [AV.closed, Bool.and_eq_true] at h
    refine .list sp sz es b off cap val hn hm hsz (fun i j hi hj => hG _ _ _ (h1 i j hi hj)) (fun i j e a he ha => ih i j e a he ha (AV.closedL_get (AV.closedLL_get h.2 he) ha)) ?_
    cases sp with
    | no => trivial
    | full => exact hs
    | own p g => cases h.1
  | row sp p g n off len sz b c o cap h ho hn hm hs => intro h; cases h
  | mref p g b c h => intro h; cases h
  | iface t a v _ ih => exact fun h => .iface t a v (ih h)
  | fn f xs vs hl _ ih => exact fun h => .fn f xs vs hl fun i a v ha hv => ih i a v ha hv (AV.closedL_get h ha)

theorem VRel.norm1 {G : Gh} {a : AV} {v : Value} (h : VRel G a v) : VRel G a.norm1 v := by
  cases h with
  | list sp sz es b off cap val hn hm hsz h1 h2 hs => exact .list .no sz es b off cap val hn hm hsz h1 h2 trivial
  | lit v => exact .lit v
  | agg xs vs hl h => exact .agg xs vs hl h
  | tup xs vs hl h => exact .tup xs vs hl h
  | ptr p g n off b c h => exact .ptr p g n off b c h
  | cref xs b off val h1 h2 => exact .cref xs b off val h1 h2
  | row sp p g n off len sz b c o cap h ho hn hm hs => exact .row sp p g n off len sz b c o cap h ho hn hm hs
  | mref p g b c h => exact .mref p g b c h
  | iface t a v h => exact .iface t a v h
  | fn f xs vs hl h => exact .fn f xs vs hl h
theorem CRel.norm1 {G : Gh} {xs : List AV} {vs : List Value} (h : CRel G xs vs) : CRel G (xs.map AV.norm1) vs := by
  refine ⟨by simp [h.1], fun i a v ha hv => ?_⟩
  rw [List.getElem?_map] at ha
  cases hx : xs[i]? with
  | none => simp [hx] at ha
  | some x =>
    simp [hx] at ha
    rw [← ha]
    exact (h.2 i x v hx hv).norm1

theorem VRel.normA {G : Gh} {a : AV} {v : Value} (h : VRel G a v) : VRel G a.normA v := by
  unfold AV.normA
  split
  · obtain ⟨vs, rfl, hc⟩ := h.agg_inv
    exact VRel.agg_iff hc.norm1
  · exact h.norm1
theorem CRel.normA {G : Gh} {xs : List AV} {vs : List Value} (h : CRel G xs vs) : CRel G (xs.map AV.normA) vs := by
  refine ⟨by simp [h.1], fun i a v ha hv => ?_⟩
  rw [List.getElem?_map] at ha
  cases hx : xs[i]? with
  | none => simp [hx] at ha
  | some x =>
    simp [hx] at ha
    rw [← ha]
    exact (h.2 i x v hx hv).normA
theorem VRel.cells {G : Gh} {a : AV} {v : Value} (h : VRel G a v) : CRel G a.cells v.cells.toList := by
  cases h with
  | lit v => exact CRel.lits G _
  | agg xs vs hl h => exact ⟨by simpa [AV.cells, Value.cells] using hl, by simpa [AV.cells, Value.cells] using h⟩
  | tup xs vs hl h => exact CRel.cons (.tup xs vs hl h) (CRel.nil G)
  | ptr p g n off b c h => exact CRel.cons (.ptr p g n off b c h) (CRel.nil G)
  | row sp p g n off len sz b c o cap h ho hn hm hs => exact CRel.cons (.row sp p g n off len sz b c o cap h ho hn hm hs) (CRel.nil G)
  | mref p g b c h => exact CRel.cons (.mref p g b c h) (CRel.nil G)
  | cref xs b off val h1 h2 => exact CRel.cons (.cref xs b off val h1 h2) (CRel.nil G)
  | list sp sz es b off cap val hn hm hsz h1 h2 hs => exact CRel.cons (.list sp sz es b off cap val hn hm hsz h1 h2 hs) (CRel.nil G)
  | iface t a v h => exact CRel.cons (.iface t a v h) (CRel.nil G)
  | fn f xs vs hl h => exact CRel.cons (.fn f xs vs hl h) (CRel.nil G)

theorem VRel.one {G : Gh} {a : AV} {v : Value} (h : VRel G a v) (h1 : a.one = true) : v.oneCell' = true := by
  cases h <;> first | exact h1 | rfl | (simp [AV.one] at h1)

/-! ### The store -/
theorem Loc.before_iff {p q : Loc} : p.before q = true ↔ p.l < q.l ∨ (p.l = q.l ∧ (p.k < q.k ∨ (p.k = q.k ∧ p.i < q.i))) := by simp [Loc.before]
theorem Loc.ne_iff {p q : Loc} : p ≠ q ↔ (p.l ≠ q.l ∨ p.k ≠ q.k ∨ p.i ≠ q.i) := by
  constructor
  · intro h
    by_cases h1 : p.l = q.l
    · by_cases h2 : p.k = q.k
      · by_cases h3 : p.i = q.i
        · exact absurd (by cases p; cases q; simp_all) h
        · exact .inr (.inr h3)
      · exact .inr (.inl h2)
    · exact .inl h1
  · rintro h rfl
    simp at h

theorem Tab.get_put_same : ∀ (t : Tab) (p : Loc) (s : ASlot), (t.put p s).get p = some s
  | [], p, s => by simp [Tab.put, Tab.get]
  | (q, t) :: r, p, s => by
    unfold Tab.put
    split
    · simp [Tab.get]
    · rename_i h
      split
      · simp [Tab.get, h, Tab.get_put_same r p s]
      · simp [Tab.get]
theorem Tab.get_put_ne : ∀ (t : Tab) {p q : Loc} (s : ASlot), q ≠ p → (t.put p s).get q = t.get q
  | [], p, q, s, h => by simp [Tab.put, Tab.get, Ne.symm h]
  | (x, t) :: r, p, q, s, h => by
    unfold Tab.put
    split
    · rename_i hx; subst hx; simp [Tab.get, Ne.symm h]
    · split
      · simp only [Tab.get]; split
        · rfl
        · exact Tab.get_put_ne r s h
      · simp [Tab.get, Ne.symm h]
theorem Tab.put_comm : ∀ (t : Tab) {p q : Loc} (s u : ASlot), p ≠ q → (t.put p s).put q u = (t.put q u).put p s
  | [], p, q, s, u, h => by
    have h' := Ne.symm h
    have := Loc.ne_iff.1 h
    simp only [Tab.put, h, h', if_false]
    by_cases hb : p.before q = true
    · have hb' : q.before p = false := by
        rw [Bool.eq_false_iff]; intro e; rw [Loc.before_iff] at hb e; omega
      simp [hb, hb']
    · have hb' : q.before p = true := by
        rw [Loc.before_iff] at hb ⊢; omega
      simp [hb, hb']
  | (x, t) :: r, p, q, s, u, h => by
    have h' := Ne.symm h
    have hn := Loc.ne_iff.1 h
    by_cases hxp : x = p
    · subst hxp
      have hb : x.before q = false → q.before x = true := fun e => by
        rw [Bool.eq_false_iff, Ne, Loc.before_iff] at e; rw [Loc.before_iff]; omega
      cases hxq : x.before q with
      | true =>
        have hqx : q.before x = false := by rw [Bool.eq_false_iff]; intro e; rw [Loc.before_iff] at hxq e; omega
        simp [Tab.put, h, hxq]
      | false => simp [Tab.put, h, h', hxq, hb hxq]
    · by_cases hxq : x = q
      · subst hxq
        have hb : x.before p = false → p.before x = true := fun e => by
          rw [Bool.eq_false_iff, Ne, Loc.before_iff] at e; rw [Loc.before_iff]; omega
        cases hx : x.before p with
        | true => simp [Tab.put, h', hx]
        | false => simp [Tab.put, h, h', hx, hb hx]
      · have n1 := Loc.ne_iff.1 hxp
        have n2 := Loc.ne_iff.1 hxq
        cases h1 : x.before p with
        | true => cases h2 : x.before q with
          | true => simp [Tab.put, hxp, hxq, h1, h2, Tab.put_comm r s u h]
          | false =>
            have hqp : q.before p = true := by
              rw [Bool.eq_false_iff, Ne, Loc.before_iff] at h2; rw [Loc.before_iff] at h1 ⊢; omega
            simp [Tab.put, hxp, hxq, h', h1, h2, hqp]
        | false => cases h2 : x.before q with
          | true =>
            have hpq : p.before q = true := by
              rw [Bool.eq_false_iff, Ne, Loc.before_iff] at h1; rw [Loc.before_iff] at h2 ⊢; omega
            simp [Tab.put, hxp, hxq, h, h1, h2, hpq]
          | false =>
            cases h3 : p.before q with
            | true =>
              have hqp : q.before p = false := by rw [Bool.eq_false_iff]; intro e; rw [Loc.before_iff] at h3 e; omega
              simp [Tab.put, hxp, hxq, h, h', h1, h2, h3, hqp]
            | false =>
              have hqp : q.before p = true := by
                rw [Bool.eq_false_iff, Ne, Loc.before_iff] at h3; rw [Loc.before_iff]; omega
              simp [Tab.put, hxp, hxq, h, h', h1, h2, h3, hqp]
theorem Tab.get_cut {l : Nat} : ∀ (t : Tab) (p : Loc), (t.cut l).get p = if p.l ≤ l then t.get p else none
  | [], p => by simp [Tab.cut, Tab.get]
  | (q, s) :: r, p => by
    unfold Tab.cut
    split
    · rename_i h
      simp only [Tab.get]
      split
      · rename_i e; subst e; simp [h]
      · exact Tab.get_cut r p
    · rename_i h
      rw [Tab.get_cut r p]
      simp only [Tab.get]
      split
      · split
        · rename_i e; subst e; contradiction
        · rfl
      · rfl

theorem mem_logPut : ∀ {l : List Loc} {p q : Loc}, q ∈ logPut l p ↔ q ∈ l ∨ q = p
  | [], p, q => by simp [logPut]
  | x :: r, p, q => by
    unfold logPut
    split
    · rename_i h; subst h; simp only [List.mem_cons]; exact ⟨fun h => .inl h, fun h => h.elim id .inl⟩
    · split
      · simp [mem_logPut (l := r), or_assoc]
      · simp only [List.mem_cons]; exact or_comm
theorem logPut_comm : ∀ (l : List Loc) (p q : Loc), logPut (logPut l p) q = logPut (logPut l q) p
  | l, p, q => by
    have h := fun (h : p ≠ q) => congrArg (List.map Prod.fst) (Tab.put_comm (l.map fun x => (x, ASlot.dead 0 0)) (.dead 0 0) (.dead 0 0) h)
    have e : ∀ (l : List Loc) (p : Loc), (Tab.put (l.map fun x => (x, ASlot.dead 0 0)) p (.dead 0 0)) = (logPut l p).map fun x => (x, ASlot.dead 0 0) := by
      intro l p
      induction l with
      | nil => rfl
      | cons x r ih =>
        simp only [List.map_cons, Tab.put, logPut]
        split
        · rename_i hx; subst hx; rfl
        · split
          · simp [ih]
          · rfl
    by_cases hpq : p = q
    · rw [hpq]
    · have h := h hpq
      rw [e, e, e, e] at h
      simpa [Function.comp_def] using h

theorem AS.get_set_same (S : AS) (p : Loc) (s : ASlot) : (S.set p s).get p = some s := Tab.get_put_same _ _ _
theorem AS.get_set_ne (S : AS) {p q : Loc} (s : ASlot) (h : q ≠ p) : (S.set p s).get q = S.get q := Tab.get_put_ne _ _ h
theorem AS.lvl_set (S : AS) (p : Loc) (s : ASlot) : (S.set p s).lvl = S.lvl := rfl
theorem AS.set_comm (S : AS) {p q : Loc} (s u : ASlot) (h : p ≠ q) : (S.set p s).set q u = (S.set q u).set p s := by
  simp only [AS.set, AS.mk.injEq, true_and]
  exact ⟨Tab.put_comm _ _ _ h, logPut_comm _ _ _, trivial⟩


/-- Entries of a map. -/
def ERel (G : Gh) : List AEntry → List MapEntry → Prop
  | [], [] => True
  | a :: r, e :: t => a.key = e.key ∧ a.born = e.born ∧ VRel G a.val e.val ∧ ERel G r t
  | _, _ => False
theorem ERel.mono {G H : Gh} (hg : G.le H) : ∀ {xs : List AEntry} {es : List MapEntry}, ERel G xs es → ERel H xs es
  | [], [], _ => trivial
  | _ :: _, _ :: _, h => ⟨h.1, h.2.1, h.2.2.1.mono hg, ERel.mono hg h.2.2.2⟩
  | [], _ :: _, h => h
  | _ :: _, [], h => h

/-- Of the cells that no store may touch none is ahead of the end, but those that stay. -/
def FrzOK (fr : Nat × Nat) (lim size : Nat) : Prop := ∀ o, o < size → fr.1 ≤ o → o < fr.2 → o < lim

/-- What the slot says, in a world. -/
def SlotAt (G : Gh) (w : World) (b c : Nat) : ASlot → Prop
  | .obj _ t cs => (∀ o, G.imm b o = none) ∧ ∃ vs fr, w.heap[b]? = some (.cells vs t fr) ∧ FrzOK fr 0 vs.size ∧ CRel G cs vs.toList
  | .tok _ n sz e => (∀ o, n * sz ≤ o → G.imm b o = none) ∧ ∃ vs fr, w.heap[b]? = some (.cells vs e fr) ∧ vs.size = c * sz ∧ n ≤ c ∧ fr.2 ≤ n * sz
  | .row _ n sz e cs => (∀ o, G.imm b o = none) ∧ ∃ vs fr, w.heap[b]? = some (.cells vs e fr) ∧ vs.size = c * sz ∧ n ≤ c ∧ cs.length = n * sz ∧ FrzOK fr 0 vs.size ∧ CRel G cs (vs.toList.take (n * sz))
  | .map _ es ck => ∃ ents, w.heap[b]? = some (.map ents ck) ∧ ERel G es ents.toList
  | .iter _ s pos => w.heap[b]? = some (.stringIter s pos)
  | .dead _ _ => False

structure WRel [Cfg] (G : Gh) (S : AS) (w : World) (B : Nat → Nat) : Prop where
  imm : ∀ b o v, G.imm b o = some v → w.cell? ⟨b, o, none⟩ = some v
  slot : ∀ p s, S.get p = some s → s.live = true → ∀ b c, G.own p s.gen s.ext = some (b, c) → SlotAt G w b c s
  lvs : ∀ p s, S.get p = some s → s.lv S.lvl = true
  apart : ∀ p q s t, S.get p = some s → S.get q = some t → s.live = true → t.live = true → ∀ b c d, G.own p s.gen s.ext = some (b, c) → G.own q t.gen t.ext = some (b, d) → p = q
  dom : ∀ p g n x, G.own p g n = some x → p.l ≤ S.lvl ∧ ∃ s, S.get p = some s ∧ (g < s.gen ∨ (g = s.gen ∧ n ≤ s.ext))
  base : ∀ p g n b c, G.own p g n = some (b, c) → B p.l ≤ b ∧ b < w.heap.size
  mono : ∀ l m, l ≤ m → m ≤ S.lvl → B l ≤ B m
  fits : ∀ l, l ≤ S.lvl → B l ≤ w.heap.size
  far : G.far ≤ B 0 ∧ ∀ x ∈ Cfg.tabs, G.imm x.1 x.2.1 = some x.2.2

theorem WRel.own_lvl [Cfg] {G : Gh} {S : AS} {w : World} {B : Nat → Nat} (h : WRel G S w B) : ∀ p g n x, G.own p g n = some x → p.l ≤ S.lvl := fun p g n x e => (h.dom p g n x e).1

/-- A block of which no more is told but which of its cells may be written. -/
def Froze (G : Gh) (x y : Option Obj) (b : Nat) : Prop := ∃ vs t fr fr', x = some (.cells vs t fr) ∧ y = some (.cells vs t fr') ∧ (∃ o v, G.imm b o = some v) ∧ G.far ≤ b ∧
  ∀ o, o < fr'.2 → o < fr.2 ∨ ∃ o' v, o ≤ o' ∧ G.imm b o' = some v
theorem Froze.mono {G H : Gh} (h : G.le H) {x y : Option Obj} {b : Nat} (k : Froze G x y b) : Froze H x y b := by
  obtain ⟨vs, t, fr, fr', h1, h2, ⟨o, v, h3⟩, hf, h4⟩ := k
  exact ⟨vs, t, fr, fr', h1, h2, ⟨o, v, h.imm _ _ _ h3⟩, by rw [h.far]; exact hf, fun o ho => (h4 o ho).imp id fun ⟨o', v, k1, k2⟩ => ⟨o', v, k1, h.imm _ _ _ k2⟩⟩
theorem Froze.trans {G : Gh} {x y z : Option Obj} {b : Nat} (h : Froze G x y b) (k : Froze G y z b) : Froze G x z b := by
  obtain ⟨vs, t, fr, fr', h1, h2, h3, hf, h4⟩ := h
  obtain ⟨us, u, gr, gr', k1, k2, _, _, k4⟩ := k
  rw [h2] at k1
  cases k1
  refine ⟨vs, t, fr, gr', h1, k2, h3, hf, fun o ho => ?_⟩
  rcases k4 o ho with m | m
  · exact h4 o m
  · exact .inr m

/-- What a step changes: it is told in the log. -/
structure Mod (G : Gh) (S : AS) (w : World) (G' : Gh) (S' : AS) (w' : World) : Prop where
  le : G.le G'
  lvl : S'.lvl = S.lvl
  fn : S'.fn = S.fn
  log : ∃ nl : Loc → Prop, (∀ p, p ∈ S'.log ↔ p ∈ S.log ∨ nl p) ∧ (∀ b, b < w.heap.size → w'.heap[b]? = w.heap[b]? ∨ Froze G' w.heap[b]? w'.heap[b]? b ∨ ∃ p, nl p ∧ ∃ g n c, G'.own p g n = some (b, c)) ∧
    (∀ p, p.l ≤ S.lvl → ¬ nl p → S'.get p = S.get p ∧ ∀ g n, G'.own p g n = G.own p g n) ∧
    (∀ b o v, G'.imm b o = some v → G.imm b o = some v ∨ w.heap.size ≤ b ∨ ∃ p, nl p ∧ ∃ g n c, G'.own p g n = some (b, c))
  os : w'.os = w.os
  tape : w'.tape = w.tape
  output : w'.output = w.output
  size : w.heap.size ≤ w'.heap.size

theorem Mod.refl (G : Gh) (S : AS) (w : World) : Mod G S w G S w :=
  ⟨Gh.le.refl G, rfl, rfl, ⟨fun _ => False, fun _ => by simp, fun _ _ => .inl rfl, fun _ _ _ => ⟨rfl, fun _ _ => rfl⟩, fun _ _ _ h => .inl h⟩, rfl, rfl, rfl, Nat.le_refl _⟩

theorem Mod.trans {G H I : Gh} {S T U : AS} {a b c : World} (h : Mod G S a H T b) (k : Mod H T b I U c) : Mod G S a I U c := by
  obtain ⟨n1, e1, b1, s1, i1⟩ := h.log
  obtain ⟨n2, e2, b2, s2, i2⟩ := k.log
  refine ⟨h.le.trans k.le, k.lvl.trans h.lvl, k.fn.trans h.fn, ⟨fun p => n1 p ∨ n2 p, fun p => by rw [e2, e1, or_assoc], fun x hx => ?_, fun p hl hp => ?_, fun x o v hi => ?_⟩, k.os.trans h.os, k.tape.trans h.tape, k.output.trans h.output, Nat.le_trans h.size k.size⟩
  · rcases b2 x (Nat.lt_of_lt_of_le hx h.size) with h2 | h2 | ⟨p, hp, g, n, d, ho⟩
    · rcases b1 x hx with h1 | h1 | ⟨p, hp, g, n, d, ho⟩
      · exact .inl (h2.trans h1)
      · rw [h2]; exact .inr (.inl (h1.mono k.le))
      · exact .inr (.inr ⟨p, .inl hp, g, n, d, k.le.own _ _ _ _ ho⟩)
    · rcases b1 x hx with h1 | h1 | ⟨p, hp, g, n, d, ho⟩
      · rw [h1] at h2; exact .inr (.inl h2)
      · exact .inr (.inl ((h1.mono k.le).trans h2))
      · exact .inr (.inr ⟨p, .inl hp, g, n, d, k.le.own _ _ _ _ ho⟩)
    · exact .inr (.inr ⟨p, .inr hp, g, n, d, ho⟩)
  · have hp1 : ¬ n1 p := fun e => hp (.inl e)
    have hp2 : ¬ n2 p := fun e => hp (.inr e)
    have hl2 : p.l ≤ T.lvl := by rw [h.lvl]; exact hl
    exact ⟨(s2 p hl2 hp2).1.trans (s1 p hl hp1).1, fun g n => ((s2 p hl2 hp2).2 g n).trans ((s1 p hl hp1).2 g n)⟩
  · rcases i2 x o v hi with h2 | h2 | ⟨p, hp, g, n, d, ho⟩
    · rcases i1 x o v h2 with h1 | h1 | ⟨p, hp, g, n, d, ho⟩
      · exact .inl h1
      · exact .inr (.inl h1)
      · exact .inr (.inr ⟨p, .inl hp, g, n, d, k.le.own _ _ _ _ ho⟩)
    · exact .inr (.inl (Nat.le_trans h.size h2))
    · exact .inr (.inr ⟨p, .inr hp, g, n, d, ho⟩)
end Go.Proofs.YtjdccpmbaobpdaaGreatDoor

namespace Go.Proofs.YtjdccpmbaobpdaaGreatDoor
open Go.RowKit

theorem cell_alloc_old {w : World} {a : Addr} {v : Value} (h : w.cell? a = some v) (o : Obj) : (w.alloc o).cell? a = some v :=
  (World.cell?_alloc_lt w o a (World.block_lt_of_cell? w a h)).trans h

theorem SlotAt.move {G G' : Gh} {w w' : World} {b c : Nat} {s : ASlot} (hle : G.le G') (hh : w'.heap[b]? = w.heap[b]?) (hi : ∀ o, G'.imm b o = G.imm b o) (h : SlotAt G w b c s) : SlotAt G' w' b c s := by
  cases s with
  | obj g t cs =>
    obtain ⟨h1, vs, fr, h2, h3, h4⟩ := h
    exact ⟨fun o => (hi o).trans (h1 o), vs, fr, hh.trans h2, h3, h4.mono hle⟩
  | tok g n sz e =>
    obtain ⟨h1, vs, fr, h2, h3⟩ := h
    exact ⟨fun o ho => (hi o).trans (h1 o ho), vs, fr, hh.trans h2, h3⟩
  | row g n sz e cs =>
    obtain ⟨h1, vs, fr, h2, h3, h4, h5, h6, h7⟩ := h
    exact ⟨fun o => (hi o).trans (h1 o), vs, fr, hh.trans h2, h3, h4, h5, h6, h7.mono hle⟩
  | map g es ck =>
    obtain ⟨ents, h1, h2⟩ := h
    exact ⟨ents, hh.trans h1, h2.mono hle⟩
  | iter g s pos => exact hh.trans h
  | dead g n => exact h

theorem SlotAt.live {G : Gh} {w : World} {b c : Nat} {s : ASlot} (h : SlotAt G w b c s) : s.live = true := by
  cases s with
  | dead g n => exact absurd h id
  | _ => rfl

theorem WRel.drew [Cfg] {G : Gh} {S : AS} {w : World} {B : Nat → Nat} (h : WRel G S w B) : WRel G S w.drew B :=
  ⟨h.imm, fun p s hp hl b c ho => (h.slot p s hp hl b c ho).move (Gh.le.refl G) rfl fun _ => rfl, h.lvs, h.apart, h.dom, h.base, h.mono, h.fits, h.far⟩

theorem Mod.drew (G : Gh) (S : AS) (w : World) : Mod G S w G S w.drew :=
  ⟨Gh.le.refl G, rfl, rfl, ⟨fun _ => False, fun _ => by simp, fun _ _ => .inl rfl, fun _ _ _ => ⟨rfl, fun _ _ => rfl⟩, fun _ _ _ h => .inl h⟩, rfl, rfl, rfl, Nat.le_refl _⟩

theorem WRel.imm_lt [Cfg] {G : Gh} {S : AS} {w : World} {B : Nat → Nat} (h : WRel G S w B) {b o : Nat} {v : Value} (hi : G.imm b o = some v) : b < w.heap.size :=
  World.block_lt_of_cell? w ⟨b, o, none⟩ (h.imm b o v hi)

theorem WRel.imm_new [Cfg] {G : Gh} {S : AS} {w : World} {B : Nat → Nat} (h : WRel G S w B) (o : Nat) : G.imm w.heap.size o = none := by
  cases hi : G.imm w.heap.size o with
  | none => rfl
  | some v => exact absurd (h.imm_lt hi) (Nat.lt_irrefl _)

/-- A block whose cells stay as they are. -/
theorem WRel.newImm [Cfg] {G : Gh} {S : AS} {w : World} {B : Nat → Nat} (h : WRel G S w B) (vs : List Value) (e : TypeId) :
    ∃ G', WRel G' S (w.alloc (.cells vs.toArray e)) B ∧ Mod G S w G' S (w.alloc (.cells vs.toArray e)) ∧ ∀ o v, vs[o]? = some v → G'.imm w.heap.size o = some v := by
  have hlt : ∀ b, b < w.heap.size → (w.alloc (.cells vs.toArray e)).heap[b]? = w.heap[b]? := fun b hb => Below.heap_alloc w _ b hb
  have hle : G.le { own := G.own, imm := fun b o => if b = w.heap.size then vs[o]? else G.imm b o, far := G.far } := ⟨fun _ _ _ _ h => h, fun b o v hi => by
    simp only
    rw [if_neg (Nat.ne_of_lt (h.imm_lt hi))]
    exact hi, rfl⟩
  refine ⟨{ own := G.own, imm := fun b o => if b = w.heap.size then vs[o]? else G.imm b o, far := G.far }, ⟨?_, ?_, h.lvs, h.apart, h.dom, ?_, h.mono, ?_, h.far.1, fun x hx => hle.imm _ _ _ (h.far.2 x hx)⟩,
    ⟨hle, rfl, rfl, ⟨fun _ => False, fun _ => by simp, fun b hb => .inl (hlt b hb), fun _ _ _ => ⟨rfl, fun _ _ => rfl⟩, fun b o v hi => ?_⟩, rfl, rfl, rfl, by simp⟩, fun o v ho => by simp [ho]⟩
  · intro b o v hi
    simp only at hi
    split at hi
    · rename_i hb
      subst hb
      simp only [World.cell?, heap_alloc_new]
      simpa using hi
    · exact cell_alloc_old (h.imm b o v hi) _
  · intro p s hp hl b c ho
    have hb := (h.base p s.gen s.ext b c ho).2
    exact (h.slot p s hp hl b c ho).move hle (hlt b hb) fun o => if_neg (Nat.ne_of_lt hb)
  · intro p g n b c ho
    obtain ⟨h1, h2⟩ := h.base p g n b c ho
    exact ⟨h1, by simp; omega⟩
  · intro l hl
    have := h.fits l hl
    simp
    omega
  · simp only at hi
    split at hi
    · rename_i hb; exact .inr (.inl (by omega))
    · exact .inl hi

/-- Some of the cells that stay may not be written any more. -/
theorem WRel.froze [Cfg] {G : Gh} {S : AS} {w w' : World} {B : Nat → Nat} (h : WRel G S w B) {b : Nat} (hf : Froze G w.heap[b]? w'.heap[b]? b) (ho : ∀ x, x ≠ b → w'.heap[x]? = w.heap[x]?) (hsz : w'.heap.size = w.heap.size)
    (hos : w'.os = w.os) (htape : w'.tape = w.tape) (hout : w'.output = w.output) : WRel G S w' B ∧ Mod G S w G S w' := by
  obtain ⟨vs, t, fr, fr', h1, h2, ⟨o0, v0, h3⟩, hfar, h4⟩ := hf
  have hcell : ∀ x o, w'.cell? ⟨x, o, none⟩ = w.cell? ⟨x, o, none⟩ := fun x o => by
    by_cases hx : x = b
    · subst hx; simp only [World.cell?, h1, h2]
    · exact World.cell?_of_block (w := w) (ho x hx)
  refine ⟨⟨fun x o v hi => (hcell x o).trans (h.imm x o v hi), fun p s hp hl x c hown => ?_, h.lvs, h.apart, h.dom, fun p g n x c hown => by rw [hsz]; exact h.base p g n x c hown, h.mono, fun l hl => by rw [hsz]; exact h.fits l hl, h.far⟩,
    ⟨Gh.le.refl G, rfl, rfl, ⟨fun _ => False, fun _ => by simp, fun x hx => ?_, fun _ _ _ => ⟨rfl, fun _ _ => rfl⟩, fun _ _ _ h => .inl h⟩, hos, htape, hout, by omega⟩⟩
  · have hs := h.slot p s hp hl x c hown
    by_cases hx : x = b
    · subst hx
      cases s with
      | obj g t cs => rw [hs.1 o0] at h3; cases h3
      | row g n sz e cs => rw [hs.1 o0] at h3; cases h3
      | tok g n sz e =>
        obtain ⟨k1, us, gr, k2, k3, k4, k5⟩ := hs
        rw [h1] at k2
        cases k2
        refine ⟨k1, vs, fr', h2, k3, k4, Nat.le_of_not_lt fun hgt => ?_⟩
        rcases h4 (n * sz) hgt with m1 | ⟨o', v, m1, m2⟩
        · omega
        · rw [k1 o' m1] at m2; cases m2
      | map g es ck =>
        obtain ⟨ents, k1, _⟩ := hs
        rw [h1] at k1
        cases k1
      | iter g s pos =>
        have k1 : w.heap[x]? = some (.stringIter s pos) := hs
        rw [h1] at k1
        cases k1
      | dead g n => exact hs
    · exact hs.move (Gh.le.refl G) (ho x hx) fun _ => rfl
  · by_cases hxb : x = b
    · subst hxb
      exact .inr (.inl ⟨vs, t, fr, fr', h1, h2, ⟨o0, v0, h3⟩, hfar, h4⟩)
    · exact .inl (ho x hxb)

def Gh.upd (G : Gh) (p : Loc) (g n : Nat) (x : Nat × Nat) (imm : Nat → Nat → Option Value) : Gh :=
  { own := fun q h m => if q = p ∧ h = g ∧ m = n then some x else G.own q h m, imm, far := G.far }

/-- A slot is laid anew. -/
theorem WRel.upd [Cfg] {G : Gh} {S : AS} {w : World} {B : Nat → Nat} (h : WRel G S w B) {p : Loc} {s : ASlot} {b c : Nat} {imm : Nat → Nat → Option Value} {w' : World}
    (h1 : p.l ≤ S.lvl) (h2 : ∀ x, G.own p s.gen s.ext = some x → x = (b, c)) (h3 : ∀ t, S.get p = some t → t.gen < s.gen ∨ (t.gen = s.gen ∧ t.ext ≤ s.ext))
    (h4 : ∀ q t d, q ≠ p → S.get q = some t → t.live = true → G.own q t.gen t.ext = some (b, d) → False)
    (h5 : ∀ x, x < w.heap.size → x ≠ b → w'.heap[x]? = w.heap[x]?) (h6 : w.heap.size ≤ w'.heap.size) (h7 : b < w'.heap.size) (h8 : B p.l ≤ b)
    (h9 : ∀ x o v, imm x o = some v → w'.cell? ⟨x, o, none⟩ = some v) (h10 : ∀ x o, x ≠ b → imm x o = G.imm x o) (h11 : ∀ x o v, G.imm x o = some v → imm x o = some v)
    (h12 : SlotAt (G.upd p s.gen s.ext (b, c) imm) w' b c s) (h13 : s.lv S.lvl = true) (hos : w'.os = w.os) (htape : w'.tape = w.tape) (hout : w'.output = w.output) :
    WRel (G.upd p s.gen s.ext (b, c) imm) (S.set p s) w' B ∧ Mod G S w (G.upd p s.gen s.ext (b, c) imm) (S.set p s) w' := by
  have hle : G.le (G.upd p s.gen s.ext (b, c) imm) := ⟨fun q g n x ho => by
    simp only [Gh.upd]
    split
    · rename_i e
      obtain ⟨rfl, rfl, rfl⟩ := e
      rw [h2 x ho]
    · exact ho, h11, rfl⟩
  have hlive : s.live = true := h12.live
  have hother : ∀ q, q ≠ p → ∀ g n, (G.upd p s.gen s.ext (b, c) imm).own q g n = G.own q g n := fun q hq g n => by
    simp only [Gh.upd]
    rw [if_neg (fun e => hq e.1)]
  have hcur : (G.upd p s.gen s.ext (b, c) imm).own p s.gen s.ext = some (b, c) := by simp [Gh.upd]
  refine ⟨⟨h9, ?_, ?_, ?_, ?_, ?_, h.mono, ?_, h.far.1, fun x hx => hle.imm _ _ _ (h.far.2 x hx)⟩, ⟨hle, rfl, rfl, ⟨fun q => q = p, fun q => mem_logPut, fun x hx => ?_, fun q _ hq => ?_, fun x o v hi => ?_⟩, hos, htape, hout, h6⟩⟩
  · intro q t hq hl x d ho
    by_cases hqp : q = p
    · subst hqp
      rw [AS.get_set_same] at hq
      cases hq
      rw [hcur] at ho
      cases ho
      exact h12
    · rw [AS.get_set_ne _ _ hqp] at hq
      rw [hother q hqp] at ho
      have hxb : x ≠ b := fun e => h4 q _ d hqp hq hl (by rw [← e]; exact ho)
      exact (h.slot q t hq hl x d ho).move hle (h5 x (h.base _ _ _ x d ho).2 hxb) fun o => h10 x o hxb
  · intro q t hq
    by_cases hqp : q = p
    · subst hqp
      rw [AS.get_set_same] at hq
      cases hq
      exact h13
    · rw [AS.get_set_ne _ _ hqp] at hq
      exact h.lvs q t hq
  · intro q r t u hq hr ht hu x d d' ho ho'
    by_cases hqp : q = p
    · by_cases hrp : r = p
      · rw [hqp, hrp]
      · subst hqp
        rw [AS.get_set_same] at hq
        cases hq
        rw [hcur] at ho
        cases ho
        rw [AS.get_set_ne _ _ hrp] at hr
        rw [hother r hrp] at ho'
        exact (h4 r u d' hrp hr hu ho').elim
    · by_cases hrp : r = p
      · subst hrp
        rw [AS.get_set_same] at hr
        cases hr
        rw [hcur] at ho'
        cases ho'
        rw [AS.get_set_ne _ _ hqp] at hq
        rw [hother q hqp] at ho
        exact (h4 q t d hqp hq ht ho).elim
      · rw [AS.get_set_ne _ _ hqp] at hq
        rw [AS.get_set_ne _ _ hrp] at hr
        rw [hother q hqp] at ho
        rw [hother r hrp] at ho'
        exact h.apart q r t u hq hr ht hu x d d' ho ho'
  · intro q g n x ho
    by_cases hqp : q = p
    · subst hqp
      refine ⟨h1, s, AS.get_set_same _ _ _, ?_⟩
      simp only [Gh.upd] at ho
      split at ho
      · rename_i e
        obtain ⟨_, rfl, rfl⟩ := e
        exact .inr ⟨rfl, Nat.le_refl _⟩
      · obtain ⟨_, t, ht, hlt⟩ := h.dom q g n x ho
        have := h3 t ht
        omega
    · rw [hother q hqp] at ho
      obtain ⟨k1, t, ht, hlt⟩ := h.dom q g n x ho
      exact ⟨k1, t, by rw [AS.get_set_ne _ _ hqp]; exact ht, hlt⟩
  · intro q g n x d ho
    simp only [Gh.upd] at ho
    split at ho
    · rename_i e
      obtain ⟨rfl, _, _⟩ := e
      cases ho
      exact ⟨h8, h7⟩
    · obtain ⟨k1, k2⟩ := h.base q g n x d ho
      exact ⟨k1, Nat.lt_of_lt_of_le k2 h6⟩
  · intro l hl
    exact Nat.le_trans (h.fits l hl) h6
  · by_cases hxb : x = b
    · subst hxb
      exact .inr (.inr ⟨p, rfl, _, _, _, hcur⟩)
    · exact .inl (h5 x hx hxb)
  · have hqp : q ≠ p := hq
    exact ⟨AS.get_set_ne _ _ hqp, fun g n => hother q hqp g n⟩
  · by_cases hxb : x = b
    · subst hxb
      exact .inr (.inr ⟨p, rfl, _, _, _, hcur⟩)
    · exact .inl ((h10 x o hxb).symm.trans hi)

theorem AS.fresh_lt {S : AS} {p : Loc} {t : ASlot} (h : S.get p = some t) : t.gen < S.fresh p := by
  simp [AS.fresh, h]

theorem WRel.fresh_none [Cfg] {G : Gh} {S : AS} {w : World} {B : Nat → Nat} (h : WRel G S w B) (p : Loc) (n : Nat) : G.own p (S.fresh p) n = none := by
  cases ho : G.own p (S.fresh p) n with
  | none => rfl
  | some x =>
    obtain ⟨_, s, hs, hlt⟩ := h.dom _ _ _ _ ho
    have := AS.fresh_lt hs
    omega

theorem WRel.ext_none [Cfg] {G : Gh} {S : AS} {w : World} {B : Nat → Nat} (h : WRel G S w B) {p : Loc} {t : ASlot} (ht : S.get p = some t) {n : Nat} (hn : t.ext < n) : G.own p t.gen n = none := by
  cases ho : G.own p t.gen n with
  | none => rfl
  | some x =>
    obtain ⟨_, s, hs, hlt⟩ := h.dom _ _ _ _ ho
    rw [ht] at hs
    cases hs
    omega

theorem Gh.upd_le {G : Gh} {p : Loc} {g n : Nat} {x : Nat × Nat} (h : ∀ y, G.own p g n = some y → y = x) : G.le (G.upd p g n x G.imm) := ⟨fun q g' m y ho => by
  simp only [Gh.upd]
  split
  · rename_i e
    obtain ⟨rfl, rfl, rfl⟩ := e
    rw [h y ho]
  · exact ho, fun _ _ _ h => h, rfl⟩

/-- A slot of a new block, whose cells may change. -/
theorem WRel.newSlot [Cfg] {G : Gh} {S : AS} {w : World} {B : Nat → Nat} (h : WRel G S w B) {p : Loc} (hp : p.l ≤ S.lvl) (s : ASlot) (hgen : s.gen = S.fresh p) (ob : Obj) (c : Nat) (hlv : s.lv S.lvl = true)
    (hs : ∀ G', G.le G' → (∀ o, G'.imm w.heap.size o = none) → SlotAt G' (w.alloc ob) w.heap.size c s) :
    ∃ G', G'.own p s.gen s.ext = some (w.heap.size, c) ∧ WRel G' (S.set p s) (w.alloc ob) B ∧ Mod G S w G' (S.set p s) (w.alloc ob) := by
  have hn := h.fresh_none p s.ext
  refine ⟨_, ?_, h.upd (p := p) (s := s) (b := w.heap.size) (c := c) (imm := G.imm) (w' := w.alloc ob) hp
    (fun x hx => by rw [hgen, hn] at hx; cases hx) (fun t ht => .inl (by rw [hgen]; exact AS.fresh_lt ht))
    (fun q t d _ _ _ ho => by have := (h.base _ _ _ _ _ ho).2; omega) (fun x hx _ => Below.heap_alloc w _ x hx) (by simp) (by simp) (h.fits _ hp)
    (fun x o v hi => cell_alloc_old (h.imm x o v hi) _) (fun _ _ _ => rfl) (fun _ _ _ h => h) (hs _ (Gh.upd_le fun y hy => by rw [hgen, hn] at hy; cases hy) fun o => h.imm_new o) hlv rfl rfl rfl⟩
  simp [Gh.upd]

/-- A slot whose block is written to. -/
theorem WRel.setSlot [Cfg] {G : Gh} {S : AS} {w w' : World} {B : Nat → Nat} (h : WRel G S w B) {p : Loc} {s t : ASlot} {b c : Nat} (hp : S.get p = some t) (hl : t.live = true) (ho : G.own p t.gen t.ext = some (b, c)) (hgen : s.gen = t.gen) (hext : t.ext ≤ s.ext)
    (himm : ∀ o, G.imm b o = none) (hlv : s.lv S.lvl = true) (h5 : ∀ x, x ≠ b → w'.heap[x]? = w.heap[x]?) (h6 : w'.heap.size = w.heap.size) (hos : w'.os = w.os) (htape : w'.tape = w.tape) (hout : w'.output = w.output)
    (hs : ∀ G', G.le G' → (∀ o, G'.imm b o = none) → SlotAt G' w' b c s) : ∃ G', G'.own p s.gen s.ext = some (b, c) ∧ WRel G' (S.set p s) w' B ∧ Mod G S w G' (S.set p s) w' := by
  have hb := h.base _ _ _ _ _ ho
  have hsame : ∀ y, G.own p s.gen s.ext = some y → y = (b, c) := fun y hy => by
    rw [hgen] at hy
    rcases Nat.lt_or_ge t.ext s.ext with hlt | hge
    · rw [h.ext_none hp hlt] at hy; cases hy
    · rw [show s.ext = t.ext by omega, ho] at hy
      cases hy; rfl
  refine ⟨_, ?_, h.upd (p := p) (s := s) (b := b) (c := c) (imm := G.imm) (w' := w') (h.dom _ _ _ _ ho).1 hsame (fun u hu => by rw [hp] at hu; cases hu; exact .inr ⟨hgen.symm, hext⟩)
    (fun q u d hq hu hlu ho' => hq (h.apart q p u t hu hp hlu hl b d c ho' ho)) (fun x _ hx => h5 x hx) (by omega) (by rw [h6]; exact hb.2) hb.1
    (fun x o v hi => ?_) (fun _ _ _ => rfl) (fun _ _ _ h => h) (hs _ (Gh.upd_le hsame) himm) hlv hos htape hout⟩
  · simp [Gh.upd]
  · have hxb : x ≠ b := fun e => by rw [e, himm o] at hi; cases hi
    rw [World.cell?_of_block (w := w) (h5 x hxb)]
    exact h.imm x o v hi

/-- A slot that is laid in a new block. -/
theorem WRel.moveSlot [Cfg] {G : Gh} {S : AS} {w : World} {B : Nat → Nat} (h : WRel G S w B) {p : Loc} {s t : ASlot} (hpl : p.l ≤ S.lvl) (hp : S.get p = some t) (hgen : s.gen = t.gen) (hext : t.ext < s.ext) (ob : Obj) (c : Nat) (hlv : s.lv S.lvl = true)
    (hs : ∀ G', G.le G' → (∀ o, G'.imm w.heap.size o = none) → SlotAt G' (w.alloc ob) w.heap.size c s) :
    ∃ G', G'.own p s.gen s.ext = some (w.heap.size, c) ∧ WRel G' (S.set p s) (w.alloc ob) B ∧ Mod G S w G' (S.set p s) (w.alloc ob) := by
  have hn : G.own p s.gen s.ext = none := by rw [hgen]; exact h.ext_none hp hext
  refine ⟨_, ?_, h.upd (p := p) (s := s) (b := w.heap.size) (c := c) (imm := G.imm) (w' := w.alloc ob) hpl
    (fun x hx => by rw [hn] at hx; cases hx) (fun u hu => by rw [hp] at hu; cases hu; exact .inr ⟨hgen.symm, Nat.le_of_lt hext⟩)
    (fun q t d _ _ _ ho => by have := (h.base _ _ _ _ _ ho).2; omega) (fun x hx _ => Below.heap_alloc w _ x hx) (by simp) (by simp) (h.fits _ hpl)
    (fun x o v hi => cell_alloc_old (h.imm x o v hi) _) (fun _ _ _ => rfl) (fun _ _ _ h => h) (hs _ (Gh.upd_le fun y hy => by rw [hn] at hy; cases hy) fun o => h.imm_new o) hlv rfl rfl rfl⟩
  simp [Gh.upd]

/-- A row of the call's own, whose elements stay, in a new block. -/
theorem WRel.newTok [Cfg] {G : Gh} {S : AS} {w : World} {B : Nat → Nat} (h : WRel G S w B) {p : Loc} {g n sz cap : Nat} {e : TypeId} (xs rest : List Value) (hp1 : p.l ≤ S.lvl)
    (hn : G.own p g n = none) (h3 : ∀ t, S.get p = some t → t.gen < g ∨ (t.gen = g ∧ t.ext ≤ n)) (hx : xs.length = n * sz) (hcap : n ≤ cap) (hall : (xs ++ rest).length = cap * sz) :
    ∃ G', G'.own p g n = some (w.heap.size, cap) ∧ (∀ o v, xs[o]? = some v → G'.imm w.heap.size o = some v) ∧ WRel G' (S.set p (.tok g n sz e)) (w.alloc (.cells (xs ++ rest).toArray e)) B ∧
      Mod G S w G' (S.set p (.tok g n sz e)) (w.alloc (.cells (xs ++ rest).toArray e)) := by
  refine ⟨_, ?_, ?_, h.upd (p := p) (s := .tok g n sz e) (b := w.heap.size) (c := cap) (imm := fun b o => if b = w.heap.size then xs[o]? else G.imm b o) (w' := w.alloc (.cells (xs ++ rest).toArray e)) hp1
    (fun x hx => by rw [ASlot.gen, ASlot.ext, hn] at hx; cases hx) h3
    (fun q t d _ _ _ ho => by have := (h.base _ _ _ _ _ ho).2; omega) (fun x hx _ => Below.heap_alloc w _ x hx) (by simp) (by simp) (h.fits _ hp1)
    (fun x o v hi => ?_) (fun x o hne => if_neg hne) (fun x o v hi => ?_) ?_ rfl rfl rfl rfl⟩
  · simp [Gh.upd, ASlot.gen, ASlot.ext]
  · intro o v ho
    simp [Gh.upd, ho]
  · split at hi
    · rename_i hb
      subst hb
      simp only [World.cell?, heap_alloc_new]
      have hlt := (List.getElem?_eq_some_iff.1 hi).1
      simp only [List.getElem?_toArray]
      simpa [List.getElem?_append_left hlt] using hi
    · exact cell_alloc_old (h.imm x o v hi) _
  · rw [if_neg (Nat.ne_of_lt (h.imm_lt hi))]
    exact hi
  · refine ⟨fun o ho => ?_, (xs ++ rest).toArray, (0, 0), heap_alloc_new w _, by simpa using hall, hcap, Nat.zero_le _⟩
    simp only [Gh.upd, if_true]
    exact List.getElem?_eq_none (by omega)

/-- A row of the call's own, whose elements stay, that grows where it lies. -/
theorem WRel.growTok [Cfg] {G : Gh} {S : AS} {w : World} {B : Nat → Nat} (h : WRel G S w B) {p : Loc} {g n m sz b cap : Nat} {e : TypeId} {cur : Array Value} {fr : Nat × Nat} (news : List Value) (hp : S.get p = some (.tok g n sz e))
    (ho : G.own p g n = some (b, cap)) (hcur : w.heap[b]? = some (.cells cur e fr)) (hnews : news.length = m * sz) (hm : 0 < m) (hfit : n + m ≤ cap) :
    ∃ G', G'.own p g (n + m) = some (b, cap) ∧ (∀ o v, news[o]? = some v → G'.imm b (n * sz + o) = some v) ∧
      WRel G' (S.set p (.tok g (n + m) sz e)) (w.setRow b (cur.toList.take (n * sz) ++ news ++ cur.toList.drop (n * sz + news.length)).toArray) B ∧
      Mod G S w G' (S.set p (.tok g (n + m) sz e)) (w.setRow b (cur.toList.take (n * sz) ++ news ++ cur.toList.drop (n * sz + news.length)).toArray) := by
  obtain ⟨h1, vs, fr', h2, hsz, hncap, hfr⟩ := h.slot p (.tok g n sz e) hp rfl b cap ho
  rw [hcur] at h2
  cases h2
  have hb := h.base _ _ _ _ _ ho
  have hnone : G.own p g (n + m) = none := h.ext_none hp (show n < n + m by omega)
  have hmul : (n + m) * sz = n * sz + m * sz := Nat.add_mul ..
  have hfit' : (n + m) * sz ≤ cur.size := by rw [hsz]; exact Nat.mul_le_mul_right _ hfit
  refine ⟨_, ?_, ?_, h.upd (p := p) (s := .tok g (n + m) sz e) (b := b) (c := cap) (imm := fun x o => if x = b ∧ n * sz ≤ o ∧ o < n * sz + news.length then news[o - n * sz]? else G.imm x o)
    (w' := w.setRow b (cur.toList.take (n * sz) ++ news ++ cur.toList.drop (n * sz + news.length)).toArray) (h.dom _ _ _ _ ho).1
    (fun x hx => by rw [ASlot.gen, ASlot.ext, hnone] at hx; cases hx) (fun t ht => by rw [hp] at ht; cases ht; exact .inr ⟨rfl, by simp [ASlot.ext]⟩)
    (fun q t d hq ht hl ho' => hq (h.apart q p t (.tok g n sz e) ht hp hl rfl b d cap ho' ho)) (fun x hx hne => setRow_other w b x _ hne) (by simp) (by simpa using hb.2) hb.1
    (fun x o v hi => ?_) (fun x o hne => if_neg (fun e => hne e.1)) (fun x o v hi => ?_) ?_ rfl rfl rfl rfl⟩
  · simp [Gh.upd, ASlot.gen, ASlot.ext]
  · intro o v hv
    have hlt := (List.getElem?_eq_some_iff.1 hv).1
    simp only [Gh.upd]
    rw [if_pos ⟨by trivial, by omega, by omega⟩, Nat.add_sub_cancel_left]
    exact hv
  · have hrow := setRow_heap w b cur (cur.toList.take (n * sz) ++ news ++ cur.toList.drop (n * sz + news.length)).toArray e fr hcur
    have htk : (cur.toList.take (n * sz)).length = n * sz := by simp; omega
    split at hi
    · rename_i hx
      obtain ⟨rfl, hlo, hhi⟩ := hx
      simp only [World.cell?, hrow]
      simp only [Option.isSome_none, Bool.false_eq_true, if_false, List.getElem?_toArray]
      rw [List.append_assoc, List.getElem?_append_right (by omega), htk, List.getElem?_append_left (by omega)]
      exact hi
    · rename_i hx
      by_cases hxb : x = b
      · subst hxb
        have hlo : o < n * sz := by
          rcases Nat.lt_or_ge o (n * sz) with hlt | hge
          · exact hlt
          · rw [h1 o hge] at hi; cases hi
        have hc := h.imm x o v hi
        simp only [World.cell?, hcur] at hc
        simp only [World.cell?, hrow]
        simp only [Option.isSome_none, Bool.false_eq_true, if_false, List.getElem?_toArray] at hc ⊢
        rw [List.append_assoc, List.getElem?_append_left (by omega), List.getElem?_take, if_pos hlo]
        simpa using hc
      · rw [World.cell?_of_block (w := w) (by exact setRow_other w b x _ hxb)]
        exact h.imm x o v hi
  · split
    · rename_i hx
      obtain ⟨rfl, hlo, _⟩ := hx
      rw [h1 o hlo] at hi
      cases hi
    · exact hi
  · refine ⟨fun o ho' => ?_, _, fr, setRow_heap w b cur _ e fr hcur, ?_, hfit, by omega⟩
    · simp only [Gh.upd]
      rw [if_neg (by omega)]
      exact h1 o (by omega)
    · simp
      omega
end Go.Proofs.YtjdccpmbaobpdaaGreatDoor

namespace Go.Proofs.YtjdccpmbaobpdaaGreatDoor
open Go.RowKit

theorem evalPure_run {P : Program} {α : Type} {s : Sem α} {a : α} (h : evalPure P s = some a) (w : World) : s.run P w = .ok a w := by
  induction s with
  | pure b => simp only [evalPure, Option.some.injEq] at h; rw [h]; rfl
  | program k ih => exact ih P h
  | mark m k ih => exact ih h
  | _ => simp [evalPure] at h

theorem ofV1_rel (G : Gh) (v : Value) : VRel G (AV.ofV1 v) v := by
  unfold AV.ofV1
  split
  · rename_i cs; simpa using VRel.agg_iff (CRel.lits G cs.toList)
  · exact .lit v
theorem ofV_rel (G : Gh) (v : Value) : VRel G (AV.ofV v) v := by
  unfold AV.ofV
  split
  · rename_i cs; simpa using VRel.agg_iff (CRel.lits G cs.toList)
  · rename_i vs
    have : VRel G (.tup (vs.toList.map AV.ofV1)) (.tuple vs.toList.toArray) := by
      refine .tup _ _ (by simp) fun i a v ha hv => ?_
      rw [List.getElem?_map, hv] at ha
      simp at ha
      rw [← ha]
      exact ofV1_rel G v
    simpa using this
  · exact .lit v

/-- Calls that are put off. -/
def DRel (G : Gh) : List (FuncId × List AV) → List Deferred → Prop
  | [], [] => True
  | x :: r, d :: t => (∃ cap, d.target = .fn (.func x.1) cap ∧ CRel G x.2 (d.args ++ cap).toList) ∧ DRel G r t
  | _, _ => False
theorem DRel.mono {G H : Gh} (hg : G.le H) : ∀ {xs : List (FuncId × List AV)} {ds : List Deferred}, DRel G xs ds → DRel H xs ds
  | [], [], _ => trivial
  | _ :: _, _ :: _, ⟨⟨cap, h1, h2⟩, h3⟩ => ⟨⟨cap, h1, h2.mono hg⟩, DRel.mono hg h3⟩
  | [], _ :: _, h => h
  | _ :: _, [], h => h

def TRel (G : Gh) (S : AS) (T : TM) (a : Act) : Prop := CRel G T a.tmps.toList ∧ DRel G S.dfr a.defers
theorem TRel.mono {G H : Gh} {S S' : AS} (hg : G.le H) {T : TM} {a : Act} (h : TRel G S T a) (hd : S'.dfr = S.dfr) : TRel H S' T a := ⟨h.1.mono hg, by rw [hd]; exact h.2.mono hg⟩
theorem TRel.eval {G : Gh} {S : AS} {T : TM} {a : Act} (h : TRel G S T a) (x : Operand) : VRel G (aev T x) (a.eval x) := by
  cases x with
  | tmp t =>
    simp only [aev, Act.eval]
    rcases Nat.lt_or_ge t T.length with ht | ht
    · obtain ⟨v, hv, hr⟩ := h.1.get (List.getElem?_eq_getElem ht)
      rw [List.getD_eq_getElem?_getD, List.getElem?_eq_getElem ht]
      rw [Array.getElem?_toList] at hv
      simpa [hv] using hr
    · have hl : T.length = a.tmps.size := by simpa using h.1.1
      rw [List.getD_eq_getElem?_getD, List.getElem?_eq_none ht]
      rw [Array.getD_eq_getD_getElem?, Array.getElem?_eq_none (hl ▸ ht)]
      exact .lit _
  | const v => exact ofV_rel G v
  | global g => exact .lit _
  | func f => exact .lit _
theorem TRel.put {G : Gh} {S : AS} {T : TM} {a : Act} (h : TRel G S T a) (d : Option Tmp) {x : AV} {v : Value} (hv : VRel G x v) : TRel G S (T.put d x) (a.put d v) := by
  cases d with
  | none => exact h
  | some d =>
    refine ⟨?_, h.2⟩
    simp only [TM.put, Act.put, Array.toList_setIfInBounds]
    exact h.1.set hv

theorem TRel.yielded {G : Gh} {S : AS} {T : TM} {a : Act} (h : TRel G S T a) (ops : Array Oper) : yielded ops a.tmps = ayielded ops T := by
  funext j
  unfold Go.yielded ayielded
  cases hd : (ops[j]?).bind (·.dst) with
  | none => simp
  | some d =>
    simp only [Option.bind_some]
    cases ht : T[d]? with
    | none =>
      have hl : T.length = a.tmps.size := by simpa using h.1.1
      rw [Array.getElem?_eq_none (hl ▸ List.getElem?_eq_none_iff.1 ht)]
    | some x =>
      obtain ⟨v, hv, hr⟩ := h.1.get ht
      rw [Array.getElem?_toList] at hv
      rw [hv]
      cases hr <;> first | rfl | (cases v <;> rfl)


mutual
theorem VRel.toV {G : Gh} : ∀ {a : AV} {v u : Value}, VRel G a v → a.toV = some u → v = u
  | .lit x, v, u, h, e => by
    simp only [AV.toV, Option.some.injEq] at e
    rw [← e]; exact h.lit_inv
  | .agg cs, v, u, h, e => by
    obtain ⟨vs, rfl, hc⟩ := h.agg_inv
    simp only [AV.toV] at e
    obtain ⟨us, h1, rfl⟩ := Option.map_eq_some_iff.1 e
    rw [CRel.toVL hc h1]
  | .tup cs, v, u, h, e => by
    obtain ⟨vs, rfl, hc⟩ := h.tup_inv
    simp only [AV.toV] at e
    obtain ⟨us, h1, rfl⟩ := Option.map_eq_some_iff.1 e
    rw [CRel.toVL hc h1]
  | .iface t x, v, u, h, e => by
    cases h with
    | iface _ _ v' h' =>
      simp only [AV.toV] at e
      obtain ⟨u', h1, rfl⟩ := Option.map_eq_some_iff.1 e
      rw [VRel.toV h' h1]
  | .ptr .., _, _, _, e => by simp [AV.toV] at e
  | .cref .., _, _, _, e => by simp [AV.toV] at e
  | .list .., _, _, _, e => by simp [AV.toV] at e
  | .row .., _, _, _, e => by simp [AV.toV] at e
  | .mref .., _, _, _, e => by simp [AV.toV] at e
  | .fn .., _, _, _, e => by simp [AV.toV] at e
theorem CRel.toVL {G : Gh} : ∀ {xs : List AV} {vs us : List Value}, CRel G xs vs → AV.toVL xs = some us → vs = us
  | [], vs, us, h, e => by
    simp only [AV.toVL, Option.some.injEq] at e
    rw [← e]
    exact List.eq_nil_of_length_eq_zero h.1.symm
  | a :: r, [], us, h, e => by have := h.1; simp at this
  | a :: r, v :: vs, us, h, e => by
    simp only [AV.toVL] at e
    split at e
    · rename_i x xs h1 h2
      cases e
      rw [VRel.toV h.head h1, CRel.toVL h.tail h2]
    · cases e
end

def OpOk [Cfg] (G : Gh) (S : AS) (w : World) (B : Nat → Nat) (r : Result Next) (v : AV) (S' : AS) : Prop :=
  ∃ G' w' u, (r = .ok (.value u) w' ∨ (r = .ok .skip w' ∧ u = undef)) ∧ VRel G' v u ∧ WRel G' S' w' B ∧ Mod G S w G' S' w'

def ArOk [Cfg] (P : Program) (G : Gh) (S : AS) (w : World) (B : Nat → Nat) (r : Result Next) : AR → Prop
  | .val v => OpOk G S w B r v S
  | .chg v p s => OpOk G S w B r v (S.set p s)
  | .call f args => ∃ args', CRel G args args' ∧ r = (callFunc f args'.toArray).run P w
  | .pan v => ∃ u, VRel G v u ∧ r = .halt (.panic u) w
  | .dfr f args => ∃ d, r = .ok (.defer d) w ∧ ∃ cap, d.target = .fn (.func f) cap ∧ CRel G args (d.args ++ cap).toList

section
variable {P : Program} {G : Gh} {S : AS} {w : World} {B : Nat → Nat}

theorem opOk_same [Cfg] (hW : WRel G S w B) {r : Result Next} {v : AV} {u : Value} (hr : r = .ok (.value u) w) (hv : VRel G v u) : OpOk G S w B r v S :=
  ⟨G, w, u, .inl hr, hv, hW, Mod.refl G S w⟩

theorem pureOp_sound [Cfg] (hW : WRel G S w B) {T : TM} {a : Act} (hT : TRel G S T a) {o : Oper} {x : AR} (h : pureOp P (aev T) o = some x) : ArOk P G S w B ((execOp a.eval o).run P w) x := by
  unfold pureOp at h
  split at h
  · rename_i hc
    simp only [Bool.and_eq_true] at hc
    have he : execOp a.eval o = execOp (fun x => ((aev T x).toV).getD undef) o := execOp_congr o (fun cs b e => by rw [e] at hc; simp [notSelect] at hc) fun x hx => by
      have h1 := Array.all_eq_true_iff_forall_mem.1 hc.2 x hx
      obtain ⟨u, hu⟩ := Option.isSome_iff_exists.1 h1
      rw [hu, (hT.eval x).toV hu]
      rfl
    split at h
    · rename_i v hv
      cases h
      rw [he]
      exact opOk_same hW (evalPure_run hv w) (ofV_rel G v)
    · cases h
  · cases h

theorem orPure_sound [Cfg] (hW : WRel G S w B) {T : TM} {a : Act} (hT : TRel G S T a) {o : Oper} {x : AR} {r : Option AR} (h : orPure r P (aev T) o = some x) (hr : ∀ y, r = some y → ArOk P G S w B ((execOp a.eval o).run P w) y) :
    ArOk P G S w B ((execOp a.eval o).run P w) x := by
  unfold orPure at h
  split at h
  · cases h; exact hr _ rfl
  · exact pureOp_sound hW hT h

theorem run_sizeOf' {t : TypeId} {i : TypeInfo} (h : P.info? t = some i) (w : World) : (sizeOf t).run P w = .ok i.size w := by
  simp [sizeOf, typeInfo, h]
theorem run_isAgg' {t : TypeId} {d : TypeDesc} (h : P.underlying t = some d) (w : World) : (isAgg t).run P w = .ok (isAggD d) w := by
  simp only [isAgg, Sem.run_bind, run_underlying h, Result.andThen_ok]
  cases d <;> rfl

theorem addr_add' (b off j : Nat) : (⟨b, off, none⟩ : Addr).add j = ⟨b, off + j, none⟩ := by unfold Addr.add; split <;> simp_all

/-- The cells of a slot. -/
theorem WRel.cellsAt [Cfg] (hW : WRel G S w B) {p : Loc} {g n b c : Nat} {cs : List AV} (h : S.cellsAt p g n = some cs) (ho : G.own p g n = some (b, c)) :
    ∃ s vs t fr, S.get p = some s ∧ s.live = true ∧ s.gen = g ∧ s.ext = n ∧ (∀ o, G.imm b o = none) ∧ w.heap[b]? = some (.cells vs t fr) ∧ FrzOK fr 0 vs.size ∧ CRel G cs (vs.toList.take cs.length) ∧ cs.length ≤ vs.size ∧
      (∀ cs' : List AV, AV.lvL S.lvl cs' = true → (s.withCells cs').lv S.lvl = true ∧ (s.withCells cs').gen = g ∧ (s.withCells cs').ext = n) ∧
      ∀ (G' : Gh) (w' : World) (cs' : List AV) (vs' : List Value), (∀ o, G'.imm b o = none) → cs'.length = cs.length → CRel G' cs' (vs'.take cs'.length) → vs'.length = vs.size → w'.heap[b]? = some (.cells vs'.toArray t fr) → SlotAt G' w' b c (s.withCells cs') := by
  unfold AS.cellsAt at h
  split at h
  · rename_i g' t cs' hs
    split at h
    · rename_i hc
      obtain ⟨rfl, rfl⟩ := hc
      cases h
      obtain ⟨h1, vs, fr, h2, h3, h4⟩ := hW.slot p _ hs rfl b c ho
      have hl : cs.length = vs.size := by simpa using h4.1
      refine ⟨_, vs, t, fr, hs, rfl, rfl, rfl, h1, h2, h3, ?_, by omega, fun cs' hcs => ⟨hcs, rfl, rfl⟩, fun G' w' cs' vs' k1 k2 k3 k4 k5 => ⟨k1, vs'.toArray, fr, k5, ?_, ?_⟩⟩
      · rw [List.take_of_length_le (by simp; omega)]; exact h4
      · simpa [k4] using h3
      · rw [List.take_of_length_le (by omega)] at k3; exact k3
    · cases h
  · rename_i g' n' sz e cs' hs
    split at h
    · rename_i hc
      obtain ⟨rfl, rfl⟩ := hc
      cases h
      obtain ⟨h1, vs, fr, h2, h3, h4, h5, h6, h7⟩ := hW.slot p _ hs rfl b c ho
      have hl : n' * sz ≤ vs.size := by rw [h3]; exact Nat.mul_le_mul_right _ h4
      refine ⟨_, vs, e, fr, hs, rfl, rfl, rfl, h1, h2, h6, by rw [h5]; exact h7, by omega, fun cs' hcs => ⟨hcs, rfl, rfl⟩, fun G' w' cs' vs' k1 k2 k3 k4 k5 => ⟨k1, vs'.toArray, fr, k5, by simpa [k4] using h3, h4, by rw [k2, h5], by simpa [k4] using h6, ?_⟩⟩
      rw [k2, h5] at k3
      simpa using k3
    · cases h
  · cases h

/-- What a pointer leads to. -/
theorem aread_sound [Cfg] (hW : WRel G S w B) {a : AV} {v : Value} {cs : List AV} (h : aread S a = some cs) (hv : VRel G a v) :
    ∃ b off vs, v = .pointer (some ⟨b, off, none⟩) ∧ CRel G cs vs ∧ ∀ j u, vs[j]? = some u → w.cell? ⟨b, off + j, none⟩ = some u := by
  unfold aread at h
  split at h
  · rename_i p g n off
    obtain ⟨cs', hcs, rfl⟩ := Option.map_eq_some_iff.1 h
    cases hv with
    | ptr _ _ _ _ b c ho =>
      obtain ⟨s, vs, t, fr, _, _, _, _, _, h2, _, h4, h5, _⟩ := hW.cellsAt hcs ho
      refine ⟨b, off, (vs.toList.take cs'.length).drop off, rfl, h4.drop off, fun j u hj => ?_⟩
      rw [List.getElem?_drop, List.getElem?_take] at hj
      split at hj
      · simp only [World.cell?, h2]
        simpa using hj
      · cases hj
  · rename_i cs'
    cases h
    cases hv with
    | cref _ b off val h1 h2 =>
      refine ⟨b, off, (List.range cs.length).map val, rfl, ⟨by simp, fun i a v ha hv => ?_⟩, fun j u hj => ?_⟩
      · have hi := (List.getElem?_eq_some_iff.1 ha).1
        rw [List.getElem?_map, List.getElem?_range hi] at hv
        cases hv
        exact h2 i a ha
      · rw [List.getElem?_map] at hj
        cases hr : (List.range cs.length)[j]? with
        | none => simp [hr] at hj
        | some x =>
          have hlt := (List.getElem?_eq_some_iff.1 hr).1
          have hx : x = j := by simpa using (List.getElem?_eq_some_iff.1 hr).2.symm
          subst hx
          simp [hr] at hj
          rw [← hj]
          exact hW.imm _ _ _ (h1 x (by simpa using hlt))
  · cases h

theorem aload_sound [Cfg] (hW : WRel G S w B) {t : TypeId} {a : AV} {v : Value} {x : AV} (h : aload P S t a = some x) (hv : VRel G a v) : ∃ u, (Instr.loadAt t v).run P w = .ok u w ∧ VRel G x u := by
  unfold aload at h
  split at h
  · rename_i cs d i hr hu hi
    obtain ⟨b, off, vs, rfl, hc, hcell⟩ := aread_sound hW hr hv
    split at h
    · rename_i hag
      split at h
      · rename_i hle
        cases h
        refine ⟨.agg (vs.take i.size).toArray, ?_, VRel.agg_iff (hc.take _)⟩
        have hlen : (vs.take i.size).length = i.size := by rw [List.length_take, ← hc.1]; omega
        have := run_loadCells_list (P := P) w ⟨b, off, none⟩ (vs.take i.size) (fun j u hj => by
          rw [addr_add']
          rw [List.getElem?_take] at hj
          split at hj
          · exact hcell j u hj
          · cases hj)
        rw [hlen] at this
        simp [Instr.loadAt, Instr.sureAddr, loadVar, run_isAgg' hu, hag, run_sizeOf' hi, this]
      · cases h
    · rename_i hag
      cases cs with
      | nil => cases h
      | cons c r =>
        cases h
        obtain ⟨u, hu0, hru⟩ := hc.get (i := 0) rfl
        refine ⟨u, ?_, hru⟩
        have h0 := hcell 0 u hu0
        simp [Instr.loadAt, Instr.sureAddr, loadVar, run_isAgg' hu, hag]
        simp [show w.cell? ⟨b, off, none⟩ = some u from h0]
  · cases h

theorem apart_sound {t : TypeId} {cs : List AV} {vs : List Value} {off : Nat} {x : AV} (h : apart' P t cs off = some x) (hc : CRel G cs vs) (w : World) : ∃ u, (part t vs.toArray off).run P w = .ok u w ∧ VRel G x u := by
  unfold apart' at h
  split at h
  · rename_i d i hu hi
    split at h
    · rename_i hag
      split at h
      · rename_i hle
        cases h
        refine ⟨.agg ((vs.drop off).take i.size).toArray, ?_, VRel.agg_iff ((hc.drop off).take i.size)⟩
        simp only [part, Sem.run_bind, run_isAgg' hu, Result.andThen_ok, hag, if_true, run_sizeOf' hi, Sem.run_pure]
        congr 2
        apply Array.ext'
        simp [List.extract_eq_take_drop]
      · cases h
    · rename_i hag
      obtain ⟨u, hu0, hru⟩ := hc.get h
      refine ⟨u, ?_, hru⟩
      simp [part, run_isAgg' hu, hag, hu0]
  · cases h

theorem splice_rel {cs xs : List AV} {vs us : List Value} (h : CRel G cs vs) (k : CRel G xs us) (off : Nat) : CRel G (splice cs off xs) (vs.take off ++ us ++ vs.drop (off + us.length)) := by
  rw [splice, ← k.1]
  exact ((h.take off).append k).append (h.drop _)

theorem foldl_set_list : ∀ (us vs : List Value) (off k : Nat), off + k + us.length ≤ vs.length →
    (us.zipIdx k).foldl (fun cs p => cs.setIfInBounds (off + p.2) p.1) vs.toArray = (vs.take (off + k) ++ us ++ vs.drop (off + k + us.length)).toArray
  | [], vs, off, k, h => by simp
  | u :: us, vs, off, k, h => by
    simp only [List.length_cons] at h
    simp only [List.zipIdx_cons, List.foldl_cons]
    rw [show (vs.toArray.setIfInBounds (off + k) u) = (vs.set (off + k) u).toArray from by simp]
    rw [foldl_set_list us (vs.set (off + k) u) off (k + 1) (by simp; omega)]
    congr 1
    rw [show off + (k + 1) = off + k + 1 by omega]
    have e1 : (vs.set (off + k) u).take (off + k + 1) = vs.take (off + k) ++ [u] := by
      rw [List.take_succ_eq_append_getElem (by simp; omega)]
      simp [List.take_set_of_le]
    rw [e1, List.drop_set_of_lt (by omega)]
    simp only [List.append_assoc, List.cons_append, List.nil_append, List.length_cons]
    rw [show off + k + 1 + us.length = off + k + (us.length + 1) by omega]

/-- Cells are stored where none is frozen. -/
theorem run_storeCells_free (P : Program) (b off : Nat) (ty : TypeId) (fr : Nat × Nat) : ∀ (xs : List Value) (k : Nat) (cs : List Value) (w : World), w.heap[b]? = some (.cells cs.toArray ty fr) → (∀ o, off + k ≤ o → o < off + k + xs.length → ¬ (fr.1 ≤ o ∧ o < fr.2)) → off + k + xs.length ≤ cs.length →
    (∀ y ∈ xs, y.oneCell' = true) → (storeCells ⟨b, off, none⟩ xs k).run P w = .ok () (w.setRow b (cs.take (off + k) ++ xs ++ cs.drop (off + k + xs.length)).toArray)
  | [], k, cs, w, h, _, hk, _ => by
    simp only [storeCells, Sem.run_pure, List.append_nil, List.length_nil, Nat.add_zero, List.take_append_drop, setRow_self w b cs.toArray ty fr h]
  | y :: xs, k, cs, w, h, hf, hk, hy => by
    have hx := hy y (List.mem_cons_self ..)
    simp only [List.length_cons] at hk hf
    have hcell : w.cell? ⟨b, off + k, none⟩ = some (cs[off + k]'(by omega)) := by
      simp [World.cell?, h, List.getElem?_eq_getElem (show off + k < cs.length by omega)]
    have hfrz : w.frozen? ⟨b, off + k, none⟩ = false := by
      have := hf (off + k) (Nat.le_refl _) (by omega)
      simp only [World.frozen?, h]
      rw [Bool.eq_false_iff]
      simpa using this
    have hrun : (store ⟨b, off + k, none⟩ y).run P w = .ok () (w.setRow b (cs.set (off + k) y).toArray) := by
      rw [run_store P w _ y _ hx, hcell]
      simp [hfrz, setCell_eq_setRow w b (off + k) cs.toArray ty fr y h]
    simp only [storeCells, Sem.run_bind, addr_add', hrun, Result.andThen_ok]
    rw [run_storeCells_free P b off ty fr xs (k + 1) (cs.set (off + k) y) _ (setRow_heap w b cs.toArray _ ty fr h) (fun o h1 h2 => hf o (by omega) (by omega)) (by simp; omega) fun z hz => hy z (List.mem_cons_of_mem _ hz)]
    rw [setRow_setRow w b _ _]
    congr 3
    rw [show off + (k + 1) = off + k + 1 by omega]
    have e1 : (cs.set (off + k) y).take (off + k + 1) = cs.take (off + k) ++ [y] := by
      rw [List.take_succ_eq_append_getElem (by simp; omega)]
      simp [List.take_set_of_le]
    rw [e1, List.drop_set_of_lt (by omega)]
    simp only [List.append_assoc, List.cons_append, List.nil_append, List.length_cons]
    rw [show off + k + 1 + xs.length = off + k + (xs.length + 1) by omega]

/-- Cells are written over, in the store and in the world. -/
theorem write_sound [Cfg] (hW : WRel G S w B) {p : Loc} {g n off b c : Nat} {ys : List AV} {us : List Value} {y : Loc × ASlot} (h : S.write p g n off ys = some y) (ho : G.own p g n = some (b, c)) (hys : CRel G ys us) :
    ∃ G' w', (storeCells ⟨b, off, none⟩ us).run P w = .ok () w' ∧ WRel G' (S.set y.1 y.2) w' B ∧ Mod G S w G' (S.set y.1 y.2) w' := by
  unfold AS.write at h
  split at h
  · rename_i cs s hcs hs
    split at h
    · rename_i hc
      obtain ⟨hfit, hone⟩ := hc
      cases h
      obtain ⟨s', vs, t, fr, h1, h2, h3, h4, h5, h6, h7, h8, h9, h10, h11⟩ := hW.cellsAt hcs ho
      rw [hs] at h1
      cases h1
      subst h3 h4
      have hst := run_storeCells_free P b off t fr us 0 vs.toList w (by simpa using h6) (fun o k1 k2 k3 => by have := h7 o (by have := hys.1; omega) k3.1 k3.2; omega) (by have := hys.1; simp; omega)
        (fun y hy => by
          obtain ⟨j, hj⟩ := List.getElem?_of_mem hy
          have hjl := (List.getElem?_eq_some_iff.1 hj).1
          have hjy : j < ys.length := by rw [hys.1]; exact hjl
          have hay := List.getElem?_eq_getElem hjy
          exact (hys.2 j _ y hay hj).one (List.all_eq_true.1 hone _ (List.getElem_mem hjy)))
      simp only [Nat.add_zero] at hst
      have hsl : (splice cs off ys).length = cs.length := by simp [splice]; omega
      have hlv : AV.lvL S.lvl (splice cs off ys) = true := by
        have hr := splice_rel h8 hys off
        exact hr.lvs hW.own_lvl
      obtain ⟨k1, k2, k3⟩ := h10 _ hlv
      obtain ⟨G', m1, m2, m3⟩ := hW.setSlot (s := s.withCells (splice cs off ys)) (t := s) (w' := w.setRow b (vs.toList.take off ++ us ++ vs.toList.drop (off + us.length)).toArray) hs h2 ho k2 (by rw [k3]; exact Nat.le_refl _) h5 k1
        (fun x hx => setRow_other w b x _ hx) (by simp) rfl rfl rfl fun G' hle himm => by
          refine h11 G' _ _ (vs.toList.take off ++ us ++ vs.toList.drop (off + us.length)) himm hsl ?_ (by have := hys.1; simp; omega) (setRow_heap w b vs _ t fr h6)
          have hr := (splice_rel h8 hys off).mono hle
          rw [hsl]
          have e : (vs.toList.take off ++ us ++ vs.toList.drop (off + us.length)).take cs.length = (vs.toList.take cs.length).take off ++ us ++ (vs.toList.take cs.length).drop (off + us.length) := by
            have hul := hys.1
            rw [List.take_append, List.take_append, List.take_of_length_le (l := us) (by simp; omega), List.take_take, List.take_take, Nat.min_comm, List.drop_take]
            congr 1
            congr 1
            simp
            omega
          rw [e]
          exact hr
      exact ⟨G', _, hst, m2, m3⟩
    · cases h
  · cases h

theorem astore_sound [Cfg] (hW : WRel G S w B) {t : TypeId} {a x : AV} {v u : Value} {y : Loc × ASlot} (h : astore P S t a x = some y) (hv : VRel G a v) (hx : VRel G x u) :
    ∃ G' w', (Instr.storeAt t v u).run P w = .ok () w' ∧ WRel G' (S.set y.1 y.2) w' B ∧ Mod G S w G' (S.set y.1 y.2) w' := by
  unfold astore at h
  split at h
  · rename_i p g n off i hi
    split at h
    · rename_i hl
      cases hv with
      | ptr _ _ _ _ b c ho =>
        obtain ⟨G', w', k1, k2, k3⟩ := write_sound (P := P) hW h ho hx.cells
        have hsz : u.cells.size = i.size := by rw [← hl, hx.cells.1]; simp
        exact ⟨G', w', by simp [Instr.storeAt, Instr.sureAddr, storeVar, run_sizeOf' hi, hsz, k1], k2, k3⟩
    · cases h
  · cases h

theorem afill_sound (place : Nat → Option (Nat × Nat)) : ∀ (parts : List (Nat × AV)) (parts' : List (Nat × Value)) (cs : List AV) (vs : List Value) (out : List AV), parts.length = parts'.length →
    (∀ (j : Nat) x y, parts[j]? = some x → parts'[j]? = some y → x.1 = y.1 ∧ VRel G x.2 y.2) → CRel G cs vs → afill place cs parts = some out →
    ∃ us, Instr.fill place vs.toArray parts' = some us.toArray ∧ CRel G out us
  | [], [], cs, vs, out, _, _, hc, h => by
    simp only [afill, Option.some.injEq] at h
    subst h
    exact ⟨vs, rfl, hc⟩
  | (i, x) :: r, (i', y) :: r', cs, vs, out, hl, hp, hc, h => by
    obtain ⟨e, hxy⟩ := hp 0 _ _ rfl rfl
    simp only at e hxy
    subst e
    unfold afill at h
    unfold Instr.fill
    cases hpl : place i with
    | none => simp [hpl] at h
    | some os =>
      obtain ⟨off, size⟩ := os
      simp only [hpl] at h ⊢
      split at h
      · rename_i hcond
        have hcl := hxy.cells
        have hsz : y.cells.size = size := by rw [← hcond.1, hcl.1]; simp
        have hfit : off + y.cells.size ≤ vs.length := by rw [hsz, ← hc.1]; exact hcond.2
        have hn : ¬ (y.cells.size ≠ size ∨ off + y.cells.size > vs.toArray.size) := by simp; exact ⟨hsz, hfit⟩
        have hfold := foldl_set_list y.cells.toList vs off 0 (by simpa using hfit)
        have : y.cells.zipIdx.foldl (fun cs p => cs.setIfInBounds (off + p.2) p.1) vs.toArray = (vs.take off ++ y.cells.toList ++ vs.drop (off + y.cells.toList.length)).toArray := by
          simp only [Nat.add_zero] at hfold
          rw [← hfold, ← Array.foldl_toList]
          simp
        obtain ⟨us, k1, k2⟩ := afill_sound place r r' _ (vs.take off ++ y.cells.toList ++ vs.drop (off + y.cells.toList.length)) out (by simpa using hl) (fun j a b ha hb => hp (j + 1) a b (by simpa using ha) (by simpa using hb)) (splice_rel hc hcl off) h
        refine ⟨us, ?_, k2⟩
        rw [if_neg (by simpa using hn)]
        rw [← k1]
        congr 1
      · cases h
  | [], _ :: _, _, _, _, hl, _, _, _ => by simp at hl
  | _ :: _, [], _, _, _, hl, _, _, _ => by simp at hl
end
end Go.Proofs.YtjdccpmbaobpdaaGreatDoor

namespace Go.Proofs.YtjdccpmbaobpdaaGreatDoor
open Go.RowKit

section
variable {P : Program} {G : Gh} {S : AS} {w : World} {B : Nat → Nat}

theorem run_mapM_pure {α β : Type} (f : α → Sem β) (g : α → β) : ∀ (l : List α), (∀ a ∈ l, (f a).run P w = .ok (g a) w) → (l.mapM f).run P w = .ok (l.map g) w
  | [], _ => rfl
  | a :: r, h => by
    rw [List.mapM_cons]
    simp only [Sem.run_bind, h a (List.mem_cons_self ..), Result.andThen_ok, run_mapM_pure f g r (fun b hb => h b (List.mem_cons_of_mem _ hb)), Sem.run_pure, List.map_cons]

theorem run_places {fields : Array Field} {pl : List (Nat × Nat)} (h : aplaces P fields = some pl) (w : World) :
    (fields.mapM (m := Sem) fun (f : Field) => do pure (f.offset, ← sizeOf f.type)).run P w = .ok pl.toArray w := by
  unfold aplaces at h
  split at h
  · rename_i hall
    cases h
    rw [Array.mapM_eq_mapM_toList]
    simp only [Sem.run_map]
    rw [run_mapM_pure (P := P) (w := w) _ (fun f => (f.offset, ((P.info? f.type).map (·.size)).getD 0)) fields.toList]
    · simp
    · intro f hf
      have := List.all_eq_true.1 hall f hf
      obtain ⟨i, hi⟩ := Option.isSome_iff_exists.1 this
      simp [run_sizeOf' hi, hi]
  · cases h

theorem run_zero {t : TypeId} {z : Value} (h : (P.info? t).bind (·.zero) = some z) (w : World) : (zeroValue t).run P w = .ok z w := by
  cases hi : P.info? t with
  | none => simp [hi] at h
  | some i =>
    simp [hi] at h
    simp [zeroValue, typeInfo, hi, h]

theorem parts_rel {T : TM} {a : Act} (hT : TRel G S T a) (parts : List (Nat × Operand)) :
    (parts.map fun (i, x) => (i, aev T x)).length = (parts.map fun (i, x) => (i, a.eval x)).length ∧ ∀ (j : Nat) x y, (parts.map fun (i, x) => (i, aev T x))[j]? = some x → (parts.map fun (i, x) => (i, a.eval x))[j]? = some y → x.1 = y.1 ∧ VRel G x.2 y.2 := by
  refine ⟨by simp, fun j x y hx hy => ?_⟩
  rw [List.getElem?_map] at hx hy
  cases hp : parts[j]? with
  | none => simp [hp] at hx
  | some q =>
    obtain ⟨i, o⟩ := q
    simp [hp] at hx hy
    rw [← hx, ← hy]
    exact ⟨rfl, hT.eval o⟩

theorem abuild_sound {t : TypeId} {parts : List (Nat × AV)} {parts' : List (Nat × Value)} {x : AV} (h : abuild P t parts = some x) (hl : parts.length = parts'.length)
    (hp : ∀ (j : Nat) x y, parts[j]? = some x → parts'[j]? = some y → x.1 = y.1 ∧ VRel G x.2 y.2) (w : World) : ∃ u, (Instr.build t parts'.toArray).run P w = .ok u w ∧ VRel G x u := by
  unfold abuild at h
  split at h
  · rename_i fields z hu hz
    split at h
    · rename_i pl hpl
      obtain ⟨out, ho, rfl⟩ := Option.map_eq_some_iff.1 h
      obtain ⟨us, k1, k2⟩ := afill_sound (G := G) _ parts parts' _ z.cells.toList out hl hp (CRel.lits G _) ho
      refine ⟨_, ?_, VRel.agg_iff k2⟩
      have k1' : Instr.fill (fun x => pl[x]?) z.cells parts' = some us.toArray := by simpa using k1
      simp only [Instr.build, Sem.run_bind, run_zero hz, Result.andThen_ok, run_underlying hu, run_places hpl]
      simp [k1']
    · cases h
  · rename_i len elem z hu hz
    split at h
    · rename_i i hi
      obtain ⟨out, ho, rfl⟩ := Option.map_eq_some_iff.1 h
      obtain ⟨us, k1, k2⟩ := afill_sound (G := G) _ parts parts' _ z.cells.toList out hl hp (CRel.lits G _) ho
      refine ⟨_, ?_, VRel.agg_iff k2⟩
      have k1' : Instr.fill (fun j => some (j * i.size, i.size)) z.cells parts' = some us.toArray := by simpa using k1
      simp [Instr.build, run_zero hz, run_underlying hu, run_sizeOf' hi, k1']
    · cases h
  · cases h

/-- A full literal: its parts one behind the other. -/
theorem fill_full (size : Nat) : ∀ (parts : List (Nat × Value)) (k : Nat) (done rest : List Value), done.length = k * size → parts.map Prod.fst = List.range' k parts.length → (∀ p ∈ parts, p.2.cells.size = size) → rest.length = parts.length * size →
    Instr.fill (fun i => some (i * size, size)) (done ++ rest).toArray parts = some (done ++ parts.flatMap fun p => p.2.cells.toList).toArray
  | [], k, done, rest, hd, _, _, hr => by
    have : rest = [] := List.eq_nil_of_length_eq_zero (by simpa using hr)
    subst this
    simp [Instr.fill]
  | (i, v) :: r, k, done, rest, hd, hk, hs, hr => by
    simp only [List.map_cons, List.length_cons, List.range'_succ, List.cons.injEq] at hk
    obtain ⟨rfl, hk⟩ := hk
    have hv : v.cells.size = size := hs (i, v) (List.mem_cons_self ..)
    simp only [List.length_cons, Nat.add_mul, Nat.one_mul] at hr
    unfold Instr.fill
    have hcond : ¬ (v.cells.size ≠ size || i * size + v.cells.size > (done ++ rest).toArray.size) = true := by
      simp [hv, hd, hr]
    simp only [hcond]
    have hfold := foldl_set_list v.cells.toList (done ++ rest) (i * size) 0 (by simp [hv, hd, hr])
    simp only [Nat.add_zero] at hfold
    have : v.cells.zipIdx.foldl (fun cs p => cs.setIfInBounds (i * size + p.2) p.1) (done ++ rest).toArray = (done ++ v.cells.toList ++ rest.drop size).toArray := by
      rw [← Array.foldl_toList, Array.toList_zipIdx, hfold]
      congr 1
      rw [List.take_left' hd, List.drop_append, List.drop_eq_nil_of_le (by rw [hd]; omega)]
      simp [hd, hv]
    have ih := fill_full size r (i + 1) (done ++ v.cells.toList) (rest.drop size) (by simp [hd, hv, Nat.add_mul]) hk (fun p hp => hs p (List.mem_cons_of_mem _ hp)) (by simp [hr])
    rw [show (v.cells.zipIdx.foldl (fun cs x => cs.setIfInBounds (i * size + x.snd) x.fst) (done ++ rest).toArray) = _ from this, ih]
    simp

theorem getElem?_flatMap_block {α β : Type} (f : α → List β) (size : Nat) : ∀ (l : List α), (∀ a ∈ l, (f a).length = size) → ∀ (i j : Nat) (a : α), l[i]? = some a → j < size → (l.flatMap f)[i * size + j]? = (f a)[j]?
  | [], _, i, j, a, h, _ => by simp at h
  | x :: r, hs, 0, j, a, h, hj => by
    simp only [List.getElem?_cons_zero, Option.some.injEq] at h
    subst h
    rw [List.flatMap_cons, Nat.zero_mul, Nat.zero_add, List.getElem?_append_left (by rw [hs x (List.mem_cons_self ..)]; exact hj)]
  | x :: r, hs, i + 1, j, a, h, hj => by
    have hx := hs x (List.mem_cons_self ..)
    rw [List.flatMap_cons, List.getElem?_append_right (by rw [hx, Nat.add_mul]; omega), hx]
    have := getElem?_flatMap_block f size r (fun a ha => hs a (List.mem_cons_of_mem _ ha)) i j a (by simpa using h) hj
    rw [← this]
    congr 1
    rw [Nat.add_mul]
    omega

theorem flatMap_length {α β : Type} (f : α → List β) (size : Nat) : ∀ (l : List α), (∀ a ∈ l, (f a).length = size) → (l.flatMap f).length = l.length * size
  | [], _ => by simp
  | x :: r, hs => by
    rw [List.flatMap_cons, List.length_append, hs x (List.mem_cons_self ..), flatMap_length f size r (fun a ha => hs a (List.mem_cons_of_mem _ ha)), List.length_cons, Nat.add_mul]
    omega

theorem flatten_block (sz : Nat) (es : List (List AV)) (hs : ∀ e ∈ es, e.length = sz) (i j : Nat) (e : List AV) (h : es[i]? = some e) (hj : j < sz) : es.flatten[i * sz + j]? = e[j]? := by
  have := getElem?_flatMap_block (fun e : List AV => e) sz es hs i j e h hj
  simpa [List.flatMap] using this
theorem flatten_len (sz : Nat) (es : List (List AV)) (hs : ∀ e ∈ es, e.length = sz) : es.flatten.length = es.length * sz := by
  have := flatMap_length (fun e : List AV => e) sz es hs
  simpa [List.flatMap] using this

/-- A slice's cells, one behind the other. -/
theorem VRel.flat {sp : Spare} {sz : Nat} {es : List (List AV)} {v : Value} (h : VRel G (.list sp sz es) v) (hsz : 0 < sz) :
    ∃ b off cap vs, v = .slice (some ⟨b, off, none⟩) es.length cap ∧ es.length ≤ cap ∧ cap ≤ maxLen ∧ CRel G es.flatten vs ∧ (∀ j u, vs[j]? = some u → G.imm b (off + j) = some u) ∧ vs.length = es.length * sz ∧ (∀ e ∈ es, e.length = sz) ∧
      sp.ok G b off es.length cap := by
  cases h with
  | list _ _ _ b off cap val hn hcm hes h1 h2 hs =>
    have hfl := flatten_len sz es hes
    refine ⟨b, off, cap, (List.range (es.length * sz)).map fun k => val (k / sz) (k % sz), rfl, hn, hcm, ⟨by simp [hfl], fun k a u ha hu => ?_⟩, fun j u hj => ?_, by simp, hes, hs⟩
    · have hk := (List.getElem?_eq_some_iff.1 ha).1
      rw [hfl] at hk
      rw [List.getElem?_map, List.getElem?_range hk] at hu
      cases hu
      have hi : k / sz < es.length := Nat.div_lt_of_lt_mul (by rw [Nat.mul_comm]; exact hk)
      have hfb := flatten_block sz es hes (k / sz) (k % sz) _ (List.getElem?_eq_getElem hi) (Nat.mod_lt _ hsz)
      rw [Nat.mul_comm, Nat.div_add_mod] at hfb
      rw [hfb] at ha
      exact h2 _ _ _ _ (List.getElem?_eq_getElem hi) ha
    · rw [List.getElem?_map] at hj
      cases hr : (List.range (es.length * sz))[j]? with
      | none => simp [hr] at hj
      | some x =>
        have hlt : j < es.length * sz := by simpa using (List.getElem?_eq_some_iff.1 hr).1
        have hx : x = j := by simpa using (List.getElem?_eq_some_iff.1 hr).2.symm
        subst hx
        simp [hr] at hj
        subst hj
        have hi : x / sz < es.length := Nat.div_lt_of_lt_mul (by rw [Nat.mul_comm]; exact hlt)
        have := h1 (x / sz) (x % sz) hi (Nat.mod_lt _ hsz)
        rwa [Nat.mul_comm, Nat.div_add_mod] at this

theorem VRel.of_flat {sp : Spare} {sz : Nat} {es : List (List AV)} {b off cap : Nat} {vs : List Value} (hn : es.length ≤ cap) (hm : cap ≤ maxLen) (hes : ∀ e ∈ es, e.length = sz) (hc : CRel G es.flatten vs)
    (hi : ∀ j u, vs[j]? = some u → G.imm b (off + j) = some u) (hs : sp.ok G b off es.length cap) : VRel G (.list sp sz es) (.slice (some ⟨b, off, none⟩) es.length cap) := by
  have hfl := flatten_len sz es hes
  have hvl : vs.length = es.length * sz := by rw [← hc.1, hfl]
  refine .list sp sz es b off cap (fun i j => vs.getD (i * sz + j) undef) hn hm hes (fun i j hi' hj => ?_) (fun i j e a he ha => ?_) hs
  · have hlt : i * sz + j < vs.length := by
      rw [hvl]
      have : (i + 1) * sz ≤ es.length * sz := Nat.mul_le_mul_right _ hi'
      rw [Nat.add_mul] at this
      omega
    refine hi _ _ ?_
    rw [List.getD_eq_getElem?_getD, List.getElem?_eq_getElem hlt]
    rfl
  · have hj : j < sz := by rw [← hes e (List.mem_of_getElem? he)]; exact (List.getElem?_eq_some_iff.1 ha).1
    have hfb := flatten_block sz es hes i j e he hj
    rw [ha] at hfb
    obtain ⟨v, hv, hr⟩ := hc.get hfb
    rw [List.getD_eq_getElem?_getD, hv]
    exact hr

/-- A slice of a new block, whose elements stay. -/
theorem newList [Cfg] (hW : WRel G S w B) {es : List (List AV)} {vs : List Value} {sz : Nat} (e : TypeId) (hm : es.length ≤ maxLen) (hes : ∀ x ∈ es, x.length = sz) (hc : CRel G es.flatten vs) :
    ∃ G', VRel G' (.list .full sz es) (.slice (some ⟨w.heap.size, 0, none⟩) es.length es.length) ∧ WRel G' S (w.alloc (.cells vs.toArray e)) B ∧ Mod G S w G' S (w.alloc (.cells vs.toArray e)) := by
  obtain ⟨G', k1, k2, k3⟩ := hW.newImm vs e
  exact ⟨G', VRel.of_flat (Nat.le_refl _) hm hes (hc.mono k2.le) (fun j u hj => by rw [Nat.zero_add]; exact k3 j u hj) rfl, k1, k2⟩

/-- A row of a new block, that may be written. -/
theorem newRowSlot [Cfg] (hW : WRel G S w B) (d : Tmp) {cs : List AV} {vs : List Value} {n sz cap : Nat} (e : TypeId) (hn : n ≤ cap) (hm : cap ≤ maxLen) (hl : cs.length = n * sz) (hv : vs.length = cap * sz) (hc : CRel G cs (vs.take (n * sz))) :
    ∃ G', VRel G' (.row .room (S.here d) (S.fresh (S.here d)) n 0 n sz) (.slice (some ⟨w.heap.size, 0, none⟩) n cap) ∧ WRel G' (S.set (S.here d) (.row (S.fresh (S.here d)) n sz e cs)) (w.alloc (.cells vs.toArray e)) B ∧
      Mod G S w G' (S.set (S.here d) (.row (S.fresh (S.here d)) n sz e cs)) (w.alloc (.cells vs.toArray e)) := by
  obtain ⟨G', k1, k2, k3⟩ := hW.newSlot (p := S.here d) (Nat.le_refl _) (.row (S.fresh (S.here d)) n sz e cs) rfl (.cells vs.toArray e) cap (hc.lvs hW.own_lvl) fun G' hle himm =>
    ⟨himm, vs.toArray, (0, 0), heap_alloc_new w _, by simpa using hv, hn, hl, (fun o _ _ h => by simp at h), by simpa using hc.mono hle⟩
  exact ⟨G', .row .room _ _ n 0 n sz w.heap.size cap 0 cap k1 (fun _ => rfl) hn hm ⟨rfl, Nat.zero_add _⟩, k2, k3⟩

theorem buildSlice_run {t elem : TypeId} {i : TypeInfo} {z : Value} {len : Nat} {parts : List (Nat × AV)} {parts' : List (Nat × Value)} (hu : P.underlying t = some (.slice elem)) (hi : P.info? elem = some i) (hz : i.zero = some z)
    (hzs : z.cells.size = i.size) (hpos : 0 < i.size) (hbig : len * i.size ≤ 2 ^ 24) (hidx : parts.map Prod.fst = List.range len) (hsz : parts.all (fun p => p.2.cells.length == i.size) = true) (hl : parts.length = parts'.length)
    (hp : ∀ (j : Nat) x y, parts[j]? = some x → parts'[j]? = some y → x.1 = y.1 ∧ VRel G x.2 y.2) :
    (Instr.buildSlice t len parts'.toArray).run P w = .ok (.slice (some ⟨w.heap.size, 0, none⟩) len len) (w.alloc (.cells (parts'.flatMap fun p => p.2.cells.toList).toArray elem)) ∧ parts.length = len ∧
      CRel G (parts.flatMap fun p => p.2.cells) (parts'.flatMap fun p => p.2.cells.toList) := by
  have hlen : parts.length = len := by have := congrArg List.length hidx; simpa using this
  have hfst : parts'.map Prod.fst = List.range' 0 parts'.length := by
    rw [← List.range_eq_range', ← hl, hlen, ← hidx]
    apply List.ext_getElem?
    intro j
    rw [List.getElem?_map, List.getElem?_map]
    cases hx : parts[j]? with
    | none => rw [List.getElem?_eq_none (by have := List.getElem?_eq_none_iff.1 hx; omega)]; rfl
    | some p =>
      have hjl := (List.getElem?_eq_some_iff.1 hx).1
      have hy := List.getElem?_eq_getElem (show j < parts'.length by omega)
      rw [hy]
      simp [(hp j _ _ hx hy).1]
  have hsize : ∀ p ∈ parts', p.2.cells.size = i.size := fun p hpm => by
    obtain ⟨j, hj⟩ := List.getElem?_of_mem hpm
    have hjl := (List.getElem?_eq_some_iff.1 hj).1
    have hx := List.getElem?_eq_getElem (show j < parts.length by omega)
    have h1 := (hp j _ _ hx hj).2.cells.1
    have h2 := List.all_eq_true.1 hsz _ (List.getElem_mem (show j < parts.length by omega))
    simp at h2 h1
    omega
  have hfill := fill_full i.size parts' 0 [] ((List.range (len * i.size)).map (fun j => z.cells[j % z.cells.size]!)) (by simp) hfst hsize (by simp [hl ▸ hlen])
  simp only [List.nil_append] at hfill
  refine ⟨?_, hlen, ?_⟩
  · have hzero : (zeroValue elem).run P w = .ok z w := run_zero (by simp [hi, hz]) w
    have hbig' : ¬ (2 ^ 24 < len * i.size) := by omega
    have harr : (Array.range (len * i.size)).map (fun j => z.cells[j % z.cells.size]!) = ((List.range (len * i.size)).map (fun j => z.cells[j % z.cells.size]!)).toArray := by
      apply Array.ext'; simp
    by_cases h0 : len * i.size = 0
    · have hl0 : len = 0 := by
        rcases Nat.mul_eq_zero.1 h0 with h | h
        · exact h
        · omega
      have hp0 : parts' = [] := List.eq_nil_of_length_eq_zero (by omega)
      subst hp0
      subst hl0
      simp [Instr.buildSlice, run_underlying hu, run_sizeOf' hi, Instr.fill, newRow]
      congr 2
      exact Array.eq_empty_of_size_eq_zero (by simp)
    · simp only [Instr.buildSlice, Sem.run_bind, run_underlying hu, Result.andThen_ok, run_sizeOf' hi]
      simp only [show ¬ (len * i.size > 2 ^ 24) from hbig', if_false, h0, Sem.run_bind, Sem.run_pure, hzero, Result.andThen_ok, harr]
      simp [hfill, newRow]
  · clear hfill hfst hidx hlen hsize
    induction parts generalizing parts' with
    | nil =>
      have : parts' = [] := List.eq_nil_of_length_eq_zero (by simpa using hl.symm)
      subst this
      exact CRel.nil G
    | cons p r ih =>
      cases parts' with
      | nil => simp at hl
      | cons q r' =>
        rw [List.flatMap_cons, List.flatMap_cons]
        simp only [List.all_cons, Bool.and_eq_true] at hsz
        exact ((hp 0 _ _ rfl rfl).2.cells).append (ih hsz.2 (by simpa using hl) fun j x y hx hy => hp (j + 1) x y (by simpa using hx) (by simpa using hy))

theorem abuildSlice_sound [Cfg] (hW : WRel G S w B) {d : Option Tmp} {t : TypeId} {len : Nat} {parts : List (Nat × AV)} {parts' : List (Nat × Value)} {x : AR} (h : abuildSlice P S d t len parts = some x) (hl : parts.length = parts'.length)
    (hp : ∀ (j : Nat) x y, parts[j]? = some x → parts'[j]? = some y → x.1 = y.1 ∧ VRel G x.2 y.2) {r : Result Next} (hr : ∀ u w', (Instr.buildSlice t len parts'.toArray).run P w = .ok u w' → r = .ok (.value u) w') : ArOk P G S w B r x := by
  unfold abuildSlice at h
  split at h
  · rename_i elem d hu
    split at h
    · rename_i i hi
      split at h
      · rename_i z hz
        split at h
        · rename_i hc
          obtain ⟨hzs, hpos, hbig, hidx, hsz, hone⟩ := hc
          obtain ⟨k1, hlen, k2⟩ := buildSlice_run (G := G) (w := w) hu hi hz hzs hpos hbig hidx hsz hl hp
          have hmax : len ≤ maxLen := by
            have : len ≤ len * i.size := Nat.le_mul_of_pos_right _ hpos
            simp only [maxLen]
            omega
          have hflat : (parts.map fun p => p.2.cells).flatten = parts.flatMap fun p => p.2.cells := by rw [List.flatMap]
          have hcl : (parts.flatMap fun p => p.2.cells).length = len * i.size := by
            rw [flatMap_length (fun p : Nat × AV => p.2.cells) i.size parts (fun p hpm => by have := List.all_eq_true.1 hsz p hpm; simpa using this), hlen]
          split at h
          · cases h
            obtain ⟨G', m1, m2, m3⟩ := newRowSlot hW d (cs := parts.flatMap fun p => p.2.cells) (vs := parts'.flatMap fun p => p.2.cells.toList) (n := len) (sz := i.size) (cap := len) elem (Nat.le_refl _) hmax hcl (by rw [← k2.1, hcl])
              (by rw [List.take_of_length_le (by rw [← k2.1, hcl]; exact Nat.le_refl _)]; exact k2)
            exact ⟨G', _, _, .inl (hr _ _ k1), m1, m2, m3⟩
          · cases h
            obtain ⟨G', m1, m2, m3⟩ := newList hW (es := parts.map fun p => p.2.cells) (vs := parts'.flatMap fun p => p.2.cells.toList) (sz := i.size) elem (by simpa [hlen] using hmax) (fun x hx => by
              obtain ⟨p, hpm, rfl⟩ := List.mem_map.1 hx
              have := List.all_eq_true.1 hsz p hpm
              simpa using this) (by rw [hflat]; exact k2)
            rw [List.length_map, hlen] at m1
            exact ⟨G', _, _, .inl (hr _ _ k1), m1, m2, m3⟩
        · cases h
      · cases h
    · cases h
  · cases h
end
end Go.Proofs.YtjdccpmbaobpdaaGreatDoor

namespace Go.Proofs.YtjdccpmbaobpdaaGreatDoor
open Go.RowKit

section
variable {P : Program} {G : Gh} {S : AS} {w : World} {B : Nat → Nat}

theorem CRel.cref {G : Gh} {cs : List AV} {b off : Nat} {val : Nat → Value} (h1 : ∀ i, i < cs.length → G.imm b (off + i) = some (val i)) (h2 : ∀ (i : Nat) a, cs[i]? = some a → VRel G a (val i)) (n : Nat) :
    VRel G (.cref (cs.drop n)) (.pointer (some ⟨b, off + n, none⟩)) :=
  .cref _ b (off + n) (fun i => val (n + i)) (fun i hi => by rw [Nat.add_assoc]; exact h1 (n + i) (by simp at hi; omega)) fun i a ha => h2 (n + i) a (by simpa [List.getElem?_drop] using ha)

theorem afieldAddr_sound {s : TypeId} {a x : AV} {v : Value} {f : Nat} (h : afieldAddr P s a f = some x) (hv : VRel G a v) (w : World) : ∃ u, (Instr.fieldAt s v f).run P w = .ok u w ∧ VRel G x u := by
  unfold afieldAddr at h
  split at h
  · rename_i fields hu
    split at h
    · rename_i fd hf
      split at h
      · cases h
      · rename_i hsz
        have hi : ∃ i, P.info? fd.type = some i ∧ i.size ≠ 0 := by
          cases hi : P.info? fd.type with
          | none => simp [hi] at hsz
          | some i => exact ⟨i, rfl, by simpa [hi] using hsz⟩
        obtain ⟨i, hi, hi0⟩ := hi
        split at h
        · rename_i p g n off
          cases h
          cases hv with
          | ptr _ _ _ _ b c ho =>
            refine ⟨_, ?_, .ptr p g n (off + fd.offset) b c ho⟩
            simp [Instr.fieldAt, run_underlying hu, hf, Instr.sureAddr, fieldPlace, run_sizeOf' hi, hi0, addr_add']
        · rename_i cs
          cases h
          cases hv with
          | cref _ b off val h1 h2 =>
            refine ⟨_, ?_, CRel.cref h1 h2 fd.offset⟩
            simp [Instr.fieldAt, run_underlying hu, hf, Instr.sureAddr, fieldPlace, run_sizeOf' hi, hi0, addr_add']
        · cases h
    · cases h
  · cases h

theorem afield_sound {s : TypeId} {a x : AV} {v : Value} {f : Nat} (h : afield P s a f = some x) (hv : VRel G a v) (w : World) : ∃ u, (Instr.field s v f).run P w = .ok u w ∧ VRel G x u := by
  unfold afield at h
  split at h
  · rename_i fields cs hu
    split at h
    · rename_i fd hf
      obtain ⟨vs, rfl, hc⟩ := hv.agg_inv
      obtain ⟨u, hr, hx⟩ := apart_sound h hc w
      exact ⟨u, by simp [Instr.field, run_underlying hu, hf, asAgg, hr], hx⟩
    · cases h
  · cases h

theorem aindexAddr_sound {t : TypeId} {a x y : AV} {v u : Value} (h : aindexAddr P t a x = some y) (hv : VRel G a v) (hx : VRel G x u) (w : World) : ∃ z, (Instr.indexAt t v u).run P w = .ok z w ∧ VRel G y z := by
  unfold aindexAddr at h
  split at h
  · rename_i elem sp sz es k i hu
    rw [hx.lit_inv]
    split at h
    · rename_i hc
      obtain ⟨hi0, hsz⟩ := hc
      obtain ⟨e, he, rfl⟩ := Option.map_eq_some_iff.1 h
      obtain ⟨inf, hinf, hinf2⟩ := Option.map_eq_some_iff.1 hsz
      have hlt := (List.getElem?_eq_some_iff.1 he).1
      cases hv with
      | list _ _ _ b off cap val hn hm hes h1 h2 hs =>
        have hel : e.length = sz := hes e (List.mem_of_getElem? he)
        refine ⟨.pointer (some ⟨b, off + i.toNat * sz, none⟩), ?_, .cref e b _ (val i.toNat) (fun j hj => ?_) (fun j a ha => h2 i.toNat j e a he ha)⟩
        · have hlt' : i < es.length := by omega
          simp [Instr.indexAt, asIntOf, run_underlying hu, hi0, hlt', run_sizeOf' hinf, hinf2, addr_add']
        · rw [Nat.add_assoc]
          exact h1 i.toNat j hlt (by omega)
    · cases h
  · rename_i elem sp p g n off len sz k i hu
    rw [hx.lit_inv]
    split at h
    · rename_i hc
      obtain ⟨hi0, hsz, hil⟩ := hc
      obtain ⟨inf, hinf, hinf2⟩ := Option.map_eq_some_iff.1 hsz
      cases h
      cases hv with
      | row _ _ _ _ _ _ _ b c o cap ho hoff hn hm hs =>
        refine ⟨.pointer (some ⟨b, off + i.toNat * sz, none⟩), ?_, .ptr p g n _ b c ho⟩
        have hlt' : i < len := by omega
        rw [hoff (by omega)]
        simp [Instr.indexAt, asIntOf, run_underlying hu, hi0, hlt', run_sizeOf' hinf, hinf2, addr_add']
    · cases h
  · rename_i len elem a' k i hu
    rw [hx.lit_inv]
    split at h
    · rename_i inf hinf
      split at h
      · rename_i hc
        obtain ⟨hi0, hil⟩ := hc
        split at h
        · rename_i p g n off
          cases h
          cases hv with
          | ptr _ _ _ _ b c ho =>
            refine ⟨_, ?_, .ptr p g n (off + i.toNat * inf.size) b c ho⟩
            simp [Instr.indexAt, asIntOf, run_underlying hu, Instr.sureAddr, hi0, hil, run_sizeOf' hinf, addr_add']
        · rename_i cs
          cases h
          cases hv with
          | cref _ b off val h1 h2 =>
            refine ⟨_, ?_, CRel.cref h1 h2 (i.toNat * inf.size)⟩
            simp [Instr.indexAt, asIntOf, run_underlying hu, Instr.sureAddr, hi0, hil, run_sizeOf' hinf, addr_add']
        · cases h
      · cases h
    · cases h
  · cases h

theorem aindex_sound {t : TypeId} {a x y : AV} {v u : Value} (h : aindex P t a x = some y) (hv : VRel G a v) (hx : VRel G x u) (w : World) : ∃ z, (Instr.index t v u).run P w = .ok z w ∧ VRel G y z := by
  unfold aindex at h
  split at h
  · rename_i len elem cs k i hu
    rw [hx.lit_inv]
    obtain ⟨vs, rfl, hc⟩ := hv.agg_inv
    split at h
    · rename_i inf hinf
      split at h
      · rename_i hcd
        obtain ⟨z, hr, hz⟩ := apart_sound h hc w
        exact ⟨z, by simp [Instr.index, asIntOf, run_underlying hu, hcd.1, hcd.2, run_sizeOf' hinf, hr], hz⟩
      · cases h
    · cases h
  · cases h

theorem anil_sound [Cfg] (hW : WRel G S w B) {T : TM} {a : Act} (hT : TRel G S T a) {o : Oper} {x : Operand} {y : AV} (ho : o.op = .nilCheck x) (h : anil (aev T x) = some y) : OpOk G S w B ((execOp a.eval o).run P w) y S := by
  have hx := hT.eval x
  generalize aev T x = ax at h hx
  refine opOk_same hW (u := a.eval x) ?_ ?_
  · simp only [execOp, ho]
    generalize a.eval x = vx at hx
    cases hx <;> simp [anil] at h <;> rfl
  · cases ax <;> simp [anil] at h <;> (rw [← h]; exact hx)

theorem aassert_sound {t asserted : TypeId} {ok : Bool} {a y : AV} {v : Value} (h : aassert P asserted ok a = some y) (hv : VRel G a v) (w : World) : ∃ z, (Instr.typeAssert v t asserted ok).run P w = .ok z w ∧ VRel G y z := by
  unfold aassert at h
  split at h
  · rename_i t' a'
    cases hv with
    | iface _ _ v' hv' =>
      split at h
      · rename_i d hu
        split at h
        · cases h
        · rename_i hd
          split at h
          · rename_i ht
            subst ht
            cases h
            refine ⟨if ok then .tuple #[v', .bool true] else v', ?_, ?_⟩
            · cases d <;> first | (simp [isIfaceD] at hd; done) | (cases ok <;> simp [Instr.typeAssert, run_underlying hu])
            · cases ok
              · exact hv'
              · exact .tup _ [v', .bool true] rfl (CRel.cons hv' (CRel.cons (.lit _) (CRel.nil G))).2
          · rename_i ht
            split at h
            · rename_i hok
              obtain ⟨z, hz, rfl⟩ := Option.map_eq_some_iff.1 h
              refine ⟨.tuple #[z, .bool false], ?_, .tup _ [z, .bool false] rfl (CRel.cons (ofV1_rel G z) (CRel.cons (.lit _) (CRel.nil G))).2⟩
              cases d <;> first | (simp [isIfaceD] at hd; done) | (simp [Instr.typeAssert, run_underlying hu, ht, hok, run_zero hz])
            · cases h
      · cases h
  · cases h

theorem run_equalTop {t : TypeId} {v u : Value} {z : Bool} {w : World} (h : ∀ d, (Op.equalIn (d + 1) t v u).run P w = .ok z w) : (Op.equal t v u).run P w = .ok z w := h 9999

theorem run_guarded {g : Sem Unit} {s : Sem Value} {z : Value} {w : World} (hg : g.run P w = .ok () w) (hs : s.run P w = .ok z w) : (do g; s : Sem Value).run P w = .ok z w := by
  simp [hg, hs]
theorem run_eql_of {t : TypeId} {v u : Value} {z : Bool} {w : World} (h : (Op.equal t v u).run P w = .ok z w) : (do pure (.bool (← Op.equal t v u)) : Sem Value).run P w = .ok (.bool z) w := by
  simp [h]
theorem run_neq_of {t : TypeId} {v u : Value} {z : Bool} {w : World} (h : (Op.equal t v u).run P w = .ok z w) : (do pure (.bool (!(← Op.equal t v u))) : Sem Value).run P w = .ok (.bool !z) w := by
  simp [h]

def plainCmp : Value → Bool
  | .slice .. | .map _ | .iface .. | .pointer _ | .func .. => true
  | _ => false
theorem nilFits_run {t : TypeId} {d : TypeDesc} {a : AV} {x v : Value} (hd : P.underlying t = some d) (h : nilFits d a v = true) (hv : VRel G a x) (w : World) : (Op.equal t x v).run P w = .ok false w ∧ plainCmp x = true := by
  unfold nilFits at h
  split at h
  all_goals first
    | (cases h; done)
    | (cases hv; refine ⟨run_equalTop fun d' => ?_, rfl⟩; simp [Op.equalIn, run_underlying hd])

theorem aequal_sound {t : TypeId} {a b : AV} {v u : Value} {z : Bool} (h : aequal P t a b = some z) (hv : VRel G a v) (hu : VRel G b u) (w : World) :
    (Op.equal t v u).run P w = .ok z w ∧ plainCmp v = true := by
  unfold aequal at h
  split at h
  · rename_i d x hd
    split at h
    · rename_i hf
      cases h
      rw [hu.lit_inv]
      exact nilFits_run hd hf hv w
    · cases h
  · rename_i e p g n off hd
    cases hu with
    | ptr _ _ _ _ b' c' ho =>
      split at h
      · rename_i p' g' n' off'
        split at h
        · rename_i hc
          obtain ⟨rfl, rfl, rfl, hsz⟩ := hc
          cases h
          cases hv with
          | ptr _ _ _ _ b c ho' =>
            rw [ho] at ho'
            cases ho'
            refine ⟨run_equalTop fun d' => ?_, rfl⟩
            cases hi : P.info? e with
            | none => simp [hi] at hsz
            | some i =>
              have hsz' : i.size ≠ 0 := by simpa [hi] using hsz
              have hb : ((⟨b', off', none⟩ : Addr) == ⟨b', off, none⟩) = decide (off' = off) := by
                by_cases he : off' = off
                · subst he; simp
                · simp [he]
              simp [Op.equalIn, run_underlying hd, run_sizeOf' hi, hsz', sameAddr, hb]
        · cases h
      · cases h
        rw [hv.lit_inv]
        exact ⟨run_equalTop fun d' => by simp [Op.equalIn, run_underlying hd], rfl⟩
      · cases h
  · cases h

theorem acmp_sound {op : BinOp} {t : TypeId} {a b y : AV} {v u : Value} (h : acmp P op t a b = some y) (hv : VRel G a v) (hu : VRel G b u) (x1 x2 : Operand) (w : World) :
    ∃ z, (do eqGuard op t x1 x2 v u; binOp op t v u : Sem Value).run P w = .ok z w ∧ VRel G y z := by
  have guard : plainCmp v = true → (eqGuard op t x1 x2 v u).run P w = .ok () w := fun h1 => by
    unfold eqGuard
    cases op <;> cases v <;> first | (cases h1; done) | (simp; done)
  unfold acmp at h
  split at h
  · obtain ⟨z, hz, rfl⟩ := Option.map_eq_some_iff.1 h
    obtain ⟨h1, h2⟩ := aequal_sound hz hv hu w
    refine ⟨.bool z, run_guarded (guard h2) ?_, .lit _⟩
    have := run_eql_of h1
    cases v <;> first | (cases h2; done) | (cases u <;> exact this)
  · obtain ⟨z, hz, rfl⟩ := Option.map_eq_some_iff.1 h
    obtain ⟨h1, h2⟩ := aequal_sound hz hv hu w
    refine ⟨.bool !z, run_guarded (guard h2) ?_, .lit _⟩
    have := run_neq_of h1
    cases v <;> first | (cases h2; done) | (cases u <;> exact this)
  · cases h

theorem abound_sound {d y : Nat} {a : AV} {v : Value} (h : abound d (some a) = some y) (hv : VRel G a v) : ∃ k i, v = .int k i ∧ 0 ≤ i ∧ y = i.toNat := by
  unfold abound at h
  split at h
  · rename_i e; cases e
  · rename_i k i e
    cases e
    split at h
    · rename_i h0
      cases h
      exact ⟨k, i, hv.lit_inv, h0, rfl⟩
    · cases h
  · cases h

end
end Go.Proofs.YtjdccpmbaobpdaaGreatDoor

namespace Go.Proofs.YtjdccpmbaobpdaaGreatDoor
open Go.RowKit

section
variable {P : Program} {G : Gh} {S : AS} {w : World} {B : Nat → Nat}

theorem run_bound' {k : IntKind} {i : Int} {y : Nat} {code : BoundsCode} (h0 : 0 ≤ i) (h1 : i ≤ y) (w : World) : (Instr.sliceBound (.int k i) y code).run P w = .ok i.toNat w := by
  simp [Instr.sliceBound, asIntOf, h0, h1]

theorem bounds_run {isS : Bool} {len cap l h' m : Nat} {lo hi mx : Option AV} {lo' hi' mx' : Option Value} (hlo : ∀ y, lo = some y → ∃ u, lo' = some u ∧ VRel G y u) (hlo0 : lo = none → lo' = none)
    (hhi : ∀ y, hi = some y → ∃ u, hi' = some u ∧ VRel G y u) (hhi0 : hi = none → hi' = none) (hmx : ∀ y, mx = some y → ∃ u, mx' = some u ∧ VRel G y u) (hmx0 : mx = none → mx' = none)
    (hl : abound 0 lo = some l) (hh : abound len hi = some h') (hm : abound len mx = some m) (hlh : l ≤ h') (hhm : h' ≤ m) (hmn : m ≤ len) (hn : len ≤ cap) (hmh : mx.isSome → hi.isSome) (w : World) :
    ∃ m', (Instr.sliceBounds isS len cap lo' hi' mx').run P w = .ok (l, h', m') w ∧ h' ≤ m' ∧ m' ≤ cap ∧ (mx.isSome = true → m' = m) ∧ (mx = none → m' = cap) := by
  have low : ∀ code (M : Nat), (match lo' with | some v => (do let l ← Instr.sliceBound v h' code; pure (l, h', M)) | none => (do let l ← pure 0; pure (l, h', M)) : Sem (Nat × Nat × Nat)).run P w = .ok (l, h', M) w := by
    intro code M
    cases lo with
    | none => rw [hlo0 rfl]; simp [abound] at hl; rw [← hl]; rfl
    | some y =>
      obtain ⟨u, rfl, hyu⟩ := hlo y rfl
      obtain ⟨k, i, rfl, hi0, rfl⟩ := abound_sound hl hyu
      simp [run_bound' (P := P) (k := k) (code := code) hi0 (show i ≤ (h' : Int) by omega) w]
  cases mx with
  | none =>
    rw [hmx0 rfl]
    refine ⟨cap, ?_, by omega, Nat.le_refl _, (fun e => by cases e), fun _ => rfl⟩
    cases hi with
    | none =>
      rw [hhi0 rfl]
      have : h' = len := by simp [abound] at hh; exact hh.symm
      have lw := low .sliceB cap
      subst this
      simp only [Instr.sliceBounds, Sem.run_bind, Sem.run_pure, Result.andThen_ok, Option.isSome_none, Bool.false_eq_true, if_false]
      exact lw
    | some y =>
      obtain ⟨u, rfl, hyu⟩ := hhi y rfl
      obtain ⟨k, i, rfl, hi0, rfl⟩ := abound_sound hh hyu
      have lw := low .sliceB cap
      have hr := run_bound' (P := P) (k := k) (y := cap) (code := if isS then .sliceAcap else .sliceAlen) hi0 (by omega) w
      simp only [Instr.sliceBounds, Sem.run_bind, Sem.run_pure, Result.andThen_ok, Option.isSome_none, Bool.false_eq_true, if_false, hr]
      exact lw
  | some y =>
    obtain ⟨u, rfl, hyu⟩ := hmx y rfl
    obtain ⟨k, i, rfl, hi0, rfl⟩ := abound_sound hm hyu
    refine ⟨i.toNat, ?_, hhm, by omega, fun _ => rfl, (fun e => by cases e)⟩
    cases hi with
    | none => simp at hmh
    | some y =>
      obtain ⟨u, rfl, hyu⟩ := hhi y rfl
      obtain ⟨k', i', rfl, hi0', rfl⟩ := abound_sound hh hyu
      have lw := low .slice3C i.toNat
      have hr := run_bound' (P := P) (k := k) (y := cap) (code := if isS then .slice3Acap else .slice3Alen) hi0 (by omega) w
      have hr' := run_bound' (P := P) (k := k') (y := i.toNat) (code := .slice3B) hi0' (by omega) w
      simp only [Instr.sliceBounds, Sem.run_bind, Result.andThen_ok, Option.isSome_some, if_true, hr, hr']
      exact lw

theorem aslice_sound {t : TypeId} {a x : AV} {v : Value} {lo hi mx : Option AV} {lo' hi' mx' : Option Value} (h : aslice P t a lo hi mx = some x) (hv : VRel G a v)
    (hlo : ∀ y, lo = some y → ∃ u, lo' = some u ∧ VRel G y u) (hlo0 : lo = none → lo' = none) (hhi : ∀ y, hi = some y → ∃ u, hi' = some u ∧ VRel G y u) (hhi0 : hi = none → hi' = none)
    (hmx : ∀ y, mx = some y → ∃ u, mx' = some u ∧ VRel G y u) (hmx0 : mx = none → mx' = none) (w : World) : ∃ u, (Instr.sliceAt t v lo' hi' mx').run P w = .ok u w ∧ VRel G x u := by
  unfold aslice at h
  split at h
  · rename_i elem sp sz es hu
    split at h
    · rename_i l h' m hl hh hm
      split at h
      · rename_i hc
        obtain ⟨hsz, hlh, hhm, hmn, hmh⟩ := hc
        obtain ⟨inf, hinf, hinf2⟩ := Option.map_eq_some_iff.1 hsz
        cases h
        cases hv with
        | list _ _ _ b off cap val hn hcm hes h1 h2 hs =>
          obtain ⟨m', hr, hhm', hmc, hms, hmn'⟩ := bounds_run (P := P) (isS := true) hlo hlo0 hhi hhi0 hmx hmx0 hl hh hm hlh hhm hmn hn hmh w
          have hlen : ((es.drop l).take (h' - l)).length = h' - l := by simp; omega
          have hrun : (Instr.sliceAt t (.slice (some ⟨b, off, none⟩) es.length cap) lo' hi' mx').run P w = .ok (.slice (some ⟨b, if m' = l then off else off + l * sz, none⟩) ((es.drop l).take (h' - l)).length (m' - l)) w := by
            rw [hlen]
            by_cases hml : m' = l
            · subst hml
              simp [Instr.sliceAt, Instr.slice, run_underlying hu, hr, run_sizeOf' hinf]
            · simp [Instr.sliceAt, Instr.slice, run_underlying hu, hr, run_sizeOf' hinf, hml, hinf2, addr_add']
          refine ⟨_, hrun, .list _ sz _ b _ (m' - l) (fun i j => val (l + i) j) (by omega) (by omega) ?_ ?_ ?_ ?_⟩
          · intro e he
            exact hes e (List.mem_of_mem_drop (List.mem_of_mem_take he))
          · intro i j hi hj
            rw [hlen] at hi
            rw [if_neg (by omega)]
            have := h1 (l + i) j (by omega) hj
            rw [Nat.add_mul] at this
            rw [← this]
            congr 1
            omega
          · intro i j e a he ha
            refine h2 (l + i) j e a ?_ ha
            rw [List.getElem?_take] at he
            split at he
            · rwa [List.getElem?_drop] at he
            · cases he
          · by_cases hmx' : mx.isSome = true
            · rw [if_pos hmx']
              by_cases hmh' : m = h'
              · rw [if_pos hmh']
                show m' - l = _
                rw [hlen, hms hmx', hmh']
              · rw [if_neg hmh']
                trivial
            · rw [if_neg hmx']
              by_cases hlh0 : l = 0 ∧ h' = es.length
              · rw [if_pos hlh0]
                obtain ⟨rfl, rfl⟩ := hlh0
                have hm0 : m' = cap := hmn' (by cases mx <;> simp_all)
                subst hm0
                rw [hlen, Nat.sub_zero, Nat.sub_zero, Nat.zero_mul, Nat.add_zero, ite_self]
                exact hs
              · rw [if_neg hlh0]
                trivial
      · cases h
    · cases h
  · rename_i elem sp p g n off len sz hu
    split at h
    · rename_i l h' m hl hh hm
      split at h
      · rename_i hc
        obtain ⟨hsz, hlh, hhm, hmn, hmh⟩ := hc
        obtain ⟨inf, hinf, hinf2⟩ := Option.map_eq_some_iff.1 hsz
        cases hv with
        | row _ _ _ _ _ _ _ b c o cap ho hoff hn hcm hs =>
          obtain ⟨m', hr, hhm', hmc, hms, hmn'⟩ := bounds_run (P := P) (isS := true) hlo hlo0 hhi hhi0 hmx hmx0 hl hh hm hlh hhm hmn hn hmh w
          have hrun : (Instr.sliceAt t (.slice (some ⟨b, o, none⟩) len cap) lo' hi' mx').run P w = .ok (.slice (some ⟨b, if m' = l then o else o + l * sz, none⟩) (h' - l) (m' - l)) w := by
            by_cases hml : m' = l
            · subst hml
              simp [Instr.sliceAt, Instr.slice, run_underlying hu, hr, run_sizeOf' hinf]
            · simp [Instr.sliceAt, Instr.slice, run_underlying hu, hr, run_sizeOf' hinf, hml, hinf2, addr_add']
          refine ⟨_, hrun, ?_⟩
          split at h
          · rename_i hz
            obtain ⟨rfl, hmx', rfl⟩ := hz
            cases h
            have hm'm := hms hmx'
            rw [hm'm]
            have := VRel.list (G := G) .full sz [] b (if m = m then o else o + m * sz) (m - m) (fun _ _ => undef) (by simp) (by omega) (by simp) (fun i j hi _ => by simp at hi) (fun i j e a he _ => by simp at he) (show m - m = 0 by omega)
            simpa using this
          · rename_i hz
            cases h
            refine .row _ p g n (off + l * sz) (h' - l) sz b c (if m' = l then o else o + l * sz) (m' - l) ho (fun hpos => ?_) (by omega) (by omega) ?_
            · rw [if_neg (by omega), hoff (by omega)]
            · unfold Room.cut
              by_cases hmx' : mx.isSome = true
              · rw [if_pos hmx', if_pos rfl]
                by_cases hmh' : m = h'
                · rw [if_pos hmh']
                  show m' - l = h' - l
                  rw [hms hmx', hmh']
                · rw [if_neg hmh']
                  trivial
              · rw [if_neg hmx', if_neg (show ¬ (0 = 1) by decide)]
                by_cases hz' : h' = l ∧ 0 < l
                · rw [if_pos hz']
                  trivial
                · rw [if_neg hz']
                  cases sp with
                  | no => trivial
                  | full => trivial
                  | room =>
                    obtain ⟨e1, e2⟩ := hs
                    have hm0 : m' = cap := hmn' (by cases mx <;> simp_all)
                    subst hm0
                    refine ⟨?_, ?_⟩
                    · by_cases hml : m' = l
                      · rw [if_pos hml]
                        have : l = 0 := by omega
                        subst this
                        rw [Nat.zero_mul, Nat.add_zero]
                        exact e1
                      · rw [if_neg hml, e1]
                    · rw [← e2, Nat.add_assoc, ← Nat.add_mul]
                      congr 2
                      omega
      · cases h
    · cases h
  · rename_i len elem p g n off hu
    split at h
    · rename_i i l h' m hi' hl hh hm
      split at h
      · rename_i hc
        obtain ⟨hlh, hhm, hmn, hml, hmh⟩ := hc
        cases h
        cases hv with
        | ptr _ _ _ _ b c ho =>
          obtain ⟨m', hr, hhm', hmc, hms, hmn'⟩ := bounds_run (P := P) (isS := false) hlo hlo0 hhi hhi0 hmx hmx0 hl hh hm hlh hhm hmn (Nat.le_refl len) hmh w
          refine ⟨.slice (some ⟨b, if m' = l then off else off + l * i.size, none⟩) (h' - l) (m' - l), ?_, .row _ p g n (off + l * i.size) (h' - l) i.size b c (if m' = l then off else off + l * i.size) (m' - l) ho (fun hpos => ?_) (by omega) (by omega) trivial⟩
          · by_cases hml : m' = l
            · subst hml
              simp [Instr.sliceAt, Instr.sureAddr, run_underlying hu, hr, run_sizeOf' hi']
            · simp [Instr.sliceAt, Instr.sureAddr, run_underlying hu, hr, run_sizeOf' hi', hml, addr_add']
          · rw [if_neg (by omega)]
      · cases h
    · cases h
  · cases h
end
end Go.Proofs.YtjdccpmbaobpdaaGreatDoor

namespace Go.Proofs.YtjdccpmbaobpdaaGreatDoor
open Go.RowKit

section
variable {P : Program} {G : Gh} {S : AS} {w : World} {B : Nat → Nat}

/-- What a source of elements gives. -/
structure SrcOk (P : Program) (sz : Nat) (x : Value) (n : Nat) (vs : List Value) (w : World) : Prop where
  len : (Builtin.lenOf x).run P w = .ok n w
  cells : (Builtin.firstCells sz n x).run P w = .ok vs.toArray w
  drew : (Builtin.firstCells sz n x).run P w.drew = .ok vs.toArray w.drew
  pre : ∀ k, k ≤ n → (Builtin.firstCells sz k x).run P w = .ok (vs.take (k * sz)).toArray w

theorem chunks_len (sz : Nat) : ∀ (n : Nat) (cs : List AV), (chunks sz n cs).length = n
  | 0, _ => rfl
  | n + 1, cs => by simp [chunks, chunks_len sz n]
theorem chunks_flat (sz : Nat) : ∀ (n : Nat) (cs : List AV), n * sz ≤ cs.length → (chunks sz n cs).flatten = cs.take (n * sz) ∧ ∀ e ∈ chunks sz n cs, e.length = sz
  | 0, cs, _ => by simp [chunks]
  | n + 1, cs, h => by
    have hm : (n + 1) * sz = sz + n * sz := by rw [Nat.add_mul, Nat.one_mul, Nat.add_comm]
    obtain ⟨h1, h2⟩ := chunks_flat sz n (cs.drop sz) (by simp; omega)
    refine ⟨?_, fun e he => ?_⟩
    · simp only [chunks, List.flatten_cons, h1, hm, List.take_add]
    · rcases List.mem_cons.1 he with rfl | he
      · simp; omega
      · exact h2 e he

theorem srcOk_slice {sz n c : Nat} {a : Addr} {vs : List Value} (hl : vs.length = n * sz) (h : ∀ j v, vs[j]? = some v → w.cell? (a.add j) = some v) : SrcOk P sz (.slice (some a) n c) n vs w :=
  ⟨rfl, run_firstCells_some w sz n a n c vs hl h, run_firstCells_some w.drew sz n a n c vs hl (by simpa using h), fun k hk =>
    run_firstCells_some w sz k a n c (vs.take (k * sz)) (by have := Nat.mul_le_mul_right sz hk; simp; omega) fun j v hj => by
      rw [List.getElem?_take] at hj
      split at hj
      · exact h j v hj
      · cases hj⟩
theorem srcOk_nil {sz : Nat} {a : Option Addr} : SrcOk P sz (.slice a 0 0) 0 [] w := by
  cases a with
  | none => exact ⟨rfl, rfl, rfl, fun k _ => by simp [Builtin.firstCells]⟩
  | some a => exact srcOk_slice (vs := []) (by simp) fun j v h => by simp at h

theorem aelems_sound [Cfg] (hW : WRel G S w B) {sz : Nat} {x : AV} {v : Value} {news : List (List AV)} (h : aelems S sz x = some news) (hv : VRel G x v) (hsz : 0 < sz) :
    ∃ vs, CRel G news.flatten vs ∧ vs.length = news.length * sz ∧ (∀ e ∈ news, e.length = sz) ∧ SrcOk P sz v news.length vs w := by
  unfold aelems at h
  split at h
  · split at h
    · rename_i hs
      subst hs
      cases h
      obtain ⟨b, off, cap, vs, rfl, _, _, h1, h2, h3, h4, _⟩ := hv.flat hsz
      exact ⟨vs, h1, h3, h4, srcOk_slice h3 fun j u hj => by rw [addr_add']; exact hW.imm _ _ _ (h2 j u hj)⟩
    · cases h
  · rename_i sp p g n off len sz'
    split at h
    · rename_i cs hcs
      split at h
      · rename_i hc
        obtain ⟨rfl, hfit⟩ := hc
        cases h
        cases hv with
        | row _ _ _ _ _ _ _ b c o cap ho hoff hn hm hs =>
          obtain ⟨s, vs, t, fr, _, _, _, _, _, h2, _, h4, h5, _⟩ := hW.cellsAt hcs ho
          obtain ⟨k1, k2⟩ := chunks_flat sz' len (cs.drop off) (by simp; omega)
          have hl : (((vs.toList.take cs.length).drop off).take (len * sz')).length = len * sz' := by simp; omega
          rw [chunks_len]
          refine ⟨((vs.toList.take cs.length).drop off).take (len * sz'), by rw [k1]; exact (h4.drop off).take _, hl, k2, ?_⟩
          rcases Nat.eq_zero_or_pos len with h0 | hpos
          · subst h0
            have := srcOk_slice (P := P) (w := w) (sz := sz') (n := 0) (c := cap) (a := ⟨b, o, none⟩) (vs := []) (by simp) (fun j v hj => by simp at hj)
            simpa using this
          · refine srcOk_slice hl fun j u hj => ?_
            rw [addr_add', hoff hpos]
            rw [List.getElem?_take] at hj
            split at hj
            · rw [List.getElem?_drop, List.getElem?_take] at hj
              split at hj
              · simp only [World.cell?, h2]
                simpa using hj
              · cases hj
            · cases hj
      · cases h
    · cases h
  · cases h
    rw [hv.lit_inv]
    exact ⟨[], CRel.nil G, by simp, (fun e he => by cases he), srcOk_nil⟩
  · rename_i s
    split at h
    · rename_i h1
      subst h1
      cases h
      rw [hv.lit_inv]
      have hl : (s.data.toList.map fun b => [AV.lit (.int .u8 b.toNat)]).length = s.size := by simp
      have hx : (s.extract 0 s.size).data.map (fun b => Value.int .u8 b.toNat) = (s.data.toList.map fun b => Value.int .u8 b.toNat).toArray := by
        rw [ByteArray.extract_zero_size]
        apply Array.ext'
        simp
      refine ⟨s.data.toList.map fun b => .int .u8 b.toNat, ?_, by simp, ?_, ?_⟩
      · have : (s.data.toList.map fun b => [AV.lit (.int .u8 b.toNat)]).flatten = (s.data.toList.map fun b => Value.int .u8 b.toNat).map AV.lit := by
          induction s.data.toList with
          | nil => rfl
          | cons b r ih => simp [ih]
        rw [this]
        exact CRel.lits G _
      · intro e he
        obtain ⟨b, _, rfl⟩ := List.mem_map.1 he
        rfl
      · rw [hl]
        exact ⟨rfl, by simp only [Builtin.firstCells, Sem.run_pure, hx], by simp only [Builtin.firstCells, Sem.run_pure, hx], fun k hk => by
          have hxk : (s.extract 0 k).data.map (fun b => Value.int .u8 b.toNat) = ((s.data.toList.map fun b => Value.int .u8 b.toNat).take (k * 1)).toArray := by
            apply Array.ext'
            rw [Nat.mul_one]
            simp [List.extract_eq_take_drop, List.map_take]
          simp only [Builtin.firstCells, Sem.run_pure, hxk]⟩
    · cases h
  · cases h

theorem ones_of {news : List (List AV)} {vs : List Value} (h : CRel G news.flatten vs) (hone : news.all (fun e => e.all AV.one) = true) : ∀ u ∈ vs, u.oneCell' = true := fun u hu => by
  obtain ⟨j, hj⟩ := List.getElem?_of_mem hu
  have hjl : j < news.flatten.length := by rw [h.1]; exact (List.getElem?_eq_some_iff.1 hj).1
  refine (h.2 j _ u (List.getElem?_eq_getElem hjl) hj).one ?_
  obtain ⟨e, he, hx⟩ := List.mem_flatten.1 (List.getElem_mem hjl)
  exact List.all_eq_true.1 (List.all_eq_true.1 hone e he) _ hx

def isSrcD : TypeDesc → Bool
  | .slice _ => true
  | .string => true
  | _ => false
theorem run_zeros {u : TypeId} {d : TypeDesc} (hu : P.underlying u = some d) (hd : isSrcD d = true) (w : World) : (do pure ((← underlying u) matches .int _) : Sem Bool).run P w = .ok false w := by
  cases d <;> first | (cases hd; done) | simp [run_underlying hu]

theorem runA_fit {t u ty e : TypeId} {d : TypeDesc} {i : TypeInfo} (ht : P.underlying t = some (.slice e)) (hu : P.underlying u = some d) (hd : isSrcD d = true) (hi : P.info? e = some i) {a : Addr} {len cap n : Nat} {x : Value} {vs : List Value}
    (hs : SrcOk P i.size x n vs w) (hfit : len + n ≤ cap) {w' : World} (hst : (storeCells (a.add (len * i.size)) vs).run P w = .ok () w') : (Builtin.append_ #[t, u] ty #[.slice (some a) len cap, x]).run P w = .ok (.slice (some a) (len + n) cap) w' := by
  have hl := hs.len
  have hc := hs.cells
  have hzr := run_zeros hu hd w
  cases d <;> first | (cases hd; done) | skip
  · simp [Builtin.append_, run_underlying ht, run_underlying hu, sizeOf, typeInfo, hi, hl, hfit, hc, hst]
  · simp [Builtin.append_, run_underlying ht, run_underlying hu, sizeOf, typeInfo, hi, hl, hfit, hc, hst]

theorem runA_none {t u ty e : TypeId} {d : TypeDesc} {i : TypeInfo} (ht : P.underlying t = some (.slice e)) (hu : P.underlying u = some d) (hd : isSrcD d = true) (hi : P.info? e = some i) {base : Option Addr} {len cap : Nat} {x : Value}
    (hs : SrcOk P i.size x 0 [] w) (hfit : len ≤ cap) : (Builtin.append_ #[t, u] ty #[.slice base len cap, x]).run P w = .ok (.slice base len cap) w := by
  have hl := hs.len
  have hc := hs.cells
  cases d <;> first | (cases hd; done) | skip
  · cases base <;> simp [Builtin.append_, run_underlying ht, run_underlying hu, sizeOf, typeInfo, hi, hl, hfit, hc, storeCells]
  · cases base <;> simp [Builtin.append_, run_underlying ht, run_underlying hu, sizeOf, typeInfo, hi, hl, hfit, hc, storeCells]

theorem runA_grow {t u ty e : TypeId} {d : TypeDesc} {i : TypeInfo} {z : Value} (ht : P.underlying t = some (.slice e)) (hu : P.underlying u = some d) (hd : isSrcD d = true) (hi : P.info? e = some i) (hz : i.zero = some z) {base : Option Addr} {len cap n : Nat} {x : Value}
    {olds vs : List Value} (ho : SrcOk P i.size (.slice base len cap) len olds w) (hs : SrcOk P i.size x n vs w) (hg : cap < len + n) (h63 : ((len + n : Nat) : Int) ≤ 9223372036854775807) (hfit : Builtin.nextslicecap (len + n) cap * i.bytes ≤ 281474976710656) :
    (Builtin.append_ #[t, u] ty #[.slice base len cap, x]).run P w =
      .ok (.slice (some ⟨w.heap.size, 0, none⟩) (len + n) (grownCap w (len + n) cap e)) (w.alloc (.cells ((olds ++ vs) ++ (Builtin.zeroCells z.cells (grownCap w (len + n) cap e - (len + n))).toList).toArray e)).drew := by
  have hl := hs.len
  have hc := hs.drew
  have hco := ho.drew
  have hn : ¬ (len + n ≤ cap) := by omega
  have h63' : ¬ (9223372036854775807 < ((len : Int) + (n : Int))) := by omega
  have h48' : ¬ (281474976710656 < Builtin.nextslicecap (len + n) cap * i.bytes) := by omega
  rw [← World.alloc_drew]
  have fin : ∀ (A B C : List Value), (A.toArray ++ B.toArray ++ C.toArray : Array Value) = (A ++ (B ++ C)).toArray := fun A B C => by simp
  cases d <;> first | (cases hd; done) | skip
  · simp [Builtin.append_, run_underlying ht, run_underlying hu, sizeOf, typeInfo, zeroValue, hi, hz, hl, hn, h63', h48', Question.forced, hc, hco, newRow, grownCap]
    congr 2
    apply Array.ext'
    simp [List.append_assoc]
  · simp [Builtin.append_, run_underlying ht, run_underlying hu, sizeOf, typeInfo, zeroValue, hi, hz, hl, hn, h63', h48', Question.forced, hc, hco, newRow, grownCap]
    congr 2
    apply Array.ext'
    simp [List.append_assoc]
end
end Go.Proofs.YtjdccpmbaobpdaaGreatDoor

namespace Go.Proofs.YtjdccpmbaobpdaaGreatDoor
open Go.RowKit

section
variable {P : Program} {G : Gh} {S : AS} {w : World} {B : Nat → Nat}

theorem flat_append {es news : List (List AV)} : (es ++ news).flatten = es.flatten ++ news.flatten := List.flatten_append

/-- A row that is made anew. -/
theorem anewRow_ok [Cfg] (hW : WRel G S w B) {d : Tmp} {sz cap : Nat} {e : TypeId} {es : List (List AV)} {vs rest : List Value} (hes : ∀ x ∈ es, x.length = sz) (hc : CRel G es.flatten vs) (hcap : es.length ≤ cap) (hcm : cap ≤ maxLen)
    (hall : (vs ++ rest).length = cap * sz) {r : Result Next} (hr : r = .ok (.value (.slice (some ⟨w.heap.size, 0, none⟩) es.length cap)) (w.alloc (.cells (vs ++ rest).toArray e)).drew) : ArOk P G S w B r (anewRow S d e sz es) := by
  have hfl := flatten_len sz es hes
  have hvl : vs.length = es.length * sz := by rw [← hc.1, hfl]
  unfold anewRow
  split
  · obtain ⟨G', m1, m2, m3⟩ := newRowSlot hW d (cs := es.flatten) (vs := vs ++ rest) (n := es.length) (sz := sz) (cap := cap) e hcap hcm hfl hall (by rw [List.take_left' hvl]; exact hc)
    exact ⟨G', _, _, .inl hr, m1, m2.drew, m3.trans (Mod.drew _ _ _)⟩
  · obtain ⟨G', k1, k2, k3, k4⟩ := hW.newTok (p := S.here d) (g := S.fresh (S.here d)) (n := es.length) (sz := sz) (cap := cap) (e := e) vs rest (Nat.le_refl _) (hW.fresh_none _ _) (fun t ht => .inl (AS.fresh_lt ht)) hvl hcap hall
    exact ⟨G', _, _, .inl hr, VRel.of_flat hcap hcm hes (hc.mono k4.le) (fun j u hj => by rw [Nat.zero_add]; exact k2 j u hj) ⟨rfl, k1⟩, k3.drew, k4.trans (Mod.drew _ _ _)⟩

theorem zero_len {z : Value} {sz k : Nat} (hz : z.cells.size = sz) : (Builtin.zeroCells z.cells k).toList.length = k * sz := by
  rw [Array.length_toList, size_zeroCells, hz]

theorem grown_len {z : Value} {sz n cap : Nat} {vs : List Value} (hz : z.cells.size = sz) (hv : vs.length = n * sz) (hn : n ≤ cap) : (vs ++ (Builtin.zeroCells z.cells (cap - n)).toList).length = cap * sz := by
  rw [List.length_append, zero_len hz, hv, ← Nat.add_mul]
  congr 1
  omega

theorem aappend_sound [Cfg] (hW : WRel G S w B) {d : Option Tmp} {t t2 ty : TypeId} {d2 : TypeDesc} (hu2 : P.underlying t2 = some d2) (hd2 : isSrcD d2 = true) {s x : AV} {v u : Value} {y : AR} (h : aappend P S d t s x = some y) (hv : VRel G s v) (hu : VRel G x u) :
    ArOk P G S w B ((do pure (.value (← Builtin.append_ #[t, t2] ty #[v, u])) : Sem Next).run P w) y := by
  have hval : ∀ {z : Value} {w' : World}, (Builtin.append_ #[t, t2] ty #[v, u]).run P w = .ok z w' → (do pure (.value (← Builtin.append_ #[t, t2] ty #[v, u])) : Sem Next).run P w = .ok (.value z) w' := fun e => by simp [e]
  unfold aappend at h
  split at h
  case h_2 => cases h
  rename_i e d hut
  split at h
  case h_2 => cases h
  rename_i i hi
  split at h
  case h_2 => cases h
  rename_i z hz
  split at h
  case h_2 => cases h
  rename_i news hn
  split at h
  case isFalse => cases h
  rename_i hc
  obtain ⟨hzs, hpos, hone⟩ := hc
  obtain ⟨nvs, hnc, hnl, hne, hsrc⟩ := aelems_sound (P := P) hW hn hu hpos
  have h1s := ones_of hnc hone
  split at h
  · rename_i h0
    have hn0 : nvs = [] := List.eq_nil_of_length_eq_zero (by rw [hnl, h0, Nat.zero_mul])
    rw [h0, hn0] at hsrc
    split at h
    · cases h
      rw [hv.lit_inv] at hval ⊢
      exact opOk_same hW (hval (runA_none hut hu2 hd2 hi hsrc (Nat.le_refl _))) (.lit _)
    · cases h
      have hv0 := hv
      cases hv with
      | list sp sz es b off cap val hn' hcm hes h1 h2 hs => exact opOk_same hW (hval (runA_none hut hu2 hd2 hi hsrc hn')) hv0
    · cases h
      have hv0 := hv
      cases hv with
      | row sp p g n off len sz b c o cap ho hoff hn' hcm hs => exact opOk_same hW (hval (runA_none hut hu2 hd2 hi hsrc hn')) hv0
    · cases h
  · rename_i h0
    have hpl : 0 < news.length := by omega
    split at h
    · -- nil
      rename_i a0
      split at h
      · rename_i hb
        obtain ⟨hmax, hby⟩ := hb
        cases h
        rw [hv.lit_inv] at hval ⊢
        have hmax' : news.length ≤ 9223372036854775807 := by simp only [maxLen] at hmax; omega
        have ho : SrcOk P i.size (.slice a0 0 0) 0 [] w := srcOk_nil
        have hr := runA_grow (ty := ty) hut hu2 hd2 hi hz ho hsrc (by omega) (by omega) (growslice_fits (by omega) (by rw [Nat.zero_add]; exact hby))
        rw [Nat.zero_add] at hr
        exact anewRow_ok hW hne hnc (grownCap_ge w _ 0 e) (grownCap_le_maxLen w _ 0 e hmax) (grown_len hzs hnl (grownCap_ge w _ 0 e)) (hval hr)
      · cases h
    · -- full
      rename_i sz es
      split at h
      · rename_i hb
        obtain ⟨hsz, hmax, hby⟩ := hb
        cases h
        subst hsz
        obtain ⟨b, off, cap, vs, rfl, hncap, hcm, hc1, him, hvl, hes, hfull⟩ := hv.flat hpos
        have hcap : cap = es.length := hfull
        subst hcap
        have hmax' : es.length + news.length ≤ 9223372036854775807 := by simp only [maxLen] at hmax; omega
        have ho : SrcOk P i.size (.slice (some ⟨b, off, none⟩) es.length es.length) es.length vs w := srcOk_slice hvl fun j v hj => by rw [addr_add']; exact hW.imm _ _ _ (him j v hj)
        have hr := runA_grow (ty := ty) hut hu2 hd2 hi hz ho hsrc (by omega) (by omega) (growslice_fits (by omega) hby)
        have hlen : (es ++ news).length = es.length + news.length := List.length_append
        refine anewRow_ok hW (vs := vs ++ nvs) (fun x hx => (List.mem_append.1 hx).elim (hes x) (hne x)) (by rw [flat_append]; exact hc1.append hnc) (cap := grownCap w (es.length + news.length) es.length e) (by rw [hlen]; exact grownCap_ge w _ es.length e) (grownCap_le_maxLen w _ es.length e hmax)
          (grown_len hzs (by rw [List.length_append, hvl, hnl, ← Nat.add_mul]) (grownCap_ge w _ es.length e)) (by rw [hlen]; exact hval hr)
      · cases h
    · -- its own row, whose elements stay
      rename_i p g sz es
      split at h
      · rename_i g' n sz' e' hs
        split at h
        · rename_i hb
          obtain ⟨rfl, rfl, rfl, rfl, rfl, hmax, hby⟩ := hb
          cases h
          obtain ⟨b, off, cap, vs, rfl, hncap, hcm, hc1, him, hvl, hes, hoff, hown⟩ := hv.flat hpos
          subst hoff
          have hmax' : es.length + news.length ≤ 9223372036854775807 := by simp only [maxLen] at hmax; omega
          obtain ⟨k1, cur, fr, k2, k3, _, k4⟩ := hW.slot p (.tok g' es.length i.size e') hs rfl b cap hown
          have hlen : (es ++ news).length = es.length + news.length := List.length_append
          by_cases hroom : es.length + news.length ≤ cap
          · have hfit2 : (es.length + news.length) * i.size ≤ cur.size := by rw [k3]; exact Nat.mul_le_mul_right _ hroom
            rw [Nat.add_mul] at hfit2
            have hst := run_storeCells_free P b (es.length * i.size) e' fr nvs 0 cur.toList w (by simpa using k2) (fun o q1 _ q3 => by omega) (by simp [hnl]; omega) h1s
            simp only [Nat.add_zero] at hst
            have hr := runA_fit (ty := ty) hut hu2 hd2 hi hsrc (a := ⟨b, 0, none⟩) (len := es.length) (cap := cap) hroom (by rw [addr_add', Nat.zero_add]; exact hst)
            obtain ⟨G', m1, m2, m3, m4⟩ := hW.growTok nvs hs hown k2 hnl hpl hroom
            refine ⟨G', _, _, .inl (hval hr), ?_, m3, m4⟩
            have := VRel.of_flat (G := G') (sp := .own p g') (es := es ++ news) (b := b) (off := 0) (cap := cap) (vs := vs ++ nvs) (by simpa using hroom) hcm (fun x hx => (List.mem_append.1 hx).elim (hes x) (hne x)) (by rw [flat_append]; exact (hc1.append hnc).mono m4.le) (fun j u hj => by
              rw [Nat.zero_add]
              by_cases hj' : j < vs.length
              · rw [List.getElem?_append_left hj'] at hj
                have := m4.le.imm _ _ _ (him j u hj)
                rwa [Nat.zero_add] at this
              · rw [List.getElem?_append_right (by omega)] at hj
                have := m2 _ _ hj
                rwa [← hvl, Nat.add_sub_cancel' (by omega)] at this) ⟨rfl, by rw [List.length_append]; exact m1⟩
            rwa [List.length_append] at this
          · have ho : SrcOk P i.size (.slice (some ⟨b, 0, none⟩) es.length cap) es.length vs w := srcOk_slice hvl fun j v hj => by rw [addr_add']; exact hW.imm _ _ _ (him j v hj)
            have hr := runA_grow (ty := ty) hut hu2 hd2 hi hz ho hsrc (by omega) (by omega) (growslice_fits (by omega) hby)
            have hdom := (hW.dom _ _ _ _ hown).1
            have hge := grownCap_ge w (es.length + news.length) cap e'
            have hle := grownCap_le_maxLen w (es.length + news.length) cap e' hmax
            obtain ⟨G', m1, m2, m3, m4⟩ := hW.newTok (p := p) (g := g') (n := es.length + news.length) (sz := i.size) (cap := grownCap w (es.length + news.length) cap e') (e := e') (vs ++ nvs) (Builtin.zeroCells z.cells (grownCap w (es.length + news.length) cap e' - (es.length + news.length))).toList
              hdom (hW.ext_none hs (show es.length < es.length + news.length by omega)) (fun t ht => by rw [hs] at ht; cases ht; exact .inr ⟨rfl, by simp [ASlot.ext]⟩) (by rw [List.length_append, hvl, hnl, ← Nat.add_mul]) hge
              (grown_len hzs (by rw [List.length_append, hvl, hnl, ← Nat.add_mul]) hge)
            refine ⟨G', _, _, .inl (hval hr), ?_, m3.drew, m4.trans (Mod.drew _ _ _)⟩
            have := VRel.of_flat (G := G') (sp := .own p g') (es := es ++ news) (b := w.heap.size) (off := 0) (cap := grownCap w (es.length + news.length) cap e') (vs := vs ++ nvs) (by rw [hlen]; exact hge) hle (fun x hx => (List.mem_append.1 hx).elim (hes x) (hne x))
              (by rw [flat_append]; exact (hc1.append hnc).mono m4.le) (fun j u hj => by rw [Nat.zero_add]; exact m2 j u hj) ⟨rfl, by rw [hlen]; exact m1⟩
            rwa [hlen] at this
        · cases h
      · cases h
    · -- a row that is written to, with room
      rename_i p g n off len sz
      split at h
      · rename_i g' n' sz' e' cs hs
        split at h
        · rename_i hb
          obtain ⟨rfl, rfl, rfl, rfl, rfl, rfl, hcl⟩ := hb
          cases hv with
          | row _ _ _ _ _ _ _ b c o cap hown hoff hncap hcm hroom =>
            obtain ⟨rfl, hcc⟩ := hroom
            rw [Nat.zero_add] at hcc
            have hcapc : cap = c := Nat.eq_of_mul_eq_mul_right hpos hcc
            subst hcapc
            obtain ⟨k1, cur, fr, k2, k3, k4, k5, k6, k7⟩ := hW.slot p (.row g' n' i.size e' cs) hs rfl b cap hown
            have hcn : n' * i.size ≤ cap * i.size := Nat.mul_le_mul_right _ k4
            split at h
            · rename_i hfit
              cases h
              have hcat : S.cellsAt p g' n' = some cs := by simp [AS.cellsAt, hs]
              have hfl := flatten_len i.size news hne
              have hfit2 : (len + news.length) * i.size ≤ n' * i.size := Nat.mul_le_mul_right _ hfit
              rw [Nat.add_mul] at hfit2
              have hw' : S.write p g' n' (len * i.size) news.flatten = some (p, .row g' n' i.size e' (splice cs (len * i.size) news.flatten)) := by
                unfold AS.write
                rw [hcat, hs]
                simp only
                rw [if_pos]
                · rfl
                · refine ⟨by rw [hfl, hcl]; exact hfit2, ?_⟩
                  rw [List.all_eq_true]
                  intro a ha
                  obtain ⟨q, hq, hq'⟩ := List.mem_flatten.1 ha
                  exact List.all_eq_true.1 (List.all_eq_true.1 hone q hq) a hq'
              obtain ⟨G', w', m1, m2, m3⟩ := write_sound (P := P) hW hw' hown hnc
              have hr := runA_fit (ty := ty) hut hu2 hd2 hi hsrc (a := ⟨b, 0, none⟩) (len := len) (cap := cap) (by omega) (by rw [addr_add', Nat.zero_add]; exact m1)
              exact ⟨G', _, _, .inl (hval hr), .row .room p g' n' 0 _ _ b cap 0 cap (m3.le.own _ _ _ _ hown) (fun _ => rfl) (by omega) hcm ⟨rfl, Nat.zero_add _⟩, m2, m3⟩
            · rename_i hfit
              split at h
              · rename_i hb
                obtain ⟨rfl, hmax, hby⟩ := hb
                cases h
                have hmax' : len + news.length ≤ 9223372036854775807 := by simp only [maxLen] at hmax; omega
                have hfl := flatten_len i.size news hne
                have hnew : (cs ++ news.flatten).length = (len + news.length) * i.size := by rw [List.length_append, hcl, hfl, Nat.add_mul]
                by_cases hroom : len + news.length ≤ cap
                · have hfit2 : (len + news.length) * i.size ≤ cur.size := by rw [k3]; exact Nat.mul_le_mul_right _ hroom
                  rw [Nat.add_mul] at hfit2
                  have hst := run_storeCells_free P b (len * i.size) e' fr nvs 0 cur.toList w (by simpa using k2) (fun o q1 q2 q3 => by have := k6 o (by rw [hnl] at q2; omega) q3.1 q3.2; omega) (by simp [hnl]; omega) h1s
                  simp only [Nat.add_zero] at hst
                  have hr := runA_fit (ty := ty) hut hu2 hd2 hi hsrc (a := ⟨b, 0, none⟩) (len := len) (cap := cap) hroom (by rw [addr_add', Nat.zero_add]; exact hst)
                  have htk : (cur.toList.take (len * i.size)).length = len * i.size := by simp; omega
                  have hrel : CRel G (cs ++ news.flatten) (cur.toList.take (len * i.size) ++ nvs) := k7.append hnc
                  obtain ⟨G', m1, m2, m3⟩ := hW.setSlot (p := p) (s := .row g' (len + news.length) i.size e' (cs ++ news.flatten)) (t := .row g' len i.size e' cs)
                    (w' := w.setRow b (cur.toList.take (len * i.size) ++ nvs ++ cur.toList.drop (len * i.size + nvs.length)).toArray) hs rfl hown rfl (by simp [ASlot.ext]) k1 (hrel.lvs hW.own_lvl) (fun x hx => setRow_other w b x _ hx) (by simp) rfl rfl rfl
                    fun G' hle himm => ⟨himm, _, fr, setRow_heap w b cur _ e' fr k2, by simp; omega, hroom, hnew, (fun o q1 q2 q3 => k6 o (by simp at q1; omega) q2 q3), by
                      have e1 : ((cur.toList.take (len * i.size) ++ nvs ++ cur.toList.drop (len * i.size + nvs.length)).toArray.toList.take ((len + news.length) * i.size)) = cur.toList.take (len * i.size) ++ nvs := by
                        rw [List.toList_toArray, List.take_left']
                        rw [List.length_append, htk, hnl, Nat.add_mul]
                      rw [e1]
                      exact hrel.mono hle⟩
                  exact ⟨G', _, _, .inl (hval hr), .row .room p g' _ 0 _ _ b cap 0 cap m1 (fun _ => rfl) hroom hcm ⟨rfl, Nat.zero_add _⟩, m2, m3⟩
                · have ho : SrcOk P i.size (.slice (some ⟨b, 0, none⟩) len cap) len (cur.toList.take (len * i.size)) w := srcOk_slice (by simp; omega) fun j u hj => by
                    rw [addr_add', Nat.zero_add]
                    rw [List.getElem?_take] at hj
                    split at hj
                    · simp only [World.cell?, k2]
                      simpa using hj
                    · cases hj
                  have hr := runA_grow (ty := ty) hut hu2 hd2 hi hz ho hsrc (by omega) (by omega) (growslice_fits (by omega) hby)
                  have hge := grownCap_ge w (len + news.length) cap e'
                  have hle := grownCap_le_maxLen w (len + news.length) cap e' hmax
                  have htk : (cur.toList.take (len * i.size)).length = len * i.size := by simp; omega
                  have hrel : CRel G (cs ++ news.flatten) (cur.toList.take (len * i.size) ++ nvs) := k7.append hnc
                  have hvl2 : (cur.toList.take (len * i.size) ++ nvs).length = (len + news.length) * i.size := by rw [List.length_append, htk, hnl, Nat.add_mul]
                  obtain ⟨G', m1, m2, m3⟩ := hW.moveSlot (p := p) (s := .row g' (len + news.length) i.size e' (cs ++ news.flatten)) (t := .row g' len i.size e' cs) (hW.dom _ _ _ _ hown).1 hs rfl (by simp [ASlot.ext]; omega)
                    (.cells ((cur.toList.take (len * i.size) ++ nvs) ++ (Builtin.zeroCells z.cells (grownCap w (len + news.length) cap e' - (len + news.length))).toList).toArray e') (grownCap w (len + news.length) cap e') (hrel.lvs hW.own_lvl)
                    fun G' hle' himm => ⟨himm, _, (0, 0), heap_alloc_new w _, by
                      have := grown_len (vs := cur.toList.take (len * i.size) ++ nvs) hzs hvl2 hge
                      simpa using this, hge, hnew, (fun o _ _ h => by simp at h), by
                      rw [List.toList_toArray, List.take_left' hvl2]
                      exact hrel.mono hle'⟩
                  exact ⟨G', _, _, .inl (hval hr), .row .room p g' _ 0 _ _ w.heap.size _ 0 _ m1 (fun _ => rfl) hge hle ⟨rfl, Nat.zero_add _⟩, m2.drew, m3.trans (Mod.drew _ _ _)⟩
              · cases h
        · cases h
      · cases h
    · -- a row without room
      rename_i p g n off len sz
      split at h
      · rename_i es hes'
        split at h
        · rename_i hb
          obtain ⟨hsz, hmax, hby⟩ := hb
          cases h
          obtain ⟨vs, hc1, hvl, hes, ho⟩ := aelems_sound (P := P) hW hes' hv hpos
          have hlen : (es ++ news).length = es.length + news.length := List.length_append
          cases hv with
          | row _ _ _ _ _ _ _ b c o cap hown hoff hncap hcm hfull =>
            have hfull' : cap = len := hfull
            subst hfull'
            have hel : cap = es.length := by
              have h1 := ho.len
              simp [Builtin.lenOf] at h1
              exact h1
            rw [hel] at hval ho ⊢
            have hmax' : es.length + news.length ≤ 9223372036854775807 := by simp only [maxLen] at hmax; omega
            have hr := runA_grow (ty := ty) hut hu2 hd2 hi hz ho hsrc (by omega) (by omega) (growslice_fits (by omega) hby)
            refine anewRow_ok hW (vs := vs ++ nvs) (fun x hx => (List.mem_append.1 hx).elim (hes x) (hne x)) (by rw [flat_append]; exact hc1.append hnc) (cap := grownCap w (es.length + news.length) es.length e) (by rw [hlen]; exact grownCap_ge w _ es.length e) (grownCap_le_maxLen w _ es.length e hmax)
              (grown_len hzs (by rw [List.length_append, hvl, hnl, ← Nat.add_mul]) (grownCap_ge w _ es.length e)) (by rw [hlen]; exact hval hr)
        · cases h
      · cases h
    · cases h
end
end Go.Proofs.YtjdccpmbaobpdaaGreatDoor
