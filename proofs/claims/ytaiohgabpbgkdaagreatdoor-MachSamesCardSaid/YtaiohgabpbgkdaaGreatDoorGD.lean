/-
  The functions, plain: written by a program.
-/
import Derived.Test.YtaiohgabpbgkdaaGreatDoorGT
namespace Go.Proofs.YtaiohgabpbgkdaaGreatDoor
open Go.RowKit

noncomputable section
def law19_awake : Option Bool := some true
def slices_Equal_int_int_l0 (p0 : (List Int)) (p1 : (List Int)) (p12 : Int) : Int → Option (Ctl Int Unit Bool) := fun p13 =>
  (if p13 < p12 then (G.idx p0 p13).bind fun x_5 =>
  (G.idx p1 p13).bind fun x_9 =>
  (if x_5 ≠ x_9 then some (.ret false) else some (.nxt (G.addI p13 1))) else some (.brk ()))
def slices_Equal_int_int (a0 : (List Int)) (a1 : (List Int)) : Option Bool :=
  (if (a0.length : Int) ≠ (a1.length : Int) then some false else (Loop (slices_Equal_int_int_l0 a0 a1 (a0.length : Int)) 0).bind fun o => (match o with
  | .brk _ => some true
  | .ret r => some r))
def slices_Equal_mach_Item_mach_Item_l0 (p0 : (List D.mach_Item)) (p1 : (List D.mach_Item)) (p12 : Int) : Int → Option (Ctl Int Unit Bool) := fun p13 =>
  (if p13 < p12 then (G.idx p0 p13).bind fun x_5 =>
  (G.idx p1 p13).bind fun x_11 =>
  (if ((decide (x_5.File = x_11.File) && (decide (x_5.Text = x_11.Text) && true)) != true) = true then some (.ret false) else some (.nxt (G.addI p13 1))) else some (.brk ()))
def slices_Equal_mach_Item_mach_Item (a0 : (List D.mach_Item)) (a1 : (List D.mach_Item)) : Option Bool :=
  (if (a0.length : Int) ≠ (a1.length : Int) then some false else (Loop (slices_Equal_mach_Item_mach_Item_l0 a0 a1 (a0.length : Int)) 0).bind fun o => (match o with
  | .brk _ => some true
  | .ret r => some r))
def mach_Same (a0 : D.mach_State) (a1 : D.mach_State) : Option Bool :=
  (G.when ((((((decide (a0.Op = a1.Op)) && (decide (a0.Pattern = a1.Pattern))) && (decide (a0.Hold = a1.Hold))) && (decide (a0.Flag = a1.Flag) != false)) && (decide (a0.Line = a1.Line))) && (decide (a0.Done = a1.Done) != false)) (slices_Equal_int_int a0.Ranges a1.Ranges) false).bind fun x_96 =>
  (G.when (((((((decide (a0.Op = a1.Op)) && (decide (a0.Pattern = a1.Pattern))) && (decide (a0.Hold = a1.Hold))) && (decide (a0.Flag = a1.Flag) != false)) && (decide (a0.Line = a1.Line))) && (decide (a0.Done = a1.Done) != false)) && x_96) (slices_Equal_mach_Item_mach_Item a0.Queue a1.Queue) false).bind fun x_119 =>
  some ((((((((decide (a0.Op = a1.Op)) && (decide (a0.Pattern = a1.Pattern))) && (decide (a0.Hold = a1.Hold))) && (decide (a0.Flag = a1.Flag) != false)) && (decide (a0.Line = a1.Line))) && (decide (a0.Done = a1.Done) != false)) && x_96) && x_119)
def law19_stated_l0 (p24 : (List D.ref19_I)) (p25 : Int) (q2 : D.mach_State) : (Int × D.mach_State) → Option (Ctl (Int × D.mach_State) D.mach_State D.mach_State) := fun (p26, q3) =>
  (if p26 < p25 then (G.idx p24 p26).bind fun x_28 =>
  (G.app q3.Queue [(D.mach_Item.mk x_28.File x_28.Text)]).bind fun x_45 =>
  some (.nxt ((G.addI p26 1), { q3 with Queue := x_45 })) else some (.brk q3))
def law19_stated (a0 : D.ref19_S) : Option D.mach_State :=
  (G.app [] a0.Ranges).bind fun x_9 =>
  (Loop (law19_stated_l0 a0.Queue (a0.Queue.length : Int) (D.mach_State.mk 0 [] [] false 0 [] [] false)) (0, (D.mach_State.mk a0.Op a0.Pattern a0.Hold a0.Flag a0.Line x_9 [] a0.Done))).bind fun o => (match o with
  | .brk q3b_55 => some q3b_55
  | .ret r => some r)
def ref19_Same_l0 (p67 : Int) (q2 : D.ref19_S) (q3 : D.ref19_S) : Int → Option (Ctl Int Unit Bool) := fun p68 =>
  (if p68 < p67 then (G.idx q2.Ranges p68).bind fun x_142 =>
  (G.idx q3.Ranges p68).bind fun x_149 =>
  (if x_142 ≠ x_149 then some (.ret false) else some (.nxt (G.addI p68 1))) else some (.brk ()))
def ref19_Same_l1 (p85 : Int) (q2 : D.ref19_S) (q3 : D.ref19_S) : Int → Option (Ctl Int Unit Bool) := fun p86 =>
  (if p86 < p85 then (G.idx q2.Queue p86).bind fun x_164 =>
  (G.idx q3.Queue p86).bind fun x_173 =>
  (if ((decide (x_164.File = x_173.File) && (decide (x_164.Text = x_173.Text) && true)) != true) = true then some (.ret false) else some (.nxt (G.addI p86 1))) else some (.brk ()))
def ref19_Same (a0 : D.ref19_S) (a1 : D.ref19_S) : Option Bool :=
  (if ((((((((decide (a0.Op ≠ a1.Op)) || (decide (a0.Pattern ≠ a1.Pattern))) || (decide (a0.Hold ≠ a1.Hold))) || (decide (a0.Flag = a1.Flag) != true)) || (decide (a0.Line ≠ a1.Line))) || (decide (a0.Done = a1.Done) != true)) || (decide ((a0.Ranges.length : Int) ≠ (a1.Ranges.length : Int)))) || (decide ((a0.Queue.length : Int) ≠ (a1.Queue.length : Int)))) = true then some false else (Loop (ref19_Same_l0 (a0.Ranges.length : Int) a0 a1) 0).bind fun o => (match o with
  | .brk _ => (Loop (ref19_Same_l1 (a0.Queue.length : Int) a0 a1) 0).bind fun o => (match o with
  | .brk _ => some true
  | .ret r => some r)
  | .ret r => some r))
def law19_MachSames (a0 : D.ref19_S) (a1 : D.ref19_S) : Option Bool :=
  (law19_awake).bind fun x_3 =>
  (if (((((!x_3) || (decide ((a0.Ranges.length : Int) > 30))) || (decide ((a1.Ranges.length : Int) > 30))) || (decide ((a0.Queue.length : Int) > 30))) || (decide ((a1.Queue.length : Int) > 30))) = true then (law19_awake).bind fun x_66 =>
  some x_66 else (law19_stated a0).bind fun x_70 =>
  (law19_stated a1).bind fun x_76 =>
  (mach_Same x_70 x_76).bind fun x_80 =>
  (ref19_Same a0 a1).bind fun x_86 =>
  (G.when (decide (x_80 = x_86) != false) (law19_stated a0) (D.mach_State.mk 0 [] [] false 0 [] [] false)).bind fun x_93 =>
  (G.when (decide (x_80 = x_86) != false) (law19_stated a0) (D.mach_State.mk 0 [] [] false 0 [] [] false)).bind fun x_105 =>
  (G.when (decide (x_80 = x_86) != false) (mach_Same x_93 x_105) false).bind fun x_112 =>
  some ((decide (x_80 = x_86) != false) && x_112))
end
end Go.Proofs.YtaiohgabpbgkdaaGreatDoor
