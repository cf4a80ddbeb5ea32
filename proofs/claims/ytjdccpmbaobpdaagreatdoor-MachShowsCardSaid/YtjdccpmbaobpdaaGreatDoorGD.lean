/-
  The functions, plain: written by a program.
-/
import Derived.Test.YtjdccpmbaobpdaaGreatDoorGT
namespace Go.Proofs.YtjdccpmbaobpdaaGreatDoor
open Go.RowKit

noncomputable section
def law19_awake : Option Bool := some true
def strconv_FormatInt (a0 : Int) (a1 : Int) : Option (List UInt8) := G.fmt8 a0 a1
def mach_Shown_l0 (p0 : List UInt8) (p7 : Int) : (Int × List UInt8) → Option (Ctl (Int × List UInt8) (List UInt8) (List UInt8)) := fun (p8, q3) =>
  (if p8 < p7 then (G.idxS p0 p8).bind fun x_3 =>
  (if x_3 = 92 then (G.app q3 [92, 92]).bind fun x_6 =>
  some (.nxt ((G.addI p8 1), x_6)) else (if ((decide (x_3 ≥ 32)) && (decide (x_3 ≤ 126))) = true then (G.appB q3 x_3).bind fun x_16 =>
  some (.nxt ((G.addI p8 1), x_16)) else (if ((decide (x_3 ≥ 7)) && (decide (x_3 ≤ 13))) = true then (G.appB q3 92).bind fun x_26 =>
  (G.idxS [97, 98, 116, 110, 118, 102, 114] (IntKind.u8.wrap (x_3 - 7))).bind fun x_29 =>
  (G.appB x_26 x_29).bind fun x_31 =>
  some (.nxt ((G.addI p8 1), x_31)) else (strconv_FormatInt (G.addI (IntKind.i64.wrap x_3) 512) 8).bind fun x_34 =>
  (G.subS x_34 1 x_34.length).bind fun x_36 =>
  (G.catS [92] x_36).bind fun x_38 =>
  (G.app q3 x_38).bind fun x_40 =>
  some (.nxt ((G.addI p8 1), x_40))))) else some (.brk q3))
def mach_Shown (a0 : List UInt8) : Option (List UInt8) :=
  (Loop (mach_Shown_l0 a0 (a0.length : Int)) (0, [])).bind fun o => (match o with
  | .brk q3b_45 => some q3b_45
  | .ret r => some r)
def ref06_Digits_l0  : (Int × List UInt8) → Option (Ctl (Int × List UInt8) (Int × List UInt8) (List UInt8)) := fun (p0, p3) =>
  (if p0 ≥ 10 then (G.subS [48, 49, 50, 51, 52, 53, 54, 55, 56, 57] (Int.tmod p0 10) (G.addI (Int.tmod p0 10) 1)).bind fun x_2 =>
  (G.catS x_2 p3).bind fun x_4 =>
  some (.nxt ((IntKind.i64.wrap (Int.tdiv p0 10)), x_4)) else some (.brk (p0, p3)))
def ref06_Digits (a0 : Int) : Option (List UInt8) :=
  (Loop (ref06_Digits_l0 ) (a0, [])).bind fun o => (match o with
  | .brk (p0b_8, p3b_8) => (G.subS [48, 49, 50, 51, 52, 53, 54, 55, 56, 57] p0b_8 (G.addI p0b_8 1)).bind fun x_9 =>
  (G.catS x_9 p3b_8).bind fun x_11 =>
  some x_11
  | .ret r => some r)
def ref19_Shown_l0 (p0 : List UInt8) (p7 : Int) : (List UInt8 × Int) → Option (Ctl (List UInt8 × Int) (List UInt8) (List UInt8)) := fun (p3, p8) =>
  (if p8 < p7 then (G.idxS p0 p8).bind fun x_2 =>
  (if x_2 = 92 then (G.catS p3 [92, 92]).bind fun x_5 =>
  some (.nxt (x_5, (G.addI p8 1))) else (if ((decide (x_2 ≥ 32)) && (decide (x_2 < 127))) = true then (G.subS p0 p8 (G.addI p8 1)).bind fun x_14 =>
  (G.catS p3 x_14).bind fun x_16 =>
  some (.nxt (x_16, (G.addI p8 1))) else (if ((decide (x_2 ≥ 7)) && (decide (x_2 ≤ 13))) = true then (G.catS p3 [92]).bind fun x_25 =>
  (G.subS [97, 98, 116, 110, 118, 102, 114] (IntKind.u8.wrap (x_2 - 7)) (IntKind.u8.wrap (x_2 - 6))).bind fun x_27 =>
  (G.catS x_25 x_27).bind fun x_29 =>
  some (.nxt (x_29, (G.addI p8 1))) else (G.catS p3 [92]).bind fun x_31 =>
  (ref06_Digits (IntKind.i64.wrap (IntKind.u8.wrap (Int.tdiv x_2 64)))).bind fun x_33 =>
  (G.catS x_31 x_33).bind fun x_35 =>
  (ref06_Digits (IntKind.i64.wrap (Int.tmod (IntKind.u8.wrap (Int.tdiv x_2 8)) 8))).bind fun x_37 =>
  (G.catS x_35 x_37).bind fun x_39 =>
  (ref06_Digits (IntKind.i64.wrap (Int.tmod x_2 8))).bind fun x_41 =>
  (G.catS x_39 x_41).bind fun x_43 =>
  some (.nxt (x_43, (G.addI p8 1)))))) else some (.brk p3))
def ref19_Shown (a0 : List UInt8) : Option (List UInt8) :=
  (Loop (ref19_Shown_l0 a0 (a0.length : Int)) ([], 0)).bind fun o => (match o with
  | .brk p3b_47 => some p3b_47
  | .ret r => some r)
def law19_MachShows_l0 (p0 : List UInt8) (p3 : List UInt8) (p16 : Int) : Int → Option (Ctl Int Unit Bool) := fun p17 =>
  (if p17 < p16 then (G.idxS p3 p17).bind fun x_18 =>
  (G.when (!(decide (x_18 < 32))) (G.idxS p3 p17) 0).bind fun x_26 =>
  (if ((decide (x_18 < 32)) || (decide (x_26 > 126))) = true then some (.ret false) else some (.nxt (G.addI p17 1))) else some (.brk ()))
def law19_MachShows (a0 : List UInt8) : Option Bool :=
  (law19_awake).bind fun x_1 =>
  (if ((!x_1) || (decide ((a0.length : Int) > 300))) = true then (law19_awake).bind fun x_13 =>
  some x_13 else (mach_Shown a0).bind fun x_15 =>
  (Loop (law19_MachShows_l0 a0 x_15 (x_15.length : Int)) 0).bind fun o => (match o with
  | .brk _ => (ref19_Shown a0).bind fun x_38 =>
  some (decide (x_15 = x_38))
  | .ret r => some r))
end
end Go.Proofs.YtjdccpmbaobpdaaGreatDoor
