/-
  The types of the document: written by a program.
-/
import Derived.Test.YtaiohgabpbgkdaaGreatDoorME
namespace Go.Proofs.YtaiohgabpbgkdaaGreatDoor
open Go.RowKit

structure D.mach_Item where
  File : Bool
  Text : List UInt8
def c_mach_Item (x : D.mach_Item) : List V := [.bool x.File, .str x.Text]
theorem z_mach_Item : RelCL (c_mach_Item (D.mach_Item.mk false [])) [.lit (.bool false), .lit (.string (bs []))] := (cz_cons cz_bool (cz_cons cz_str cz_nil))
structure D.mach_State where
  Op : Int
  Pattern : List UInt8
  Hold : List UInt8
  Flag : Bool
  Line : Int
  Ranges : (List Int)
  Queue : (List D.mach_Item)
  Done : Bool
def c_mach_State (x : D.mach_State) : List V := [.int .i64 x.Op, .str x.Pattern, .str x.Hold, .bool x.Flag, .int .i64 x.Line, .sl 1 (x.Ranges.map (c_int .i64)), .sl 2 (x.Queue.map c_mach_Item), .bool x.Done]
theorem z_mach_State : RelCL (c_mach_State (D.mach_State.mk 0 [] [] false 0 [] [] false)) [.lit (.int .i64 0), .lit (.string (bs [])), .lit (.string (bs [])), .lit (.bool false), .lit (.int .i64 0), .lit (.slice none 0 0), .lit (.slice none 0 0), .lit (.bool false)] := (cz_cons cz_int (cz_cons cz_str (cz_cons cz_str (cz_cons cz_bool (cz_cons cz_int (cz_cons (RelC.nil _ _) (cz_cons (RelC.nil _ _) (cz_cons cz_bool cz_nil))))))))
structure D.ref19_I where
  File : Bool
  Text : List UInt8
def c_ref19_I (x : D.ref19_I) : List V := [.bool x.File, .str x.Text]
theorem z_ref19_I : RelCL (c_ref19_I (D.ref19_I.mk false [])) [.lit (.bool false), .lit (.string (bs []))] := (cz_cons cz_bool (cz_cons cz_str cz_nil))
structure D.ref19_S where
  Op : Int
  Pattern : List UInt8
  Hold : List UInt8
  Flag : Bool
  Line : Int
  Ranges : (List Int)
  Queue : (List D.ref19_I)
  Done : Bool
def c_ref19_S (x : D.ref19_S) : List V := [.int .i64 x.Op, .str x.Pattern, .str x.Hold, .bool x.Flag, .int .i64 x.Line, .sl 1 (x.Ranges.map (c_int .i64)), .sl 2 (x.Queue.map c_ref19_I), .bool x.Done]
theorem z_ref19_S : RelCL (c_ref19_S (D.ref19_S.mk 0 [] [] false 0 [] [] false)) [.lit (.int .i64 0), .lit (.string (bs [])), .lit (.string (bs [])), .lit (.bool false), .lit (.int .i64 0), .lit (.slice none 0 0), .lit (.slice none 0 0), .lit (.bool false)] := (cz_cons cz_int (cz_cons cz_str (cz_cons cz_str (cz_cons cz_bool (cz_cons cz_int (cz_cons (RelC.nil _ _) (cz_cons (RelC.nil _ _) (cz_cons cz_bool cz_nil))))))))
end Go.Proofs.YtaiohgabpbgkdaaGreatDoor
