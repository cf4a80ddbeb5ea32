/-
  How many zeros stand behind the last 1 of the number 8: the table of math/bits is read at one place.
-/
import Derived.Test.YtjdccpmbaobpdaaGreatDoorNames
import Derived.Test.YtjdccpmbaobpdaaGreatDoorMD
import Derived.Test.YtjdccpmbaobpdaaGreatDoorProg
import Derived.Handy
namespace Go.Proofs.YtjdccpmbaobpdaaGreatDoor
open Go.RowKit

theorem tz_any (w : World) (hc : w.cell? ⟨3, 7, none⟩ = some (.int .u8 3)) :
    Calls Tryz.prog 153 #[.int .u64 8] w fun e w' => e = .returned (.int .i64 3) ∧ w' = w := by
  have he : IntKind.u64.wrap (bits BinOp.and IntKind.u64 8 (IntKind.u64.wrap (-8)) * 285870213051353865) / 288230376151711744 = 7 := by decide +kernel
  have hr : 0 ≤ IntKind.u64.wrap (bits BinOp.and IntKind.u64 8 (IntKind.u64.wrap (-8)) * 285870213051353865) / 288230376151711744 ∧ IntKind.u64.wrap (bits BinOp.and IntKind.u64 8 (IntKind.u64.wrap (-8)) * 285870213051353865) / 288230376151711744 < 64 := by rw [he]; decide
  have hc' : w.cell? ⟨3, (IntKind.u64.wrap (bits BinOp.and IntKind.u64 8 (IntKind.u64.wrap (-8)) * 285870213051353865) / 288230376151711744).toNat, none⟩ = some (.int .u8 3) := by rw [he]; exact hc
  go_enter Tryz.func153, Tryz.ntmps153
  go_wp2
  go_returns
  exact ⟨rfl, rfl⟩
theorem givenTz_ok {args : List AV} {S : AS} {x : AE} {r : Upd} (h : givenTz args S = some (x, r)) {G : Gh} {w : World} {B : Nat → Nat} {args' : List Value} (hW : WRel G S w B) (ha : CRel G args args') :
    Calls Tryz.prog 153 args'.toArray w fun e w' => ∃ G', AE.rel G' x e ∧ WRel G' (S.after r) w' B ∧ Mod G S w G' (S.after r) w' := by
  unfold givenTz at h
  split at h
  case h_2 => cases h
  rename_i n
  split at h
  case isFalse => cases h
  rename_i hn
  subst hn
  cases h
  obtain ⟨v, hv, hr⟩ : ∃ v, args' = [v] ∧ VRel G (.lit (.int .u64 8)) v := by
    cases args' with
    | nil => exact absurd ha.1 (by simp)
    | cons v t => cases t with
      | nil => exact ⟨v, rfl, ha.head⟩
      | cons _ _ => exact absurd ha.1 (by simp)
  subst hv
  rw [hr.lit_inv]
  have hc := hW.imm _ _ _ (hW.far.2 (3, 7, .int .u8 3) (List.mem_singleton.2 rfl))
  refine (tz_any w hc).mono fun e w' he => ?_
  obtain ⟨rfl, rfl⟩ := he
  exact ⟨G, ⟨_, rfl, .lit _⟩, hW, Mod.refl G S _⟩
end Go.Proofs.YtjdccpmbaobpdaaGreatDoor
