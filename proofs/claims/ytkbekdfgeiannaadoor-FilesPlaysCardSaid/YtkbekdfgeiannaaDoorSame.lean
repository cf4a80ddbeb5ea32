/-
  The walk of placketref17's Same, at two tables that tell the same.
-/
import Derived.Test.YtkbekdfgeiannaaDoorRefNew
import Derived.BigQuiet
import Derived.Deep.QuietTactic
import Derived.WalkSmall
namespace Go.Proofs.YtkbekdfgeiannaaDoor
open Go.RowKit Go.Maps

set_option maxRecDepth 100000 in
set_option maxHeartbeats 4000000 in
theorem same_any (va vb : Value) (fl : Fl) (w : World) (ha : FsAt w va fl) (hb : FsAt w vb fl) :
    Calls Tryd.prog 13 #[va, vb] w fun e w' => e = .returned (.bool true) ∧ Below w.heap.size w w' := by
  obtain ⟨ao, cap, rfl, hcap, hc63, hcells⟩ := ha.form
  obtain ⟨ao', cap', rfl, hcap', hc63', hcells'⟩ := hb.form
  have HC := Lib.hid hcells
  have HC' := Lib.hid hcells'
  clear hcells hcells' ha hb
  go_enter Tryd.func13, Tryd.ntmps13
  go_wp2
  go_loopw [14] (fun i wr => ∃ k : Nat, k ≤ fl.length ∧ i = .int .i64 k ∧ Below w.heap.size w wr)
    (fun i _ => fl.length - (intOf i).toNat)
  case atStart => exact ⟨0, Nat.zero_le _, rfl, Below.refl _ _⟩
  case round =>
    obtain ⟨k, hk, rfl, hb⟩ := hrel
    by_cases hlt : k < fl.length
    · obtain ⟨p, hp⟩ : ∃ p, fl[k]? = some p := ⟨fl[k], List.getElem?_eq_getElem hlt⟩
      obtain ⟨b, off, lv, rfl, c1, c2, hl⟩ := HC.out.keeps (KeepsCells.of_below hb) k p hp
      obtain ⟨b', off', lv', rfl, c1', c2', hl'⟩ := HC'.out.keeps (KeepsCells.of_below hb) k p hp
      obtain ⟨ao2, cap2, rfl, hcap2, hc632, hcells2⟩ := hl.lineForm
      obtain ⟨ao2', cap2', rfl, hcap2', hc632', hcells2'⟩ := hl'.lineForm
      have HC2 := Lib.hid hcells2
      have HC2' := Lib.hid hcells2'
      clear hp hl hl' hcells2 hcells2'
      obtain ⟨nm1, ls⟩ := p
      simp only at c1 c2 c1' c2' HC2 HC2' hcap2 hcap2'
      have i0 : (0 : Int) ≤ (k : Int) := by omega
      have i1 : (k : Int) < (fl.length : Int) := by omega
      go_wp2_with fail
      go_quiet (fail)
      go_wp2_with fail
      obtain ⟨wo, rfl⟩ : ∃ wo : World, wo = wr := ⟨_, rfl⟩
      have HB := Lib.hid hb
      have C2 := Lib.hid c2
      have C2' := Lib.hid c2'
      clear hb c1 c2 c1' c2'
      go_loopw [49] (fun i wi => ∃ m : Nat, m ≤ ls.length ∧ i = .int .i64 m ∧ Below wo.heap.size wo wi)
        (fun i _ => ls.length - (intOf i).toNat)
      case atStart => exact ⟨0, Nat.zero_le _, rfl, below_drewN (Below.refl _ _) _⟩
      case round =>
        obtain ⟨m, hm, rfl, hbi⟩ := hrel
        by_cases hlm : m < ls.length
        · obtain ⟨s, hs⟩ : ∃ s, ls[m]? = some s := ⟨ls[m], List.getElem?_eq_getElem hlm⟩
          obtain ⟨b2, off2, rfl, c3⟩ := HC2.out.keeps (KeepsCells.of_below hbi) m s hs
          obtain ⟨b2', off2', rfl, c3'⟩ := HC2'.out.keeps (KeepsCells.of_below hbi) m s hs
          have d2 := (hbi.cell (cell_lt C2.out)).trans C2.out
          have d2' := (hbi.cell (cell_lt C2'.out)).trans C2'.out
          have j0 : (0 : Int) ≤ (m : Int) := by omega
          have j1 : (m : Int) < (ls.length : Int) := by omega
          clear hs
          go_wp2_with fail
          go_quiet (fail)
          go_wp2
          go_roundw
          case rel => exact ⟨m + 1, hlm, by go_num, below_drewN hbi _⟩
          case measure => simp [intOf]; omega
        · obtain rfl : m = ls.length := by omega
          go_wp2
          go_roundw
          case rel => exact ⟨k + 1, hlt, by go_num, HB.out.trans (hbi.mono HB.out.size)⟩
          case measure => simp [intOf]; omega
    · obtain rfl : k = fl.length := by omega
      go_wp2
      go_ret
      exact ⟨rfl, hb⟩
end Go.Proofs.YtkbekdfgeiannaaDoor
