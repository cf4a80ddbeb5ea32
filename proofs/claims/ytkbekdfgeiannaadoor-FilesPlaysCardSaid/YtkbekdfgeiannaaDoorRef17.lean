/-
  The walk of placketlaw17's Ref.
-/
import Derived.Test.YtkbekdfgeiannaaDoorSame
namespace Go.Proofs.YtkbekdfgeiannaaDoor
open Go.RowKit Go.Maps

set_option maxRecDepth 100000 in
set_option maxHeartbeats 2000000 in
theorem ref_any (v : Value) (fl : Fl) (w : World) (h : FsAt w v fl) (hlen : fl.length ≤ 1000000) :
    Calls Tryd.prog 14 #[v] w fun e w' => ∃ v', e = .returned v' ∧ FsAt w' v' fl ∧ Below w.heap.size w w' := by
  obtain ⟨j0, hj, hy0, hy1, hy2⟩ := info_parts info_f
  obtain ⟨ao, cap, rfl, hcap, hc63, hcells⟩ := h.form
  have HC := Lib.hid hcells
  clear hcells h
  go_enter Tryd.func14, Tryd.ntmps14
  go_wp2
  go_loopw [3, 8] (fun out i wr => ∃ (k : Nat) (vs : List (ByteArray × Value)), k ≤ fl.length ∧ i = .int .i64 k ∧ Hid (RowsAre w vs (fl.take k)) ∧ wr.ownsRow w.heap.size 51 2 out k (cellsF vs) ∧ Below w.heap.size w wr)
    (fun _ i _ => fl.length - (intOf i).toNat)
  case atStart => exact ⟨0, [], Nat.zero_le _, rfl, ⟨rfl, fun i p h => by simp at h⟩, World.ownsRow_nil _ _ _ _, Below.refl _ _⟩
  case round =>
    obtain ⟨k, vs, hk, rfl, hro, hown, hb⟩ := hrel
    by_cases hlt : k < fl.length
    · obtain ⟨p, hp⟩ : ∃ p, fl[k]? = some p := ⟨fl[k], List.getElem?_eq_getElem hlt⟩
      obtain ⟨b, off, lp, rfl, e1, e2, hl⟩ := HC.out k p hp
      obtain ⟨ao2, cap2, rfl, hcap2, hc632, _⟩ := hl.lineForm
      have c1 := (hb.cell (cell_lt e1)).trans e1
      have c2 := (hb.cell (cell_lt e2)).trans e2
      have HTK := Lib.hid (take_snoc' hp)
      have hkeep : Hid (RowsAre w (vs ++ [(p.1, .slice ao2 p.2.length cap2)]) (fl.take k ++ [(p.1, p.2)])) := hro.out.snoc p.1 _ p.2 hl
      have hsz := hb.size
      clear hp hl e1 e2
      obtain ⟨nm1, lp⟩ := p
      simp only at c1 c2 hcap2 hkeep HTK
      have HW0 : Hid (wr.alloc (.cells #[.string nm1, .slice ao2 lp.length cap2] 47) |>.ownsRow w.heap.size 51 2 u3 k (cellsF vs)) := hown.alloc _
      have HB0 : Hid (Below w.heap.size w (wr.alloc (.cells #[.string nm1, .slice ao2 lp.length cap2] 47))) := hb.alloc hsz _
      go_wp2_with (at_builtin; refine wpList_append_newH _ (wr.alloc (.cells #[.string nm1, .slice ao2 lp.length cap2] 47)) (wr.heap.size + 1) (by simp) rfl (.tmp 12) (.tmp 18) 28 rfl w.heap.size 51 j0 _ 2 40 Tryd.underlying28 hj hy0 hy1 hy2 rfl (by decide) _ _ _ rfl HW0.out [.string nm1, .slice ao2 lp.length cap2] rfl rfl rfl (by simp [Value.oneCell']) (by unfold maxLen; omega) (by omega) (by simp; omega) ?_; intro v1 w1 ho1 hg1 hloc1; have hb1 := below_app HB0.out HW0.out hg1 (by simp; omega); rw [cellsF_one (nm1, _)] at ho1; clear hg1 hown hb c1 c2)
      go_roundw
      case rel => exact ⟨k + 1, _, hlt, by go_num, by rw [HTK.out]; exact hkeep.out, ho1, hb1⟩
      case measure => simp [intOf]; omega
    · obtain rfl : k = fl.length := by omega
      have HA := Lib.hid (show fl.take fl.length = fl from List.take_length)
      have HR : Hid (FsAt wr u3 fl) := by
        have h1 := hro.out
        rw [HA.out] at h1
        exact ⟨vs, h1.keeps (KeepsCells.of_below hb), SlAt.of_owns hown⟩
      go_wp2
      go_ret
      exact ⟨_, rfl, HR.out, hb⟩
end Go.Proofs.YtkbekdfgeiannaaDoor
