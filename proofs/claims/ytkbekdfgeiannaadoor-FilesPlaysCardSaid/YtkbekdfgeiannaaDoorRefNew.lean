/-
  The walk of placketref17's New.
-/
import Derived.Test.YtkbekdfgeiannaaDoorRefAdd
namespace Go.Proofs.YtkbekdfgeiannaaDoor
open Go.RowKit Go.Maps

theorem put_length (n : ByteArray) (ls : List ByteArray) : ∀ l : Fl, (put n ls l).length ≤ l.length + 1
  | [] => by simp [put]
  | p :: r => by
    have := put_length n ls r
    unfold put
    split
    · simp; omega
    · split <;> simp

theorem newL_length (l : Fl) : (newL l).length ≤ l.length := by
  have : ∀ (l out : Fl), (l.foldl (fun out p => put p.1 (p.2.flatMap lines) out) out).length ≤ out.length + l.length := by
    intro l
    induction l with
    | nil => intro out; simp
    | cons p r ih =>
      intro out
      have h1 := ih (put p.1 (p.2.flatMap lines) out)
      have h2 := put_length p.1 (p.2.flatMap lines) out
      simp only [List.foldl_cons, List.length_cons]
      omega
  simpa [newL] using this l []

set_option maxRecDepth 100000 in
set_option maxHeartbeats 1000000 in
theorem refNew_any (v : Value) (fl : Fl) (w : World) (h : FsAt w v fl) (hfew : ∀ p ∈ fl, fewRow p = true) (hlen : fl.length ≤ 10) :
    Calls Tryd.prog 16 #[v] w fun e w' => ∃ (v' : Value), e = .returned v' ∧ FsAt w' v' (newL fl) ∧ Below w.heap.size w w' := by
  obtain ⟨i0, hi, hz0, hz1, hz2⟩ := info_parts info_str
  obtain ⟨ao, cap, rfl, hcap, hc63, hcells⟩ := h.form
  have HC := Lib.hid hcells
  have HW := Lib.hid hfew
  clear hcells h hfew
  go_enter Tryd.func16, Tryd.ntmps16
  go_wp2
  go_loopw [3, 9] (fun out i wr => ∃ k : Nat, k ≤ fl.length ∧ i = .int .i64 k ∧ Hid (FsAt wr out (newL (fl.take k))) ∧ Below w.heap.size w wr)
    (fun _ i _ => fl.length - (intOf i).toNat)
  case atStart => exact ⟨0, Nat.zero_le _, rfl, ⟨[], ⟨rfl, fun i p h => by simp [newL] at h⟩, SlAt.nil 2 _⟩, Below.refl _ _⟩
  case round =>
    obtain ⟨k, hk, rfl, hout, hb⟩ := hrel
    by_cases hlt : k < fl.length
    · obtain ⟨p, hp⟩ : ∃ p, fl[k]? = some p := ⟨fl[k], List.getElem?_eq_getElem hlt⟩
      obtain ⟨b, off, lv, rfl, e1, e2, hl⟩ := HC.out k p hp
      have HW2 := Lib.hid (fewRow_iff.1 (HW.out p (List.mem_of_getElem? hp)))
      have HTK := Lib.hid (take_snoc' hp)
      obtain ⟨ao2, cap2, rfl, hcap2, hc632, hcells2⟩ := hl.lineForm
      have HC2 := Lib.hid hcells2
      have c1 := (hb.cell (cell_lt e1)).trans e1
      have c2 := (hb.cell (cell_lt e2)).trans e2
      have D1 := Lib.hid e1
      have D2 := Lib.hid e2
      clear hp hl hcells2 e1 e2
      obtain ⟨nm1, ls⟩ := p
      simp only at c1 c2 HC2 hcap2 HW2 D1 D2
      have hls := HW2.out.2.1
      go_wp2_with fail
      obtain ⟨wo, rfl⟩ : ∃ wo : World, wo = wr := ⟨_, rfl⟩
      have HBO := Lib.hid hb
      clear hb c1 c2
      go_loopw [5, 18] (fun ln i wi => ∃ m : Nat, m ≤ ls.length ∧ i = .int .i64 m ∧ wi.ownsRow wo.heap.size 9 1 ln ((ls.take m).flatMap lines).length (((ls.take m).flatMap lines).map Value.string) ∧ Below wo.heap.size wo wi)
        (fun _ i _ => ls.length - (intOf i).toNat)
      case atStart => exact ⟨0, Nat.zero_le _, rfl, World.ownsRow_nil _ _ _ _, Below.refl _ _⟩
      case round =>
        obtain ⟨m, hm, rfl, hown, hbi⟩ := hrel
        have HBI : Hid (Below w.heap.size w wr) := HBO.out.trans (hbi.mono HBO.out.size)
        have c1 := (HBI.out.cell (cell_lt D1.out)).trans D1.out
        have c2 := (HBI.out.cell (cell_lt D2.out)).trans D2.out
        by_cases hlm : m < ls.length
        · obtain ⟨s, hs⟩ : ∃ s, ls[m]? = some s := ⟨ls[m], List.getElem?_eq_getElem hlm⟩
          obtain ⟨b2, off2, rfl, e3⟩ := HC2.out m s hs
          have c3 := (HBI.out.cell (cell_lt e3)).trans e3
          have hss := HW2.out.2.2 s (List.mem_of_getElem? hs)
          have hfl := flat_take_le 100 m HW2.out.2.2 (Nat.le_of_lt hlm)
          have hsl := lines_le s
          have HTS := Lib.hid (flat_take_succ hs)
          have hbz := hbi.size
          have HBI2 := Lib.hid hbi
          have HOWN := Lib.hid hown
          clear hs e3 hbi hown
          go_wp2_with (first
            | (go_at_call 8; refine (refcut_any s _ (by omega)).mono ?_; rintro e w2 ⟨v2, rfl, ho2, hb2⟩; have HO2 := Lib.hid (ownsRow_below HOWN.out hb2); have HL2 : Hid (SlAt 1 w2 v2 (lines s).length ((lines s).map Value.string)) := SlAt.of_owns ho2; have HB2 : Hid (Below wo.heap.size wo w2) := HBI2.out.trans (hb2.mono HBI2.out.size); clear ho2 hb2)
            | (at_builtin; refine wpList_append_any _ rfl (.tmp 21) (.tmp 30) 23 rfl wo.heap.size 9 i0 (.string ByteArray.empty) 1 16 Tryd.underlying23 hi hz0 hz1 hz2 rfl (by decide) _ _ _ rfl HO2.out _ (lines s).length ((lines s).map Value.string) rfl HL2.out strs_one (by unfold maxLen; omega) (by omega) HB2.out.size ?_; intro v3 w3 ho3 hg3 hloc3; have HB3 := Lib.hid (below_app HB2.out HO2.out hg3 HB2.out.size); have HO3 := Lib.hid ho3; clear ho3 hg3))
          go_roundw
          case rel =>
            refine ⟨m + 1, hlm, by go_num, ?_, HB3.out⟩
            rw [HTS.out, List.length_append, List.map_append]
            exact HO3.out
          case measure => simp [intOf]; omega
        · obtain rfl : m = ls.length := by omega
          have hall : ls.take ls.length = ls := List.take_length
          rw [hall] at hown
          have HLN : Hid (StrsAt wr u5 (ls.flatMap lines)) := StrsAt.of_owns hown
          have HFO : Hid (FsAt wr u3 (newL (fl.take k))) := hout.out.keeps (KeepsCells.of_below hbi)
          have hnl := newL_length (fl.take k)
          have htl : (fl.take k).length ≤ 10 := by rw [List.length_take]; omega
          clear hall hown hbi
          go_wp2_with (go_at_call 19; refine (put_fs _ _ nm1 _ _ _ HFO.out HLN.out (by omega)).mono ?_; rintro e w4 ⟨v4, rfl, hf4, hb4⟩; have HF4 := Lib.hid hf4; have HB4 : Hid (Below w.heap.size w w4) := HBI.out.trans (hb4.mono HBI.out.size); clear hf4 hb4)
          go_roundw
          case rel =>
            refine ⟨k + 1, hlt, by go_num, ?_, HB4.out⟩
            have := HF4.out
            rw [putGo_put _ _ _ (refOk_new _).1] at this
            show FsAt _ _ _
            rw [HTK.out, newL_snoc]
            exact this
          case measure => simp [intOf]; omega
    · obtain rfl : k = fl.length := by omega
      have HA := Lib.hid (show fl.take fl.length = fl from List.take_length)
      go_wp2
      go_ret
      exact ⟨_, rfl, by have := hout.out; rwa [HA.out] at this, hb⟩
end Go.Proofs.YtkbekdfgeiannaaDoor
