/-
  The walks of placketref17's Add and New.
-/
import Derived.Test.YtkbekdfgeiannaaDoorPut
namespace Go.Proofs.YtkbekdfgeiannaaDoor
open Go.RowKit Go.Maps

theorem put_fs (v : Value) (fl : Fl) (s : ByteArray) (lv : Value) (ls : List ByteArray) (w : World) (h : FsAt w v fl) (hls : StrsAt w lv ls) (hlen : fl.length ≤ 1000000) :
    Calls Tryd.prog 19 #[v, .string s, lv] w fun e w' => ∃ (v' : Value), e = .returned v' ∧ FsAt w' v' (putGo s ls false fl) ∧ Below w.heap.size w w' := by
  refine (put_any v fl s lv ls w h hls hlen).mono ?_
  rintro e w' ⟨v', vs, rfl, hr, ho, hb⟩
  exact ⟨v', rfl, ⟨vs, hr.keeps (KeepsCells.of_below hb), SlAt.of_owns ho⟩, hb⟩

theorem strs_one {l : List ByteArray} : ∀ u ∈ l.map Value.string, u.oneCell' = true := by
  intro u hu
  obtain ⟨x, _, rfl⟩ := List.mem_map.1 hu
  rfl

set_option maxRecDepth 100000 in
set_option maxHeartbeats 1000000 in
theorem refAdd_any (v : Value) (fl : Fl) (s text : ByteArray) (w : World) (h : FsAt w v fl) (hlen : fl.length ≤ 1000000) (htx : text.size < 4294967281)
    (hb : (((look fl s.data.toList).getD []).length + (lines text).length) * 16 ≤ 140737488355328) :
    Calls Tryd.prog 17 #[v, .string s, .string text] w fun e w' => ∃ (v' : Value), e = .returned v' ∧ FsAt w' v' (putGo s ((look fl s.data.toList).getD [] ++ lines text) false fl) ∧ Below w.heap.size w w' := by
  obtain ⟨i0, hi, hz0, hz1, hz2⟩ := info_parts info_str
  have H := Lib.hid h
  obtain ⟨was, hwas⟩ : ∃ was, was = (look fl s.data.toList).getD [] := ⟨_, rfl⟩
  rw [← hwas] at hb
  have HWAS := Lib.hid hwas
  clear h hwas
  go_enter Tryd.func17, Tryd.ntmps17
  go_wp2_with fail
  refine (refLines_any v fl s _ H.out).mono ?_
  rintro e w' ⟨lv, rfl, hlv, rfl⟩
  rw [← HWAS.out] at hlv
  generalize (look fl s.data.toList).isSome = found
  obtain ⟨ao1, cap1, rfl, hcap1, hc631, _⟩ := hlv.lineForm
  have HO1 : Hid ((w'.alloc (.cells #[] 9)).ownsRow w'.heap.size 9 1 (.slice (some ⟨w'.heap.size, 0, none⟩) 0 0) 0 []) := World.ownsRow_made w' #[] 0 (Nat.le_refl _) (Nat.zero_le _) rfl
  have HL1 : Hid (SlAt 1 (w'.alloc (.cells #[] 9)) (.slice ao1 was.length cap1) was.length (was.map Value.string)) := SlAt.below hlv ((Below.refl _ _).alloc (Nat.le_refl _) _)
  have HB0 : Hid (Below w'.heap.size w' (w'.alloc (.cells #[] 9))) := (Below.refl _ _).alloc (Nat.le_refl _) _
  clear hlv
  go_wp2_with (first
    | (at_builtin; refine wpList_append_any _ rfl (.tmp 17) (.tmp 18) 23 rfl w'.heap.size 9 i0 (.string ByteArray.empty) 1 16 Tryd.underlying23 hi hz0 hz1 hz2 rfl (by decide) _ 0 [] rfl HO1.out _ was.length (was.map Value.string) rfl HL1.out strs_one (by unfold maxLen; omega) (by omega) (by simp) ?_; intro v1 w1 ho1 hg1 hloc1; have hb1 := below_app HB0.out HO1.out hg1 (by simp); have HO := Lib.hid ho1; have HB1 := Lib.hid hb1; clear ho1 hg1 hb1)
    | (go_at_call 8; refine (refcut_any text _ htx).mono ?_; rintro e w2 ⟨v2, rfl, ho2, hb2⟩; have HO2 : Hid (w2.ownsRow w'.heap.size 9 1 v1 (0 + was.length) ([] ++ was.map Value.string)) := ownsRow_below HO.out hb2; have HL2 : Hid (SlAt 1 w2 v2 (lines text).length ((lines text).map Value.string)) := SlAt.of_owns ho2; have HB2 : Hid (Below w'.heap.size w' w2) := HB1.out.trans (hb2.mono HB1.out.size); clear ho2 hb2)
    | (at_builtin; refine wpList_append_any _ rfl (.tmp 19) (.tmp 21) 23 rfl w'.heap.size 9 i0 (.string ByteArray.empty) 1 16 Tryd.underlying23 hi hz0 hz1 hz2 rfl (by decide) _ _ _ rfl HO2.out _ (lines text).length ((lines text).map Value.string) rfl HL2.out strs_one (by unfold maxLen; omega) (by omega) HB2.out.size ?_; intro v3 w3 ho3 hg3 hloc3; have HB3 := Lib.hid (below_app HB2.out HO2.out hg3 HB2.out.size); have HO3 := Lib.hid ho3; clear ho3 hg3)
    | (go_at_call 19; refine (put_fs v fl s v3 (was ++ lines text) _ (H.out.keeps (KeepsCells.of_below HB3.out)) (strs_of_app (by have := HO3.out; rwa [Nat.zero_add, List.nil_append] at this)) hlen).mono ?_; rintro e w4 ⟨v4, rfl, hf4, hb4⟩))
  go_ret
  rw [← HWAS.out]
  exact ⟨v4, rfl, hf4, HB3.out.trans (hb4.mono HB3.out.size)⟩
end Go.Proofs.YtkbekdfgeiannaaDoor
