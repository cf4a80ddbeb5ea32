/-
  The walks of placketref17: Lines.
-/
import Derived.Test.YtkbekdfgeiannaaDoorReal
namespace Go.Proofs.YtkbekdfgeiannaaDoor
open Go.RowKit Go.Maps

theorem look_at {k : Nat} {p : ByteArray × List ByteArray} {n : List UInt8} : ∀ {fl : Fl} , (∀ (i : Nat) q, i < k → fl[i]? = some q → nm q ≠ n) → fl[k]? = some p → nm p = n → look fl n = some p.2 := by
  induction k with
  | zero =>
    intro fl _ hp hn
    cases fl with
    | nil => simp at hp
    | cons q r =>
      simp at hp
      subst hp
      simp [look, hn]
  | succ k ih =>
    intro fl h hp hn
    cases fl with
    | nil => simp at hp
    | cons q r =>
      have h0 := h 0 q (by omega) rfl
      simp only [look, if_neg h0]
      exact ih (fun i x hi hx => h (i + 1) x (by omega) (by simpa using hx)) (by simpa using hp) hn

theorem look_end {fl : Fl} {n : List UInt8} (h : ∀ (i : Nat) q, i < fl.length → fl[i]? = some q → nm q ≠ n) : look fl n = none :=
  look_none fun p hp => by
    obtain ⟨i, hi, e⟩ := List.mem_iff_getElem.1 hp
    exact h i p hi (by rw [List.getElem?_eq_getElem hi, e])

set_option maxRecDepth 100000 in
set_option maxHeartbeats 1000000 in
theorem refLines_any (v : Value) (fl : Fl) (s : ByteArray) (w : World) (h : FsAt w v fl) :
    Calls Tryd.prog 21 #[v, .string s] w fun e w' => ∃ lv, e = .returned (.tuple #[lv, .bool (look fl s.data.toList).isSome]) ∧ StrsAt w lv ((look fl s.data.toList).getD []) ∧ w' = w := by
  obtain ⟨ao, cap, rfl, hcap, hc63, hcells⟩ := h.form
  have HC := Lib.hid hcells
  clear hcells h
  go_enter Tryd.func21, Tryd.ntmps21
  go_wp2
  go_loop [9] (fun i => ∃ k : Nat, k ≤ fl.length ∧ i = .int .i64 k ∧ Hid (∀ (i : Nat) q, i < k → fl[i]? = some q → nm q ≠ s.data.toList))
    (fun i => fl.length - (intOf i).toNat)
  case atStart => exact ⟨0, Nat.zero_le _, rfl, fun i p hi => absurd hi (Nat.not_lt_zero _)⟩
  case round =>
    obtain ⟨k, hk, rfl, hall⟩ := hrel
    by_cases hlt : k < fl.length
    · obtain ⟨p, hp⟩ : ∃ p, fl[k]? = some p := ⟨fl[k], List.getElem?_eq_getElem hlt⟩
      obtain ⟨b, off, lv, rfl, c1, c2, hl⟩ := HC.out k p hp
      have HL := Lib.hid hl
      have HP := Lib.hid hp
      clear hp hl
      obtain ⟨nm1, ls⟩ := p
      simp only at c1 c2
      by_cases he : nm1.data.toList = s.data.toList
      · have ht := str_is he
        have HE := Lib.hid (look_at hall.out HP.out he)
        clear he
        go_wp2
        go_ret2
        exact ⟨lv, by rw [HE.out]; rfl, by rw [HE.out]; exact HL.out, rfl⟩
      · have ht := str_isnt he
        have HE := Lib.hid he
        clear he
        go_wp2
        go_round
        case rel =>
          refine ⟨k + 1, hlt, by go_num, fun i q hi hq => ?_⟩
          by_cases e : i = k
          · subst e
            have := HP.out.symm.trans hq
            cases this
            exact HE.out
          · exact hall.out i q (by omega) hq
        case measure => simp [intOf]; omega
    · obtain rfl : k = fl.length := by omega
      have HE := Lib.hid (look_end hall.out)
      go_wp2
      go_ret2
      rw [HE.out]
      exact ⟨_, rfl, SlAt.nil 1 w, rfl⟩
end Go.Proofs.YtkbekdfgeiannaaDoor
