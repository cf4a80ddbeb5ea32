/-
  The walk of placketlaw17's Few.
-/
import Derived.Test.YtkbekdfgeiannaaDoorFs
namespace Go.Proofs.YtkbekdfgeiannaaDoor
open Go.RowKit Go.Maps

theorem fewRow_iff {p : ByteArray × List ByteArray} : fewRow p = true ↔ p.1.size ≤ 100 ∧ p.2.length ≤ 30 ∧ ∀ s ∈ p.2, s.size ≤ 100 := by
  simp [fewRow, and_assoc]

theorem few_no {fl : Fl} {k : Nat} {p} (h : fl[k]? = some p) (hp : ¬ (p.1.size ≤ 100 ∧ p.2.length ≤ 30 ∧ ∀ s ∈ p.2, s.size ≤ 100)) : fewB fl = false := by
  have hf : fewRow p = false := by rw [← Bool.not_eq_true]; exact fun e => hp (fewRow_iff.1 e)
  have hm : p ∈ fl := List.mem_of_getElem? h
  unfold fewB
  rw [Bool.and_eq_false_iff]
  left
  rw [← Bool.not_eq_true, List.all_eq_true]
  intro ha
  rw [ha p hm] at hf
  cases hf

theorem few_all {fl : Fl} (h : ∀ (i : Nat) p, fl[i]? = some p → fewRow p = true) : fewB fl = decide (fl.length ≤ 10) := by
  unfold fewB
  have : fl.all fewRow = true := List.all_eq_true.2 fun p hp => by
    obtain ⟨i, hi, e⟩ := List.mem_iff_getElem.1 hp
    exact h i p (by rw [List.getElem?_eq_getElem hi, e])
  rw [this, Bool.true_and]

set_option maxRecDepth 100000 in
set_option maxHeartbeats 1000000 in
theorem few_any (v : Value) (fl : Fl) (w : World) (h : FsAt w v fl) :
    Calls Tryd.prog 9 #[v] w fun e w' => e = .returned (.bool (fewB fl)) ∧ Below w.heap.size w w' := by
  obtain ⟨ao, cap, rfl, hcap, hc63, hcells⟩ := h.form
  have HC := Lib.hid hcells
  clear hcells h
  go_enter Tryd.func9, Tryd.ntmps9
  go_wp2
  go_loopw [9] (fun i wr => ∃ k : Nat, k ≤ fl.length ∧ i = .int .i64 k ∧ Hid (∀ (i : Nat) p, i < k → fl[i]? = some p → fewRow p = true) ∧ Below w.heap.size w wr)
    (fun i _ => fl.length - (intOf i).toNat)
  case atStart => exact ⟨0, Nat.zero_le _, rfl, fun i p hi => absurd hi (Nat.not_lt_zero _), Below.refl _ _⟩
  case round =>
    obtain ⟨k, hk, rfl, hall, hb⟩ := hrel
    by_cases hlt : k < fl.length
    · obtain ⟨p, hp⟩ : ∃ p, fl[k]? = some p := ⟨fl[k], List.getElem?_eq_getElem hlt⟩
      obtain ⟨b, off, lv, rfl, c1, c2, hl⟩ := (HC.out.keeps (KeepsCells.of_below hb)) k p hp
      have HP := Lib.hid hp
      obtain ⟨ao2, cap2, rfl, hcap2, hc632, hcells2⟩ := hl.lineForm
      have HC2 := Lib.hid hcells2
      clear hp hl hcells2
      obtain ⟨nm1, ls⟩ := p
      simp only at c1 c2 HC2 hcap2
      by_cases h1 : nm1.size ≤ 100
      · by_cases h2 : ls.length ≤ 30
        · go_wp2
          obtain ⟨wo, rfl⟩ : ∃ wo : World, wo = wr := ⟨_, rfl⟩
          go_loopw [26] (fun i wi => ∃ m : Nat, m ≤ ls.length ∧ i = .int .i64 m ∧ Hid (∀ (i : Nat) s, i < m → ls[i]? = some s → s.size ≤ 100) ∧ Below w.heap.size w wi ∧ Hid (LineCells wi ao2 ls))
            (fun i _ => ls.length - (intOf i).toNat)
          case atStart => exact ⟨0, Nat.zero_le _, rfl, fun i p hi => absurd hi (Nat.not_lt_zero _), hb.alloc hb.size _, HC2.out.keeps (KeepsCells.of_below ((Below.refl _ _).alloc (Nat.le_refl _) _))⟩
          case round =>
            obtain ⟨m, hm, rfl, hlines, hbi, hLC⟩ := hrel
            by_cases hlm : m < ls.length
            · obtain ⟨s, hs⟩ : ∃ s, ls[m]? = some s := ⟨ls[m], List.getElem?_eq_getElem hlm⟩
              obtain ⟨b2, off2, rfl, c3⟩ := hLC.out m s hs
              have HS := Lib.hid hs
              clear hs
              by_cases h3 : s.size ≤ 100
              · go_wp2
                go_roundw
                case rel =>
                  refine ⟨m + 1, hlm, by go_num, fun i s' hi hs' => ?_, hbi, hLC⟩
                  by_cases e : i = m
                  · subst e
                    have := HS.out.symm.trans hs'
                    cases this
                    exact h3
                  · exact hlines.out i s' (by omega) hs'
                case measure => simp [intOf]; omega
              · have hf := few_no HP.out (fun hh => h3 (hh.2.2 s (List.mem_of_getElem? HS.out)))
                have HF := Lib.hid hf
                clear hf
                go_wp2
                go_ret
                exact ⟨by rw [HF.out]; rfl, hbi⟩
            · obtain rfl : m = ls.length := by omega
              go_wp2
              go_roundw
              case rel =>
                refine ⟨k + 1, hlt, by go_num, fun i p hi hp => ?_, hbi⟩
                by_cases e : i = k
                · subst e
                  have := HP.out.symm.trans hp
                  cases this
                  exact fewRow_iff.2 ⟨h1, h2, fun s hs => by
                    obtain ⟨j, hj, e⟩ := List.mem_iff_getElem.1 hs
                    exact hlines.out j s hj (by rw [List.getElem?_eq_getElem hj, e])⟩
                · exact hall.out i p (by omega) hp
              case measure => simp [intOf]; omega
        · have hf := few_no HP.out (fun hh => h2 hh.2.1)
          have HF := Lib.hid hf
          clear hf
          go_wp2
          go_ret
          exact ⟨by rw [HF.out]; rfl, hb.alloc hb.size _⟩
      · have hf := few_no HP.out (fun hh => h1 hh.1)
        have HF := Lib.hid hf
        clear hf
        go_wp2
        go_ret
        exact ⟨by rw [HF.out]; rfl, hb.alloc hb.size _⟩
    · obtain rfl : k = fl.length := by omega
      have hf := few_all (fun i p hi => hall.out i p (List.getElem?_eq_some_iff.1 hi).1 hi)
      have HF := Lib.hid hf
      clear hf
      go_wp2
      go_ret
      exact ⟨ret_bool (by rw [HF.out]; exact decide_eq_decide.2 (by omega)), hb⟩
end Go.Proofs.YtkbekdfgeiannaaDoor
