/-
  The walks of both functions that cut a text into its lines.
-/
import Derived.Test.YtkbekdfgeiannaaDoorBase
import Derived.Test.YtkbekdfgeiannaaDoorShelf
namespace Go.Proofs.YtkbekdfgeiannaaDoor
open Go.RowKit

set_option maxHeartbeats 400000 in
theorem cut_any (s : ByteArray) (w : World) (hs : s.size < 4294967281) (hr : Rdy w) :
    Calls Tryd.prog 7 #[.string s] w fun e w' => e = .returned (.slice (some ⟨w.heap.size, 0, none⟩) (lines s).length (lines s).length) ∧ w' = w.alloc (.cells ((lines s).map Value.string).toArray 9) := by
  obtain ⟨m, hm⟩ := hr
  have hl := lines_length s
  have HL := Lib.hid hl
  clear hl
  go_enter Tryd.func7, Tryd.ntmps7
  go_wp2_with (go_at_call 24; refine (Tryd.strings_Split _ _ m _ hs hm (by decide)).mono ?_; rintro e w' ⟨rfl, rfl⟩)
  go_ret
  exact ⟨by rw [HL.out]; rfl, rfl⟩

theorem info_str : (Tryd.prog.info? 9).map (fun i => (i.zero, i.size, i.bytes)) = some (some (.string ByteArray.empty), 1, 16) := by kernel_rfl

/-- How far the document's cut has come: the lines so far, and what is still to be cut. -/
def CutPart (s : ByteArray) (k f : Nat) (acc : List ByteArray) : Prop :=
  (acc.map fun b => b.data.toList) ++ cutL (s.data.toList.drop f) = cutL s.data.toList ∧ ∀ j, f ≤ j → j < k → s.data.toList[j]? ≠ some 10

theorem part_keep {s : ByteArray} {k f : Nat} {acc : List ByteArray} (h : CutPart s k f acc) (hk : k < s.size) (h10 : s[k] ≠ 10) : CutPart s (k + 1) f acc := by
  refine ⟨h.1, fun j h1 h2 => ?_⟩
  by_cases e : j = k
  · subst e
    rw [List.getElem?_eq_getElem (by simpa using hk)]
    exact fun e => h10 (Option.some.inj e)
  · exact h.2 j h1 (by omega)

theorem drop_eq_take (l : List UInt8) (f k : Nat) (hf : f ≤ k) (hk : k < l.length) : l.drop f = (l.drop f).take (k - f) ++ l[k] :: l.drop (k + 1) := by
  have e : (l.drop f).drop (k - f) = l[k] :: l.drop (k + 1) := by
    rw [List.drop_drop, show f + (k - f) = k by omega, List.drop_eq_getElem_cons hk]
  rw [← e, List.take_append_drop]

theorem take_free {l : List UInt8} {f k : Nat} (h : ∀ j, f ≤ j → j < k → l[j]? ≠ some 10) : ∀ c ∈ (l.drop f).take (k - f), c ≠ 10 := by
  intro c hc e
  subst e
  obtain ⟨i, hi, he⟩ := List.mem_iff_getElem.1 hc
  simp only [List.length_take, List.length_drop] at hi
  refine h (f + i) (by omega) (by omega) ?_
  rw [List.getElem_take, List.getElem_drop] at he
  rw [List.getElem?_eq_getElem (by omega), he]

theorem part_cut {s : ByteArray} {k f : Nat} {acc : List ByteArray} (h : CutPart s k f acc) (hf : f ≤ k) (hk : k < s.size) (h10 : s[k] = 10) : CutPart s (k + 1) (k + 1) (acc ++ [s.extract f k]) := by
  refine ⟨?_, fun j h1 h2 => by omega⟩
  rw [← h.1]
  have hk' : k < s.data.toList.length := by simpa using hk
  have e := drop_eq_take s.data.toList f k hf hk'
  have h10' : s.data.toList[k] = 10 := h10
  rw [h10'] at e
  rw [e, cutL_hit _ _ (take_free h.2)]
  have e2 : (s.extract f k).data.toList = (s.data.toList.drop f).take (k - f) := by rw [Lib.extract_data]
  rw [List.map_append, List.map_cons, List.map_nil, e2, List.append_assoc, List.singleton_append]

theorem part_end {s : ByteArray} {f : Nat} {acc : List ByteArray} (h : CutPart s s.size f acc) : ((acc ++ [s.extract f s.size]).map fun b => b.data.toList) = cutL s.data.toList := by
  rw [← h.1]
  have e2 : (s.extract f s.size).data.toList = s.data.toList.drop f := Lib.extract_to_end s f
  have hn : ∀ c ∈ s.data.toList.drop f, c ≠ 10 := by
    intro c hc e
    subst e
    obtain ⟨i, hi, he⟩ := List.mem_iff_getElem.1 hc
    simp only [List.length_drop] at hi
    refine h.2 (f + i) (by omega) (by have : s.data.toList.length = s.size := by simp
                                      omega) ?_
    rw [List.getElem_drop] at he
    rw [List.getElem?_eq_getElem (by omega), he]
  rw [cutL_none _ hn, List.map_append, List.map_cons, List.map_nil, e2]

set_option maxRecDepth 100000 in
set_option maxHeartbeats 400000 in
theorem refcut_any (s : ByteArray) (w : World) (hs : s.size < 4294967281) :
    Calls Tryd.prog 8 #[.string s] w fun e w' => ∃ (v : Value), e = .returned v ∧ w'.ownsRow w.heap.size 9 1 v (lines s).length ((lines s).map Value.string) ∧ Below w.heap.size w w' := by
  obtain ⟨i0, hi, hz0, hz1, hz2⟩ := info_parts info_str
  go_enter Tryd.func8, Tryd.ntmps8
  go_wp2
  go_loopw [3, 4, 8] (fun out fr cnt wr => ∃ (k f : Nat) (acc : List ByteArray), k ≤ s.size ∧ f ≤ k ∧ cnt = .int .i64 k ∧ fr = .int .i64 f ∧ acc.length ≤ k ∧ CutPart s k f acc ∧ wr.ownsRow w.heap.size 9 1 out acc.length (acc.map Value.string) ∧ Below w.heap.size w wr)
    (fun _ _ cnt _ => s.size - (intOf cnt).toNat)
  case atStart => exact ⟨0, 0, [], Nat.zero_le _, Nat.le_refl _, rfl, rfl, Nat.le_refl _, ⟨rfl, fun j h1 h2 => by omega⟩, World.ownsRow_nil _ _ _ _, Below.refl _ _⟩
  case round =>
    obtain ⟨k, f, acc, hk, hf, rfl, rfl, hal, hp, hown, hb⟩ := hrel
    have HP := Lib.hid hp
    have hsz := hb.size
    have hlm : ∀ x : ByteArray, (acc.map Value.string ++ [Value.string x]) = (acc ++ [x]).map Value.string := fun x => by simp
    have HLM := Lib.hid hlm
    clear hp hlm
    by_cases hlt : k < s.size
    · go_wp2_with (at_builtin; refine wpList_append_one _ wr rfl (.tmp 15) (.tmp 20) 23 rfl w.heap.size 9 i0 (.string ByteArray.empty) 16 Tryd.underlying23 hi hz0 hz1 hz2 rfl _ _ _ rfl hown (.string (s.extract f k)) rfl rfl rfl (by unfold maxLen; omega) (by omega) hsz ?_; intro v' w1 hown' hgrow hnn)
      · have h10 : ((s[k].toNat : Int) == 10) = true := by assumption
        have hb' := hb.trans (below_owns hown hgrow hsz)
        rw [HLM.out] at hown'
        clear hgrow hown hb
        go_wp2
        go_roundw
        case rel => exact ⟨k + 1, k + 1, acc ++ [s.extract f k], hlt, Nat.le_refl _, by go_num, by go_num, by simp; omega, part_cut HP.out hf hlt (UInt8.toNat_inj.1 (by have := beq_iff_eq.1 h10; show s[k].toNat = 10; omega)), by simpa using hown', hb'⟩
        case measure => simp [intOf]; omega
      · have h10 : ((s[k].toNat : Int) == 10) = false := by assumption
        go_roundw
        case rel => exact ⟨k + 1, f, acc, hlt, by omega, by go_num, rfl, by omega, part_keep HP.out hlt (fun e => by rw [e] at h10; cases h10), hown, hb⟩
        case measure => simp [intOf]; omega
    · obtain rfl : k = s.size := by omega
      go_wp2_with (at_builtin; refine wpList_append_one _ wr rfl (.tmp 25) (.tmp 29) 23 rfl w.heap.size 9 i0 (.string ByteArray.empty) 16 Tryd.underlying23 hi hz0 hz1 hz2 rfl _ _ _ rfl hown (.string (s.extract f s.size)) rfl rfl rfl (by unfold maxLen; omega) (by omega) hsz ?_; intro v' w1 hown' hgrow hnn)
      have hb' := hb.trans (below_owns hown hgrow hsz)
      rw [HLM.out] at hown'
      clear hgrow hown hb
      go_wp2
      go_ret
      have hl := lines_eq (part_end HP.out)
      exact ⟨v', rfl, by rw [← hl]; simpa using hown', hb'⟩
end Go.Proofs.YtkbekdfgeiannaaDoor
