/-
  The walk of FilesCuts: it is true.
-/
import Derived.Test.YtkbekdfgeiannaaDoorAwake17
import Derived.BigQuiet
import Derived.Deep.QuietTactic
namespace Go.Proofs.YtkbekdfgeiannaaDoor
open Go.RowKit Go.Maps

/-- What has been joined so far. -/
def Joined (L : List ByteArray) (k : Nat) (b : ByteArray) : Prop := b.data.toList = joinL ((L.map fun x => x.data.toList).take k)

theorem joinL_take_le : ∀ (L : List (List UInt8)) (k : Nat), (joinL (L.take k)).length ≤ (joinL L).length
  | [], k => by simp
  | [a], k => by
    cases k with
    | zero => simp [joinL]
    | succ k => simp
  | a :: b :: r, k => by
    have ih := joinL_take_le (b :: r)
    match k with
    | 0 => simp [joinL]
    | 1 => simp [joinL]
    | k + 2 =>
      have := ih (k + 1)
      simp only [List.take_succ_cons, joinL, List.length_append, List.length_cons] at this ⊢
      omega

theorem joined_size {s : ByteArray} {k : Nat} {b : ByteArray} (h : Joined (lines s) k b) : b.size ≤ s.size := by
  have h1 := joinL_take_le ((lines s).map fun x => x.data.toList) k
  rw [lines_cut, joinL_cutL, ← lines_cut, ← h] at h1
  simpa using h1

theorem joined_all {s : ByteArray} {b : ByteArray} (h : Joined (lines s) (lines s).length b) : b = s := by
  unfold Joined at h
  rw [List.take_of_length_le (by simp), lines_cut, joinL_cutL] at h
  exact data_inj h

theorem joined_zero (L : List ByteArray) : Joined L 0 ⟨#[]⟩ := by simp [Joined, joinL]

theorem joined_first {L : List ByteArray} {b : ByteArray} (h : Joined L 0 b) (h1 : 0 < L.length) : Joined L 1 (b ++ L[0]) := by
  unfold Joined at h ⊢
  match L, h1 with
  | x :: r, _ =>
    simp [joinL] at h ⊢
    simp [h]

theorem joined_next {L : List ByteArray} {k : Nat} {b : ByteArray} (h : Joined L k b) (h0 : 0 < k) (h1 : k < L.length) : Joined L (k + 1) (b ++ ⟨#[10]⟩ ++ L[k]) := by
  unfold Joined at h ⊢
  rw [List.take_succ_eq_append_getElem (by simpa using h1), joinL_snoc, if_neg, ← h]
  · simp
  · intro e
    have e2 := congrArg List.length e
    simp only [List.length_take, List.length_map, List.length_nil] at e2
    omega

set_option maxRecDepth 100000 in
set_option maxHeartbeats 1000000 in
theorem filesCuts_any (s : ByteArray) (w : World) (hr : Rdy w) (hs : s.size ≤ maxLen) : Calls Tryd.prog 3 #[.string s] w fun e w' => e = .returned (.bool true) ∧ Below w.heap.size w w' := by
  unfold maxLen at hs
  by_cases h3 : 300 < s.size
  · go_enter Tryd.func3, Tryd.ntmps3
    go_wp2_with fail
    refine (awake_any _ hr).mono ?_
    rintro e w1 ⟨rfl, hb1⟩
    go_wp2_with fail
    refine (awake_any _ (hr.below hb1)).mono ?_
    rintro e w2 ⟨rfl, hb2⟩
    go_wp2
    go_ret
    exact ⟨rfl, hb1.trans (hb2.mono hb1.size)⟩
  · have hs3 : s.size ≤ 300 := by omega
    clear h3 hs
    have HR := Lib.hid hr
    clear hr
    go_enter Tryd.func3, Tryd.ntmps3
    go_wp2_with fail
    refine (awake_any _ HR.out).mono ?_
    rintro e w1 ⟨rfl, hb1⟩
    have HB1 := Lib.hid hb1
    clear hb1
    go_wp2_with fail
    refine (cut_any s _ (by omega) (HR.out.below HB1.out)).mono ?_
    rintro e w2 ⟨rfl, rfl⟩
    have HC : Hid (∀ j u, ((lines s).map Value.string)[j]? = some u → (w1.alloc (.cells ((lines s).map Value.string).toArray 9)).cell? ⟨w1.heap.size, j, none⟩ = some u) := by
      intro j u hj
      have := strs_of_cells (heap_alloc_new w1 (.cells ((lines s).map Value.string).toArray 9)) j u hj
      rw [addr_add, Nat.zero_add] at this
      exact this
    go_wp2_with fail
    refine (refcut_any s _ (by omega)).mono ?_
    rintro e w3 ⟨v3, rfl, ho3, hb3⟩
    have hn0 : 0 < (lines s).length := by rw [lines_length]; omega
    obtain ⟨g3, cap3, rfl, hc3⟩ := owns_form ho3 hn0
    have HN := Lib.hid hn0
    have HB3 : Hid (Below w.heap.size w w3) := (HB1.out.alloc HB1.out.size _).trans (hb3.mono (by have := HB1.out.size; simp; omega))
    have HC3 : Hid (∀ j u, ((lines s).map Value.string)[j]? = some u → w3.cell? ⟨w1.heap.size, j, none⟩ = some u) := fun j u hj => (hb3.cell (by simp)).trans (HC.out j u hj)
    have HD3 := Lib.hid hc3
    clear ho3 hb3 hc3 HC hn0
    have hz : (((lines s).length : Int) == 0) = false := by have := HN.out; rw [beq_eq_false_iff_ne]; omega
    have hln : (lines s).length ≤ 301 := by rw [lines_length]; have := Lib.countB_le ⟨#[10]⟩ (by decide) s.size s (Nat.le_refl _); omega
    obtain ⟨n, hn⟩ : ∃ n, n = (lines s).length := ⟨_, rfl⟩
    rw [← hn] at hz hln
    simp only [← hn]
    have HNN := Lib.hid hn
    clear hn
    go_wp2_with fail
    go_loopw [5, 31] (fun back i wr => ∃ (k : Nat) (b : ByteArray), k ≤ n ∧ i = .int .i64 k ∧ back = .string b ∧ Joined (lines s) k b ∧ Below w3.heap.size w3 wr)
      (fun _ i _ => n - (intOf i).toNat)
    case atStart => exact ⟨0, _, Nat.zero_le _, rfl, rfl, joined_zero _, Below.refl _ _⟩
    case round =>
      obtain ⟨k, b, hk, rfl, rfl, hj, hb⟩ := hrel
      have hbs : b.size ≤ 300 := by have := joined_size hj; omega
      have HJ := Lib.hid hj
      clear hj
      by_cases hlt : k < n
      · obtain ⟨x, hx⟩ : ∃ x, ((lines s).map Value.string)[k]? = some (.string x) ∧ (lines s)[k]? = some x := by
          have := HNN.out
          exact ⟨(lines s)[k]'(by omega), by simp [List.getElem?_eq_getElem (show k < (lines s).length by omega)], List.getElem?_eq_getElem (by omega)⟩
        have c1 : wr.cell? ⟨w1.heap.size, k, none⟩ = some (.string x) := (hb.cell (cell_lt (HC3.out k _ hx.1))).trans (HC3.out k _ hx.1)
        have c2 : wr.cell? ⟨g3, k, none⟩ = some (.string x) := (hb.cell (cell_lt (HD3.out k _ hx.1))).trans (HD3.out k _ hx.1)
        have HX := Lib.hid hx.2
        have hkl : k < (lines s).length := by have := HNN.out; omega
        have hxe : (lines s)[k] = x := Option.some.inj ((List.getElem?_eq_getElem hkl).symm.trans HX.out)
        have HF : Hid (k = 0 → Joined (lines s) (k + 1) (b ++ x)) := fun e => by subst e; rw [← hxe]; exact joined_first HJ.out hkl
        have HN2 : Hid (0 < k → Joined (lines s) (k + 1) (b ++ ⟨#[10]⟩ ++ x)) := fun h0 => by rw [← hxe]; exact joined_next HJ.out h0 hkl
        have hxs : x.size ≤ 300 := by
          by_cases h0 : k = 0
          · have := joined_size (HF.out h0)
            simp at this
            omega
          · have := joined_size (HN2.out (by omega))
            simp at this
            omega
        have hi0 : (0 : Int) ≤ (k : Int) := by omega
        have hi1 : (k : Int) < (n : Int) := by omega
        clear hx hkl hxe
        go_wp2_with fail
        go_quiet (fail)
        by_cases h0 : 0 < k
        · go_wp2
          go_roundw
          case rel => exact ⟨k + 1, _, hlt, by go_num, rfl, HN2.out h0, below_drewN hb _⟩
          case measure => simp [intOf]; omega
        · go_wp2
          go_roundw
          case rel => exact ⟨k + 1, _, hlt, by go_num, rfl, HF.out (by omega), below_drewN hb _⟩
          case measure => simp [intOf]; omega
      · obtain rfl : k = n := by omega
        have hbe : b = s := joined_all (by rw [← HNN.out]; exact HJ.out)
        subst hbe
        clear HJ hbs
        go_wp2
        go_ret
        exact ⟨by simp, HB3.out.trans (hb.mono HB3.out.size)⟩
end Go.Proofs.YtkbekdfgeiannaaDoor
