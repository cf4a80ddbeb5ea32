/-
  Arguments opened: a slice of names with lines; an Act.
-/
import Derived.Test.YtkbekdfgeiannaaDoorCopy17
import Derived.ProofKit
import Derived.OpenShut
import Derived.Deep.Slices
import Derived.SliceStrings
import Derived.Lib.SmallJoins
namespace Go.Proofs.YtkbekdfgeiannaaDoor
open Go.ChangeShapes Go.WideShapes Go.ChangeAt Go.RowKit Go.Deep

theorem cells_str : Tryd.prog.cellsOf 9 = 1 := by kernel_rfl
theorem cells_strs : Tryd.prog.cellsOf 23 = 1 := by kernel_rfl
theorem cells_f : Tryd.prog.cellsOf 51 = 2 := by kernel_rfl

theorem open_strs {H : Type} {enc : TypeId × Value → H} {w : World} {spare : Nat → Bool} {held : Bool} {fuel : Nat} {v : Value} {x : DataW H × List MemPlace} (h : DataW.trod enc Tryd.prog w 0 spare held fuel 23 [v] = some x) : ∃ l, StrsAt w v l := by
  rcases open_strings Tryd.underlying23 Tryd.underlying9 cells_str h with ⟨h1, _⟩ | ⟨a, len, cap, ss, h1, h2, h3, h4, h5, h6, h7, h8⟩
  · cases h1
    exact ⟨[], SlAt.nil 1 w⟩
  · cases h1
    have hle : len ≤ ss.length := by rw [h5]; split <;> omega
    refine ⟨ss.take len, ?_, .inr ⟨a, cap, ?_, ?_, h4, fun j u hj => ?_⟩⟩
    · simp
    · simp [Nat.min_eq_left hle]
    · simp; omega
    · obtain ⟨hj1, hj2⟩ := List.getElem?_eq_some_iff.1 hj
      simp only [List.length_map, List.length_take] at hj1
      rw [h7 j (by omega), ← hj2]
      simp [List.getElem?_eq_getElem (show j < ss.length by omega)]

theorem open_row {H : Type} {enc : TypeId × Value → H} {w : World} {spare : Nat → Bool} {held : Bool} {fuel : Nat} {c0 c1 : Value} {x : DataW H × List MemPlace} (h : DataW.trod enc Tryd.prog w 0 spare held fuel 51 [c0, c1] = some x) :
    ∃ s l, c0 = .string s ∧ StrsAt w c1 l := by
  obtain ⟨y0, y1, n, _, _, h0, h1⟩ := trod_struct2 Tryd.underlying51 h
  simp only [cells_str, cells_strs, List.drop_zero, List.take_succ_cons, List.take_zero, List.drop_succ_cons] at h0 h1
  obtain ⟨s, h2, _, _⟩ := DataW.trod_string Tryd.underlying9 h0
  obtain ⟨l, hl⟩ := open_strs h1
  cases h2
  exact ⟨s, l, rfl, hl⟩

theorem add_one (a : Addr) (i : Nat) : (a.add i).add 1 = a.add (i + 1) := by
  by_cases h : i = 0
  · subst h; rfl
  · simp [Addr.add, h, Nat.add_assoc]

theorem open_rows {H : Type} {enc : TypeId × Value → H} {w : World} {spare : Nat → Bool} {held : Bool} {fuel : Nat} {v : Value} {x : DataW H × List MemPlace} (h : DataW.trod enc Tryd.prog w 0 spare held fuel 28 [v] = some x) : ∃ fl, FsAt w v fl := by
  rcases open_slice Tryd.underlying28 h with ⟨h1, _⟩ | ⟨a, len, cap, m, n, D, Pl, h1, h2, h3, h4, h5, h6, h7⟩
  · cases h1
    exact ⟨[], [], ⟨rfl, fun i p h => by simp at h⟩, SlAt.nil 2 w⟩
  · cases h1
    have hm : len ≤ m := by rw [h5]; split <;> omega
    rw [cells_f] at h7
    have each : ∀ i, i < len → ∃ r : ByteArray × Value × List ByteArray, w.cell? (a.add (i * 2)) = some (.string r.1) ∧ w.cell? (a.add (i * 2 + 1)) = some r.2.1 ∧ StrsAt w r.2.1 r.2.2 := by
      intro i hi
      obtain ⟨cs', h8, h9⟩ := h7 i (by omega)
      obtain ⟨_, hl, hc⟩ := World.cells?_some h8
      match cs', hl with
      | [c0, c1], _ =>
        obtain ⟨s, l, rfl, hst⟩ := open_row h9
        have e0 := hc 0 (by omega)
        have e1 := hc 1 (by omega)
        refine ⟨⟨s, c1, l⟩, e0, ?_, hst⟩
        rw [← add_one a (i * 2)]
        exact e1
    obtain ⟨f, hf⟩ := choose_lt (α := ByteArray × Value × List ByteArray) (p := fun i r => w.cell? (a.add (i * 2)) = some (.string r.1) ∧ w.cell? (a.add (i * 2 + 1)) = some r.2.1 ∧ StrsAt w r.2.1 r.2.2) each
    have hget : ∀ k us, (∀ j u, us = cellsF ((List.range k).map fun i => ((f i).1, (f i).2.1)) → us[j]? = some u → k ≤ len → w.cell? (a.add j) = some u) := by
      intro k
      induction k with
      | zero => intro us j u e hj; subst e; simp [cellsF] at hj
      | succ k ih =>
        intro us j u e hj hk
        rw [List.range_succ, List.map_append, cellsF_append] at e
        subst e
        have hl : (cellsF ((List.range k).map fun i => ((f i).1, (f i).2.1))).length = k * 2 := by rw [cellsF_length]; simp
        by_cases h0 : j < k * 2
        · rw [List.getElem?_append_left (by omega)] at hj
          exact ih _ j u rfl hj (by omega)
        · rw [List.getElem?_append_right (by omega), hl] at hj
          obtain ⟨g1, g2, _⟩ := hf k (by omega)
          have hlt := (List.getElem?_eq_some_iff.1 hj).1
          simp [cellsF] at hlt
          rcases (show j = k * 2 ∨ j = k * 2 + 1 by omega) with e | e
          · subst e
            simp [cellsF] at hj
            rw [← hj]
            exact g1
          · subst e
            rw [show k * 2 + 1 - k * 2 = 1 by omega] at hj
            simp [cellsF] at hj
            rw [← hj]
            exact g2
    refine ⟨(List.range len).map fun i => ((f i).1, (f i).2.2), (List.range len).map fun i => ((f i).1, (f i).2.1), ⟨by simp, fun i p hp => ?_⟩, ?_, .inr ⟨a, cap, by simp, by simpa using h3, h4, fun j u hj => hget len _ j u rfl hj (Nat.le_refl _)⟩⟩
    · obtain ⟨hi, hp2⟩ := List.getElem?_eq_some_iff.1 hp
      simp at hi hp2
      subst hp2
      exact ⟨(f i).2.1, by simp [hi], (hf i hi).2.2⟩
    · rw [cellsF_length]
      simp
end Go.Proofs.YtkbekdfgeiannaaDoor
