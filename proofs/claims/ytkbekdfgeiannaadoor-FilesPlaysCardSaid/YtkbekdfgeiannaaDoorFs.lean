/-
  How a slice of names with lines lies in memory; what it keeps while new memory is made, and while a map is written.
-/
import Derived.Test.YtkbekdfgeiannaaDoorFilesOps
namespace Go.Proofs.YtkbekdfgeiannaaDoor
open Go.RowKit Go.Maps

/-- Every block of cells is as it was. -/
def KeepsCells (w w' : World) : Prop := w.heap.size ≤ w'.heap.size ∧ ∀ (b : Nat) (c : Array Value) (t : TypeId) (fr : Nat × Nat), w.heap[b]? = some (.cells c t fr) → w'.heap[b]? = some (.cells c t fr)

theorem KeepsCells.refl (w : World) : KeepsCells w w := ⟨Nat.le_refl _, fun _ _ _ _ h => h⟩
theorem KeepsCells.trans {a b c : World} (h : KeepsCells a b) (k : KeepsCells b c) : KeepsCells a c := ⟨Nat.le_trans h.1 k.1, fun x c t fr hx => k.2 x c t fr (h.2 x c t fr hx)⟩
theorem KeepsCells.of_below {w w' : World} (h : Below w.heap.size w w') : KeepsCells w w' := ⟨h.size, fun b _ _ _ hb => (h.block b (Array.getElem?_eq_some_iff.1 hb).1).trans hb⟩
theorem KeepsCells.of_turn {w w' : World} {M : Nat} (h : w.grownBy w' (some M)) (hM : ∃ es c, w.heap[M]? = some (.map es c)) : KeepsCells w w' :=
  ⟨h.size, fun b _ _ _ hb => (h.block b (Array.getElem?_eq_some_iff.1 hb).1 (fun e => by
    obtain ⟨es, cl, hM⟩ := hM
    simp only [Option.some.injEq] at e
    subst e
    rw [hM] at hb
    cases hb)).trans hb⟩

theorem KeepsCells.cell {w w' : World} (h : KeepsCells w w') {a : Addr} {v : Value} (hc : w.cell? a = some v) : w'.cell? a = some v := by
  unfold World.cell? at hc ⊢
  split at hc
  · rename_i c t fr hb
    rw [h.2 _ _ _ _ hb]
    exact hc
  · cases hc

theorem SlAt.keeps {size : Nat} {w w' : World} {v : Value} {n : Nat} {us : List Value} (h : SlAt size w v n us) (hk : KeepsCells w w') : SlAt size w' v n us := by
  obtain ⟨h0, h | ⟨a, cap, h1, h2, h3, h5⟩⟩ := h
  · exact ⟨h0, .inl h⟩
  · exact ⟨h0, .inr ⟨a, cap, h1, h2, h3, fun j u hj => hk.cell (h5 j u hj)⟩⟩

theorem StrsAt.keeps {w w' : World} {v : Value} {l : List ByteArray} (h : StrsAt w v l) (hk : KeepsCells w w') : StrsAt w' v l := SlAt.keeps h hk

theorem Rdy.keeps {w w' : World} (h : Rdy w) (hk : KeepsCells w w') : Rdy w' := by
  obtain ⟨m, hm⟩ := h
  exact ⟨m, hk.cell hm⟩

/-- A table in a map that is not the one that is written. -/
theorem TabAt.keeps {w w' : World} {M n : Nat} {T : Tab} (h : TabAt w M n T) (hk : KeepsCells w w') (hM : w'.heap[M]? = w.heap[M]?) : TabAt w' M n T := by
  obtain ⟨D, ⟨es, clock, hb, F, hs, hD⟩, h2, h3⟩ := h
  refine ⟨D, ⟨es, clock, hM.trans hb, F, hs, hD⟩, h2, fun k l hl => ?_⟩
  obtain ⟨v, hv, hs⟩ := h3 k l hl
  exact ⟨v, hv, hs.keeps hk⟩

theorem FilesAt.keeps {w w' : World} {F M n : Nat} {T : Tab} (h : FilesAt w F M n T) (hk : KeepsCells w w') (hM : w'.heap[M]? = w.heap[M]?) : FilesAt w' F M n T := ⟨hk.cell h.1, h.2.keeps hk hM⟩

theorem FilesAt.map {w : World} {F M n : Nat} {T : Tab} (h : FilesAt w F M n T) : ∃ es c, w.heap[M]? = some (.map es c) := by
  obtain ⟨_, D, ⟨es, c, hb, _⟩, _⟩ := h
  exact ⟨es, c, hb⟩

/-! ### names with lines -/
/-- A row's two cells. -/
def cellsF : List (ByteArray × Value) → List Value
  | [] => []
  | p :: r => .string p.1 :: p.2 :: cellsF r

theorem cellsF_length : ∀ vs : List (ByteArray × Value), (cellsF vs).length = vs.length * 2
  | [] => rfl
  | p :: r => by simp only [cellsF, List.length_cons, cellsF_length r]; omega

theorem cellsF_append : ∀ a b : List (ByteArray × Value), cellsF (a ++ b) = cellsF a ++ cellsF b
  | [], _ => rfl
  | p :: r, b => by simp [cellsF, cellsF_append r b]

theorem cellsF_get : ∀ (vs : List (ByteArray × Value)) (i : Nat) (p : ByteArray × Value), vs[i]? = some p → (cellsF vs)[i * 2]? = some (.string p.1) ∧ (cellsF vs)[i * 2 + 1]? = some p.2
  | [], i, p, h => by simp at h
  | q :: r, 0, p, h => by
    simp only [List.getElem?_cons_zero, Option.some.injEq] at h
    subst h
    exact ⟨rfl, rfl⟩
  | q :: r, i + 1, p, h => by
    have := cellsF_get r i p (by simpa using h)
    have e1 : (i + 1) * 2 = i * 2 + 1 + 1 := by omega
    rw [e1]
    simpa [cellsF] using this

/-- Each row's lines read as they should. -/
def RowsAre (w : World) (vs : List (ByteArray × Value)) (fl : Fl) : Prop := vs.length = fl.length ∧ ∀ (i : Nat) (p : ByteArray × List ByteArray), fl[i]? = some p → ∃ lv, vs[i]? = some (p.1, lv) ∧ StrsAt w lv p.2

/-- A slice of rows. -/
def FsAt (w : World) (v : Value) (fl : Fl) : Prop := ∃ vs, RowsAre w vs fl ∧ SlAt 2 w v fl.length (cellsF vs)

theorem RowsAre.keeps {w w' : World} {vs : List (ByteArray × Value)} {fl : Fl} (h : RowsAre w vs fl) (hk : KeepsCells w w') : RowsAre w' vs fl :=
  ⟨h.1, fun i p hp => by obtain ⟨lv, h1, h2⟩ := h.2 i p hp; exact ⟨lv, h1, h2.keeps hk⟩⟩

theorem FsAt.keeps {w w' : World} {v : Value} {fl : Fl} (h : FsAt w v fl) (hk : KeepsCells w w') : FsAt w' v fl := by
  obtain ⟨vs, h1, h2⟩ := h
  exact ⟨vs, h1.keeps hk, h2.keeps hk⟩

theorem RowsAre.snoc {w : World} {vs : List (ByteArray × Value)} {fl : Fl} (h : RowsAre w vs fl) (n : ByteArray) (lv : Value) (l : List ByteArray) (hl : StrsAt w lv l) : RowsAre w (vs ++ [(n, lv)]) (fl ++ [(n, l)]) := by
  refine ⟨by simp [h.1], fun i p hp => ?_⟩
  by_cases hi : i < fl.length
  · rw [List.getElem?_append_left hi] at hp
    obtain ⟨lv', h1, h2⟩ := h.2 i p hp
    exact ⟨lv', by rw [List.getElem?_append_left (by rw [h.1]; exact hi)]; exact h1, h2⟩
  · have hi2 : i = fl.length := by
      have := (List.getElem?_eq_some_iff.1 hp).1
      simp at this
      omega
    subst hi2
    simp at hp
    subst hp
    exact ⟨lv, by rw [← h.1]; simp, hl⟩

/-- A row's cells, at its address. -/
def RowCells (w : World) (ao : Option Addr) (fl : Fl) : Prop :=
  ∀ (i : Nat) (p : ByteArray × List ByteArray), fl[i]? = some p → ∃ b off lv, ao = some ⟨b, off, none⟩ ∧ w.cell? ⟨b, off + i * 2, none⟩ = some (.string p.1) ∧ w.cell? ⟨b, off + i * 2 + 1, none⟩ = some lv ∧ StrsAt w lv p.2

theorem FsAt.form {w : World} {v : Value} {fl : Fl} (h : FsAt w v fl) : ∃ ao cap, v = .slice ao fl.length cap ∧ fl.length ≤ cap ∧ cap ≤ 9223372036854775807 ∧ RowCells w ao fl := by
  obtain ⟨vs, hr, h0, ⟨h1, h2⟩ | ⟨a, cap, h1, h2, h3, h5⟩⟩ := h
  · refine ⟨none, 0, by rw [h1, h2], by omega, by omega, fun i p hp => ?_⟩
    have := (List.getElem?_eq_some_iff.1 hp).1
    omega
  · refine ⟨some a, cap, h1, h2, h3, fun i p hp => ?_⟩
    obtain ⟨lv, h6, h7⟩ := hr.2 i p hp
    obtain ⟨c1, c2⟩ := cellsF_get vs i _ h6
    obtain ⟨b, off, rfl, h8⟩ := row_plain h5 c1
    exact ⟨b, off, lv, rfl, h8 _ _ c1, by have := h8 _ _ c2; rwa [← Nat.add_assoc] at this, h7⟩

theorem RowCells.keeps {w w' : World} {ao : Option Addr} {fl : Fl} (h : RowCells w ao fl) (hk : KeepsCells w w') : RowCells w' ao fl := fun i p hp => by
  obtain ⟨b, off, lv, h1, h2, h3, h4⟩ := h i p hp
  exact ⟨b, off, lv, h1, hk.cell h2, hk.cell h3, h4.keeps hk⟩

/-- A line's cell, at its address. -/
def LineCells (w : World) (ao : Option Addr) (l : List ByteArray) : Prop :=
  ∀ (i : Nat) (s : ByteArray), l[i]? = some s → ∃ b off, ao = some ⟨b, off, none⟩ ∧ w.cell? ⟨b, off + i, none⟩ = some (.string s)

theorem StrsAt.lineForm {w : World} {v : Value} {l : List ByteArray} (h : StrsAt w v l) : ∃ ao cap, v = .slice ao l.length cap ∧ l.length ≤ cap ∧ cap ≤ 9223372036854775807 ∧ LineCells w ao l := by
  obtain ⟨h0, ⟨h1, h2⟩ | ⟨a, cap, h1, h2, h3, h5⟩⟩ := h
  · refine ⟨none, 0, by rw [h1, h2], by omega, by omega, fun i s hs => ?_⟩
    have := (List.getElem?_eq_some_iff.1 hs).1
    omega
  · refine ⟨some a, cap, h1, h2, h3, fun i s hs => ?_⟩
    have hi : (l.map Value.string)[i]? = some (.string s) := by simp [hs]
    obtain ⟨b, off, rfl, h8⟩ := row_plain h5 hi
    exact ⟨b, off, rfl, h8 i _ hi⟩

theorem LineCells.keeps {w w' : World} {ao : Option Addr} {l : List ByteArray} (h : LineCells w ao l) (hk : KeepsCells w w') : LineCells w' ao l := fun i s hs => by
  obtain ⟨b, off, h1, h2⟩ := h i s hs
  exact ⟨b, off, h1, hk.cell h2⟩

/-- Few files, with few and short lines. -/
def fewRow (p : ByteArray × List ByteArray) : Bool := decide (p.1.size ≤ 100) && decide (p.2.length ≤ 30) && p.2.all fun s => decide (s.size ≤ 100)
def fewB (fl : Fl) : Bool := fl.all fewRow && decide (fl.length ≤ 10)
end Go.Proofs.YtkbekdfgeiannaaDoor
