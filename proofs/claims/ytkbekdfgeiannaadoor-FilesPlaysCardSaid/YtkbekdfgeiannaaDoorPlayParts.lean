/-
  What the walk of FilesPlays needs besides: rows whose lines are turned in place; acts read out of memory; the state that a round keeps.
-/
import Derived.Test.YtkbekdfgeiannaaDoorCopy17
import Derived.OneCell
import Derived.Deep.DeepCutAuto
import Derived.Deep.Cut
import Derived.Deep.CutRange
namespace Go.Proofs.YtkbekdfgeiannaaDoor
open Go.RowKit Go.Maps

/-! ### how long a line can be -/
theorem split_size (sep : ByteArray) : ∀ (k : Nat) (s : ByteArray), ∀ x ∈ Lib.splitB sep 0 k s, x.size ≤ s.size
  | 0, s, x, hx => by
    rw [Lib.splitB_zero] at hx
    rw [List.mem_singleton.1 hx]
    exact Nat.le_refl _
  | k + 1, s, x, hx => by
    by_cases h : Lib.indexB s sep = -1
    · rw [Lib.splitB_miss _ _ _ _ h] at hx
      rw [List.mem_singleton.1 hx]
      exact Nat.le_refl _
    · obtain ⟨i, hi, _⟩ := (Lib.indexB_cases s sep).resolve_left h
      rw [Lib.splitB_hit _ _ _ _ i hi] at hx
      rcases List.mem_cons.1 hx with rfl | hx
      · rw [ByteArray.size_extract]; omega
      · have := split_size sep k _ x hx
        rw [ByteArray.size_extract] at this
        omega

theorem lines_size (t : ByteArray) : ∀ x ∈ lines t, x.size ≤ t.size := split_size _ _ t

/-- No line of the table is long. -/
def Short (T : Tab) : Prop := ∀ k l, T k = some l → ∀ s ∈ l, s.size ≤ 300

theorem Short.set {T : Tab} (h : Short T) (k : List UInt8) {l : List ByteArray} (hl : ∀ s ∈ l, s.size ≤ 300) : Short (T.set k l) := fun x y hx => by
  unfold Tab.set at hx
  split at hx
  · cases hx
    exact hl
  · exact h x y hx

theorem Short.get {T : Tab} (h : Short T) (k : List UInt8) : ∀ s ∈ (T k).getD [], s.size ≤ 300 := by
  cases hT : T k with
  | none => simp
  | some l => exact h k l hT

theorem short_new {fl : Fl} (h : ∀ p ∈ fl, fewRow p = true) : Short (newT fl) := by
  have key : ∀ (l : Fl) (T : Tab), (∀ p ∈ l, fewRow p = true) → Short T → Short (l.foldl (fun T p => T.set (nm p) (p.2.flatMap lines)) T) := by
    intro l
    induction l with
    | nil => intro T _ h; exact h
    | cons p r ih =>
      intro T hp hT
      refine ih _ (fun q hq => hp q (List.mem_cons_of_mem _ hq)) (hT.set _ ?_)
      obtain ⟨_, h2, h3⟩ := fewRow_iff.1 (hp p List.mem_cons_self)
      intro s hs
      obtain ⟨t, ht, hs⟩ := List.mem_flatMap.1 hs
      have h4 := h3 t ht
      have h5 := lines_size t s hs
      omega
  exact key fl tab0 h (fun k l hk => by cases hk)

theorem look_mem : ∀ {l : Fl} {q : ByteArray × List ByteArray}, Rising l → q ∈ l → look l (nm q) = some q.2
  | p :: r, q, hr, hq => by
    obtain ⟨h1, h2⟩ := List.pairwise_cons.1 hr
    rcases List.mem_cons.1 hq with rfl | hq
    · simp [look]
    · have := h1 q hq
      simp only [look, if_neg (lt_ne this)]
      exact look_mem h2 hq

/-! ### a row of strings that may be turned -/
def StrRow (base : Nat) (w : World) (lv : Value) (m B : Nat) : Prop := ∃ l : List ByteArray, l.length = m ∧ (∀ s ∈ l, s.size ≤ B) ∧ w.ownsRow base 9 1 lv m (l.map Value.string)

theorem StrRow.of {base : Nat} {w : World} {lv : Value} {l : List ByteArray} {B : Nat} (h : w.ownsRow base 9 1 lv l.length (l.map Value.string)) (hB : ∀ s ∈ l, s.size ≤ B) : StrRow base w lv l.length B := ⟨l, rfl, hB, h⟩

theorem StrRow.below {base : Nat} {w w' : World} {lv : Value} {m B : Nat} (h : StrRow base w lv m B) (hb : Below w.heap.size w w') : StrRow base w' lv m B := by
  obtain ⟨l, h1, h0, h2⟩ := h
  exact ⟨l, h1, h0, ownsRow_below h2 hb⟩

theorem StrRow.mono {base : Nat} {w : World} {lv : Value} {m B B' : Nat} (h : StrRow base w lv m B) (hB : B ≤ B') : StrRow base w lv m B' := by
  obtain ⟨l, h1, h0, h2⟩ := h
  exact ⟨l, h1, fun s hs => Nat.le_trans (h0 s hs) hB, h2⟩

/-- A string's row at its block. -/
theorem StrRow.at_ {base : Nat} {w : World} {lv : Value} {m j B : Nat} (h : StrRow base w lv m B) (hj : j < m) :
    ∃ g cap cur s, lv = .slice (some ⟨g, 0, none⟩) m cap ∧ base ≤ g ∧ w.heap[g]? = some (.cells cur 9 (0, 0)) ∧ m ≤ cap ∧ cap ≤ maxLen ∧ w.cell? ⟨g, j, none⟩ = some (.string s) ∧ w.frozen? ⟨g, j, none⟩ = false ∧ s.size ≤ B := by
  obtain ⟨l, h1, h0, h2⟩ := h
  rcases h2.2 with ⟨_, h3⟩ | ⟨g, cap, cur, rfl, h3, h4, h5, h6, _⟩
  · omega
  · refine ⟨g, cap, cur, l[j]'(by omega), rfl, h3, h4, h5, h6, ?_, h2.frozenAt j, h0 _ (List.getElem_mem _)⟩
    rw [h2.cellAt j (by omega)]
    simp [List.getElem?_eq_getElem (show j < l.length by omega)]

theorem StrRow.form {base : Nat} {w : World} {lv : Value} {m B : Nat} (h : StrRow base w lv m B) : ∃ ao cap, lv = .slice ao m cap ∧ m ≤ cap ∧ cap ≤ 9223372036854775807 := by
  obtain ⟨l, h1, _, h2⟩ := h
  rcases h2.2 with ⟨rfl, rfl⟩ | ⟨g, cap, cur, rfl, h3, h4, h5, h6, _⟩
  · exact ⟨none, 0, rfl, by omega, by omega⟩
  · exact ⟨_, cap, rfl, h5, h6⟩

theorem StrRow.turn {base : Nat} {w : World} {lv : Value} {m B : Nat} (h : StrRow base w lv m B) (g j : Nat) (s : ByteArray) (hs : s.size ≤ B) : StrRow base (w.setCell ⟨g, j, none⟩ (.string s)) lv m B := by
  obtain ⟨l, h1, h0, h2⟩ := h
  by_cases he : lv.ownBlock = some g
  · rcases h2.2 with ⟨rfl, _⟩ | ⟨g', cap, cur, rfl, h3, h4, h5, h6, _⟩
    · cases he
    · simp only [Value.ownBlock, Option.some.injEq] at he
      subst he
      have := (h2.stored j (.string s)).1
      refine ⟨l.set j s, by simpa using h1, fun x hx => ?_, by rw [List.map_set]; exact this⟩
      rcases List.mem_or_eq_of_mem_set hx with hx | rfl
      · exact h0 x hx
      · exact hs
  · exact ⟨l, h1, h0, ownsRow_setCell_other h2 he _⟩

/-- A slice of such rows. -/
def Rows2 (base : Nat) (w : World) (v : Value) (vs : List (ByteArray × Value)) (fl : Fl) (B : Nat) : Prop :=
  w.ownsRow base 47 2 v fl.length (cellsF vs) ∧ ∀ (i : Nat) (p : ByteArray × List ByteArray), fl[i]? = some p → ∃ lv, vs[i]? = some (p.1, lv) ∧ StrRow base w lv p.2.length B

theorem Rows2.of {base : Nat} {w : World} {v : Value} {vs : List (ByteArray × Value)} {fl : Fl} {T : Tab} (h : RowsOwn base w vs fl) (ho : w.ownsRow base 47 2 v fl.length (cellsF vs)) (hok : RefOk fl T) (hs : Short T) : Rows2 base w v vs fl 300 :=
  ⟨ho, fun i p hp => by
    obtain ⟨lv, h1, h2⟩ := h.2 i p hp
    exact ⟨lv, h1, StrRow.of h2 (hs (nm p) p.2 (by rw [← hok.2]; exact look_mem hok.1 (List.mem_of_getElem? hp)))⟩⟩

theorem Rows2.mono {base : Nat} {w : World} {v : Value} {vs : List (ByteArray × Value)} {fl : Fl} {B B' : Nat} (h : Rows2 base w v vs fl B) (hB : B ≤ B') : Rows2 base w v vs fl B' :=
  ⟨h.1, fun i p hp => by obtain ⟨lv, h1, h2⟩ := h.2 i p hp; exact ⟨lv, h1, h2.mono hB⟩⟩

theorem Rows2.below {base : Nat} {w w' : World} {v : Value} {vs : List (ByteArray × Value)} {fl : Fl} {B : Nat} (h : Rows2 base w v vs fl B) (hb : Below w.heap.size w w') : Rows2 base w' v vs fl B :=
  ⟨ownsRow_below h.1 hb, fun i p hp => by obtain ⟨lv, h1, h2⟩ := h.2 i p hp; exact ⟨lv, h1, h2.below hb⟩⟩

theorem Rows2.turn {base : Nat} {w : World} {v : Value} {vs : List (ByteArray × Value)} {fl : Fl} {B : Nat} (h : Rows2 base w v vs fl B) {g : Nat} {cur : Array Value} (hg : w.heap[g]? = some (.cells cur 9 (0, 0))) (j : Nat) (s : ByteArray) (hs : s.size ≤ B) :
    Rows2 base (w.setCell ⟨g, j, none⟩ (.string s)) v vs fl B := by
  refine ⟨ownsRow_setCell_other h.1 ?_ _, fun i p hp => by obtain ⟨lv, h1, h2⟩ := h.2 i p hp; exact ⟨lv, h1, h2.turn g j s hs⟩⟩
  intro e
  rcases h.1.2 with ⟨rfl, _⟩ | ⟨g', cap, cur', rfl, _, h4, _⟩
  · cases e
  · simp only [Value.ownBlock, Option.some.injEq] at e
    subst e
    rw [hg] at h4
    simp only [Option.some.injEq, Obj.cells.injEq] at h4
    exact absurd h4.2.1 (by decide)

/-- A row's cells. -/
theorem Rows2.row {base : Nat} {w : World} {v : Value} {vs : List (ByteArray × Value)} {fl : Fl} {B : Nat} (h : Rows2 base w v vs fl B) {i : Nat} {p : ByteArray × List ByteArray} (hp : fl[i]? = some p) :
    ∃ g cap lv, v = .slice (some ⟨g, 0, none⟩) fl.length cap ∧ fl.length ≤ cap ∧ cap ≤ 9223372036854775807 ∧ w.cell? ⟨g, i * 2, none⟩ = some (.string p.1) ∧ w.cell? ⟨g, i * 2 + 1, none⟩ = some lv ∧ StrRow base w lv p.2.length B := by
  have hlt := (List.getElem?_eq_some_iff.1 hp).1
  obtain ⟨lv, h1, h2⟩ := h.2 i p hp
  have hl := h.1.1
  rcases h.1.2 with ⟨_, h3⟩ | ⟨g, cap, cur, rfl, h3, h4, h5, h6, _⟩
  · omega
  · obtain ⟨c1, c2⟩ := cellsF_get vs i _ h1
    refine ⟨g, cap, lv, rfl, h5, h6, ?_, ?_, h2⟩
    · rw [h.1.cellAt _ (by omega), c1]
    · rw [h.1.cellAt _ (by omega), c2]

theorem block_turn {w : World} {g S : Nat} {cur c : Array Value} (hg : w.heap[g]? = some (.cells cur 9 (0, 0))) (hS : w.heap[S]? = some (.cells c 47)) (j : Nat) (u : Value) : (w.setCell ⟨g, j, none⟩ u).heap[S]? = some (.cells c 47) := by
  rw [Below.heap_setCell]
  · exact hS
  · intro e
    simp only at e
    subst e
    rw [hg] at hS
    simp only [Option.some.injEq, Obj.cells.injEq] at hS
    exact absurd hS.2.1 (by decide)

/-! ### acts in memory -/
abbrev Al := List (Int × ByteArray × ByteArray)

def ActCells3 (w : World) (ao : Option Addr) (al : Al) : Prop :=
  ∀ (i : Nat) p, al[i]? = some p → ∃ b off, ao = some ⟨b, off, none⟩ ∧ w.cell? ⟨b, off + i * 3, none⟩ = some (.int .u8 p.1) ∧ w.cell? ⟨b, off + i * 3 + 1, none⟩ = some (.string p.2.1) ∧ w.cell? ⟨b, off + i * 3 + 2, none⟩ = some (.string p.2.2) ∧ 0 ≤ p.1 ∧ p.1 < 256

def ActsAt (w : World) (v : Value) (al : Al) : Prop := ∃ ao cap, v = .slice ao al.length cap ∧ al.length ≤ cap ∧ cap ≤ 9223372036854775807 ∧ ActCells3 w ao al

theorem ActCells3.keeps {w w' : World} {ao : Option Addr} {al : Al} (h : ActCells3 w ao al) (hk : KeepsCells w w') : ActCells3 w' ao al := fun i p hp => by
  obtain ⟨b, off, h1, h2, h3, h4, h5⟩ := h i p hp
  exact ⟨b, off, h1, hk.cell h2, hk.cell h3, hk.cell h4, h5⟩

/-! ### what a round keeps -/
/-- The table in the program's memory, the document's beside it, after k acts. -/
def Play (base : Nat) (w0 w : World) (F M n : Nat) (T : Tab) (ref : Value) (rl : Fl) (k : Nat) : Prop :=
  FilesAt w F M n T ∧ FsAt w ref rl ∧ RefOk rl T ∧ (Lim (4000 + 1000 * k) T ∧ Short T) ∧ n ≤ 400 + k ∧ rl.length ≤ 10 + k ∧ Below base w0 w ∧ base ≤ M

theorem Play.below {base : Nat} {w0 w w' : World} {F M n : Nat} {T : Tab} {ref : Value} {rl : Fl} {k : Nat} (h : Play base w0 w F M n T ref rl k) (hs : base ≤ w.heap.size) (hb : Below w.heap.size w w') : Play base w0 w' F M n T ref rl k := by
  obtain ⟨h1, h2, h3, h4, h5, h6, h7, h8⟩ := h
  exact ⟨h1.below hb, h2.keeps (KeepsCells.of_below hb), h3, h4, h5, h6, h7.trans (hb.mono hs), h8⟩

theorem Play.put {base : Nat} {w0 w w' : World} {F M n F' M' n' : Nat} {T : Tab} {ref ref' : Value} {rl : Fl} {k : Nat} (h : Play base w0 w F M n T ref rl k) (s : ByteArray) (ls : List ByteArray)
    (hf : FilesAt w' F' M' n' (T.set s.data.toList ls)) (hn : n' ≤ n + 1) (hfs : FsAt w' ref' (putGo s ls false rl)) (hl : ls.length ≤ 4000 + 1000 * (k + 1)) (hls : ∀ s ∈ ls, s.size ≤ 300) (hb : Below base w0 w') (hM : base ≤ M') :
    ∃ rl', Play base w0 w' F' M' n' (T.set s.data.toList ls) ref' rl' (k + 1) := by
  obtain ⟨h1, h2, h3, h4, h5, h6, h7, h8⟩ := h
  rw [putGo_put s ls rl h3.1] at hfs
  have h9 := put_length s ls rl
  exact ⟨_, hf, hfs, h3.put s ls, ⟨(h4.1.mono (by omega)).set _ hl, h4.2.set _ hls⟩, by omega, by omega, hb, hM⟩

theorem Play.rise {base : Nat} {w0 w : World} {F M n : Nat} {T : Tab} {ref : Value} {rl : Fl} {k : Nat} (h : Play base w0 w F M n T ref rl k) : Play base w0 w F M n T ref rl (k + 1) := by
  obtain ⟨h1, h2, h3, h4, h5, h6, h7, h8⟩ := h
  exact ⟨h1, h2, h3, ⟨h4.1.mono (by omega), h4.2⟩, by omega, by omega, h7, h8⟩
end Go.Proofs.YtkbekdfgeiannaaDoor
