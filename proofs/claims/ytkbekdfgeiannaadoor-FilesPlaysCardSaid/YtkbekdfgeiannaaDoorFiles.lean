/-
  The walks of package files: how a table of files lies in memory, and what each of its calls does to it.
-/
import Derived.Test.YtkbekdfgeiannaaDoorCuts
import Derived.Test.YtkbekdfgeiannaaDoorTabs
import Derived.Maps.OwnSet
import Derived.Deep.RegionHeld3
import Derived.Deep.RegionLawGrows
import Derived.Deep.DrawnRows
namespace Go.Proofs.YtkbekdfgeiannaaDoor
open Go.RowKit Go.Maps

/-! ### the library's copies -/
theorem clone_any (v : Value) (l : List ByteArray) (w : World) (h : StrsAt w v l) (hb : l.length * 16 ≤ 140737488355328) :
    Calls Tryd.prog 25 #[v] w fun e w' => ∃ v', e = .returned v' ∧ w'.ownsRow w.heap.size 9 1 v' l.length (l.map Value.string) ∧ Below w.heap.size w w' := by
  obtain ⟨h0, ⟨h1, h2⟩ | ⟨a, cap, h1, h2, h3, h5⟩⟩ := h
  · subst h1
    obtain rfl : l = [] := List.eq_nil_of_length_eq_zero h2
    refine (Tryd.slices_Clone_string_nil 0 0 w).mono ?_
    rintro e w' ⟨rfl, rfl⟩
    exact ⟨_, rfl, World.ownsRow_nil _ _ _ _, Below.refl _ _⟩
  · subst h1
    by_cases hl : l = []
    · subst hl
      refine (Tryd.slices_Clone_string_zero a cap w).mono ?_
      rintro e w' ⟨v', rfl, ho, _, hbl⟩
      exact ⟨v', rfl, ho, hbl⟩
    · have hlp : 0 < l.length := by
        cases l with
        | nil => exact (hl rfl).elim
        | cons x r => simp
      obtain ⟨b, off, rfl, h6⟩ := row_plain h5 (j := 0) (List.getElem?_eq_getElem (by simpa using hlp))
      refine (Tryd.slices_Clone_string b off l.length cap l w (Nat.le_refl _) hb (fun j hj => h6 j _ (by simp [List.getElem?_eq_getElem hj]))).mono ?_
      rintro e w' ⟨v', rfl, ho, _, hbl⟩
      exact ⟨v', rfl, by simpa using ho, hbl⟩

/-- An address, or none, from which on these cells lie. -/
def AoAt (w : World) (ao : Option Addr) (n : Nat) (us : List Value) : Prop := (ao = none → n = 0) ∧ ∀ b, ao = some b → ∀ j u, us[j]? = some u → w.cell? (b.add j) = some u

/-- 's[:len(s):len(s)]': the same cells, no room behind them. -/
theorem clip_any (v : Value) (n : Nat) (us : List Value) (w : World) (h : SlAt 1 w v n us) :
    Calls Tryd.prog 26 #[v] w fun e w' => ∃ ao, e = .returned (.slice ao n n) ∧ w' = w ∧ AoAt w ao n us := by
  obtain ⟨h0, ⟨h1, h2⟩ | ⟨a, cap, h1, h2, h3, h5⟩⟩ := h
  · subst h1 h2
    go_enter Tryd.func26, Tryd.ntmps26
    go_wp2
    go_ret
    exact ⟨none, rfl, rfl, (fun _ => rfl), (fun b e => by cases e)⟩
  · subst h1
    unfold maxLen at h3
    have H5 := Lib.hid h5
    clear h5
    go_enter Tryd.func26, Tryd.ntmps26
    go_wp2
    go_ret
    exact ⟨some a, rfl, rfl, (fun e => by cases e), (fun a e j u hj => by cases e; exact H5.out j u hj)⟩

/-! ### the table in memory -/
/-- How a slice in the table reads: as itself. -/
def tokR (v : Value) : Option (DataW Value × List MemPlace) := some (.held v, [])

theorem keyLaw : Keyed Tryd.prog 9 := string_keyed Tryd.underlying9

/-- A key, as the model reads it. -/
def kl (k : List UInt8) : Lit := .string k

theorem keyOf_str (s : ByteArray) (h : s.size ≤ maxLen) : keyOf Tryd.prog 9 (.string s) = some (kl s.data.toList) := WideMaps.keyOf_string_mk Tryd.underlying9 h

theorem kl_ne {a b : List UInt8} (h : a ≠ b) : kl a ≠ kl b := fun e => h (by cases e; rfl)

/-- Block M is a map that holds this table. -/
def TabAt (w : World) (M n : Nat) (T : Tab) : Prop :=
  ∃ D : DataW Value, w.ownsMap Tryd.prog 9 tokR M n D ∧ (∀ k, Maps.has D (kl k) = (T k).isSome) ∧ ∀ k l, T k = some l → ∃ v, D.atKey (kl k) (.held (.slice none 0 0)) = .held v ∧ StrsAt w v l

/-- A pointer to the struct that holds that map. -/
def FilesAt (w : World) (F M n : Nat) (T : Tab) : Prop := w.cell? ⟨F, 0, none⟩ = some (.map (some M)) ∧ TabAt w M n T

/-- The world has turned in one map alone. -/
def MapTurn (w w' : World) (M : Nat) : Prop := w.grownBy w' (some M) ∧ ∃ es c, w.heap[M]? = some (.map es c)

theorem SlAt.turn {size : Nat} {w w' : World} {M : Nat} {v : Value} {n : Nat} {us : List Value} (h : SlAt size w v n us) (ht : MapTurn w w' M) : SlAt size w' v n us := by
  obtain ⟨h0, h | ⟨a, cap, h1, h2, h3, h5⟩⟩ := h
  · exact ⟨h0, .inl h⟩
  · obtain ⟨hg, es, c, hM⟩ := ht
    refine ⟨h0, .inr ⟨a, cap, h1, h2, h3, fun j u hj => hg.cell (h5 j u hj) ?_⟩⟩
    intro e
    have hc := h5 j u hj
    simp only [Option.some.injEq] at e
    rw [← e] at hM
    simp [World.cell?, hM] at hc

theorem TabAt.below {w w' : World} {M n : Nat} {T : Tab} (h : TabAt w M n T) (hb : Below w.heap.size w w') : TabAt w' M n T := by
  obtain ⟨D, h1, h2, h3⟩ := h
  have hlt := h1.lt
  refine ⟨D, ?_, h2, fun k l hk => ?_⟩
  · obtain ⟨es, clock, hM, F, hs, hD⟩ := h1
    exact ⟨es, clock, (hb.block M hlt).trans hM, F, hs, hD⟩
  · obtain ⟨v, hv, hs⟩ := h3 k l hk
    exact ⟨v, hv, hs.below hb⟩

theorem FilesAt.below {w w' : World} {F M n : Nat} {T : Tab} (h : FilesAt w F M n T) (hb : Below w.heap.size w w') : FilesAt w' F M n T :=
  ⟨(hb.cell (cell_lt h.1)).trans h.1, h.2.below hb⟩

theorem zero_strs (w : World) : (zeroValue 23).run Tryd.prog w = .ok (.slice none 0 0) w := by kernel_rfl

/-- A look-up: the slice that lies there, in every world in which the map's block is as it is here. -/
theorem TabAt.look {w : World} {M n : Nat} {T : Tab} (h : TabAt w M n T) (s : ByteArray) (hs : s.size ≤ maxLen) :
    ∃ v, StrsAt w v ((T s.data.toList).getD []) ∧ (∀ w' : World, w'.heap[M]? = w.heap[M]? → (Instr.lookup 53 (.map (some M)) (.string s) false).run Tryd.prog w' = .ok v w') ∧
      ∀ w' : World, w'.heap[M]? = w.heap[M]? → (Instr.lookup 53 (.map (some M)) (.string s) true).run Tryd.prog w' = .ok (.tuple #[v, .bool (T s.data.toList).isSome]) w' := by
  obtain ⟨D, h1, h2, h3⟩ := h
  have h1' := h1
  obtain ⟨es, clock, hM, F, hsz, hD⟩ := h1
  have hown : ∀ w' : World, w'.heap[M]? = w.heap[M]? → w'.ownsMap Tryd.prog 9 tokR M n D := fun w' e => ⟨es, clock, e.trans hM, F, hsz, hD⟩
  have hv : ∃ v, D.atKey (kl s.data.toList) (.held (.slice none 0 0)) = .held v ∧ StrsAt w v ((T s.data.toList).getD []) := by
    cases hT : T s.data.toList with
    | some l =>
      obtain ⟨v, hv, hs⟩ := h3 _ l hT
      exact ⟨v, hv, hs⟩
    | none =>
      have := h2 s.data.toList
      rw [hT] at this
      exact ⟨_, atKey_of_not_has this _, SlAt.nil 1 w⟩
  obtain ⟨v, hv, hst⟩ := hv
  refine ⟨v, hst, fun w' e => ?_, fun w' e => ?_⟩
  · obtain ⟨v', ps, hrun, hR⟩ := (hown w' e).lookup (zd := .held (.slice none 0 0)) (zp := []) keyLaw Tryd.underlying53 (zero_strs w') rfl (keyOf_str s hs)
    rw [hv] at hR
    cases hR
    exact hrun
  · obtain ⟨v', ps, hrun, hR⟩ := (hown w' e).look_ok (zd := .held (.slice none 0 0)) (zp := []) keyLaw Tryd.underlying53 (zero_strs w') rfl (keyOf_str s hs)
    rw [hv] at hR
    cases hR
    rw [h2] at hrun
    exact hrun

/-- A store. -/
theorem TabAt.store {w : World} {M n : Nat} {T : Tab} (h : TabAt w M n T) (s : ByteArray) (hs : s.size ≤ maxLen) (hn : n < maxLen) (v : Value) (l : List ByteArray) (hv : StrsAt w v l) :
    ∃ w', (Instr.mapUpdate 53 (.map (some M)) (.string s) v).run Tryd.prog w = .ok () w' ∧ TabAt w' M (n + 1) (T.set s.data.toList l) ∧ MapTurn w w' M := by
  obtain ⟨D, h1, h2, h3⟩ := h
  obtain ⟨w', hrun, ho, hg⟩ := h1.update (R := tokR) (d := .held v) (ps := []) keyLaw Tryd.underlying53 hn (keyOf_str s hs) rfl
  have ht : MapTurn w w' M := ⟨hg, by obtain ⟨es, c, hM, _⟩ := h1; exact ⟨es, c, hM⟩⟩
  have hm := h1.isMap
  refine ⟨w', hrun, ⟨_, ho, fun k => ?_, fun k l' hk => ?_⟩, ht⟩
  · unfold Tab.set
    by_cases e : k = s.data.toList
    · subst e
      rw [if_pos rfl]
      exact has_put_same hm (by exact ⟨⟩) _
    · rw [if_neg e, has_put_other (kl_ne e)]
      exact h2 k
  · unfold Tab.set at hk
    by_cases e : k = s.data.toList
    · subst e
      rw [if_pos rfl] at hk
      cases hk
      exact ⟨v, atKey_put_same hm (by exact ⟨⟩) _ _, SlAt.turn hv ht⟩
    · rw [if_neg e] at hk
      obtain ⟨v', hv', hs'⟩ := h3 k l' hk
      exact ⟨v', by rw [atKey_put_other (kl_ne e)]; exact hv', SlAt.turn hs' ht⟩
end Go.Proofs.YtkbekdfgeiannaaDoor
