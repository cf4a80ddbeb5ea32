/-
  The walks of package files: Lines, Has, Clear, Add.
-/
import Derived.Test.YtkbekdfgeiannaaDoorFiles
namespace Go.Proofs.YtkbekdfgeiannaaDoor
open Go.RowKit Go.Maps
attribute [local go_sem ↓] Go.wp_at_zero Go.wp_at_succ

set_option maxHeartbeats 400000 in
theorem lines_any (F M n : Nat) (T : Tab) (s : ByteArray) (w : World) (hf : FilesAt w F M n T) (hs : s.size ≤ maxLen) (hb : ((T s.data.toList).getD []).length * 16 ≤ 140737488355328) :
    Calls Tryd.prog 11 #[.pointer (some ⟨F, 0, none⟩), .string s] w fun e w' => ∃ v, e = .returned v ∧
      w'.ownsRow w.heap.size 9 1 v ((T s.data.toList).getD []).length (((T s.data.toList).getD []).map Value.string) ∧ Below w.heap.size w w' := by
  obtain ⟨hc, ht⟩ := hf
  obtain ⟨v, hv, hl, _⟩ := ht.look s hs
  have hl0 := hl w rfl
  clear hl
  go_enter Tryd.func11, Tryd.ntmps11
  go_wp2_with (go_at_call 25; refine (clone_any v _ _ hv hb).mono ?_; rintro e w' ⟨v', rfl, ho, hbl⟩)
  go_ret
  exact ⟨v', rfl, ho, hbl⟩

set_option maxHeartbeats 400000 in
theorem has_any (F M n : Nat) (T : Tab) (s : ByteArray) (w : World) (hf : FilesAt w F M n T) (hs : s.size ≤ maxLen) :
    Calls Tryd.prog 22 #[.pointer (some ⟨F, 0, none⟩), .string s] w fun e w' => e = .returned (.bool (T s.data.toList).isSome) ∧ w' = w := by
  obtain ⟨hc, ht⟩ := hf
  obtain ⟨v, hv, _, hl⟩ := ht.look s hs
  have hl0 := hl w rfl
  clear hl
  generalize (T s.data.toList).isSome = b at *
  go_enter Tryd.func22, Tryd.ntmps22
  go_wp2
  go_ret
  exact ⟨rfl, rfl⟩

set_option maxHeartbeats 400000 in
theorem clear_any (F M n : Nat) (T : Tab) (s : ByteArray) (w : World) (hf : FilesAt w F M n T) (hs : s.size ≤ maxLen) (hn : n < maxLen) :
    Calls Tryd.prog 18 #[.pointer (some ⟨F, 0, none⟩), .string s] w fun e w' => e = .returned (.tuple #[]) ∧ FilesAt w' F M (n + 1) (T.set s.data.toList []) ∧ MapTurn w w' M := by
  obtain ⟨hc, ht⟩ := hf
  obtain ⟨w1, hrun, h1, h2⟩ := ht.store s hs hn (.slice none 0 0) [] (SlAt.nil 1 w)
  have hne : F ≠ M := by
    rintro rfl
    obtain ⟨_, es, c, hM⟩ := h2
    simp [World.cell?, hM] at hc
  have hc1 : w1.cell? ⟨F, 0, none⟩ = some (.map (some M)) := h2.1.cell hc (by simpa using hne)
  go_enter Tryd.func18, Tryd.ntmps18
  go_wp2
  go_end0
  exact ⟨rfl, ⟨hc1, h1⟩, h2⟩

theorem strs_of_cells {w : World} {b : Nat} {l : List ByteArray} {t : TypeId} (h : w.heap[b]? = some (.cells (l.map Value.string).toArray t (0, 0))) : ∀ j u, (l.map Value.string)[j]? = some u → w.cell? ((⟨b, 0, none⟩ : Addr).add j) = some u := by
  intro j u hj
  rw [addr_add]
  simp only [World.cell?, h]
  simpa using hj

theorem strs_of_app {w : World} {base : Nat} {e : TypeId} {v : Value} {l l' : List ByteArray} (h : w.ownsRow base e 1 v (l.length + l'.length) (l.map Value.string ++ l'.map Value.string)) : StrsAt w v (l ++ l') := by
  have h' := SlAt.of_owns h
  unfold StrsAt
  rwa [List.length_append, List.map_append]

theorem grownBy_drew (w : World) (row : Option Nat) : w.grownBy w.drew row := ⟨rfl, rfl, rfl, Nat.le_refl _, fun _ _ _ => rfl⟩

theorem grownBy_more {w w' : World} {row : Option Nat} (h : w.grownBy w' none) : w.grownBy w' row := ⟨h.os, h.tape, h.output, h.size, fun k hk _ => h.block k hk (by simp)⟩

/-- Cells stay where they lay. -/
theorem AoAt.cells {w w' : World} {ao : Option Addr} {n : Nat} {us : List Value} (h : AoAt w ao n us) (hb : Below w.heap.size w w') : ∀ b, ao = some b → ∀ j u, us[j]? = some u → w'.cell? (b.add j) = some u :=
  fun b e j u hj => by
    have hc := h.2 b e j u hj
    exact (hb.cell (cell_lt hc)).trans hc

set_option maxRecDepth 100000 in
set_option maxHeartbeats 1000000 in
theorem add_any (F M n : Nat) (T : Tab) (s text : ByteArray) (w : World) (hf : FilesAt w F M n T) (hr : Rdy w) (hs : s.size ≤ maxLen) (hn : n < maxLen) (htx : text.size < 4294967281)
    (hb : (((T s.data.toList).getD []).length + (lines text).length) * 16 ≤ 140737488355328) :
    Calls Tryd.prog 12 #[.pointer (some ⟨F, 0, none⟩), .string s, .string text] w fun e w' => e = .returned (.tuple #[]) ∧
      FilesAt w' F M (n + 1) (T.set s.data.toList ((T s.data.toList).getD [] ++ lines text)) ∧ w.grownBy w' (some M) := by
  obtain ⟨i0, hi, hz0, hz1, hz2⟩ := info_parts info_str
  obtain ⟨hc, ht⟩ := hf
  obtain ⟨v, hv, hL, _⟩ := ht.look s hs
  obtain ⟨l, hl⟩ : ∃ l, l = (T s.data.toList).getD [] := ⟨_, rfl⟩
  rw [← hl] at hv hb
  have HLE := Lib.hid hl
  clear hl
  have hMlt : M < w.heap.size := by obtain ⟨D, h1, _⟩ := ht; exact h1.lt
  have hS : ∀ w' : World, Below w.heap.size w w' → w'.cell? ⟨F, 0, none⟩ = some (.map (some M)) := fun w' hb => (hb.cell (cell_lt hc)).trans hc
  have hl0 := hL w.drew rfl
  have hB1 : Below w.heap.size w (w.alloc (.cells ((lines text).map Value.string).toArray 9)).drew := ((Below.refl _ w).alloc (Nat.le_refl _) _).drew
  have hne : F ≠ M := by
    rintro rfl
    obtain ⟨D, ⟨es, c, hM, _⟩, _⟩ := ht
    simp [World.cell?, hM] at hc
  have HAO : Hid (∀ ao, AoAt w.drew ao l.length (l.map Value.string) → ∀ b, ao = some b → ∀ j u, (l.map Value.string)[j]? = some u → (w.alloc (.cells ((lines text).map Value.string).toArray 9)).drew.cell? (b.add j) = some u) :=
    fun ao h => AoAt.cells (w := w) h (((Below.refl _ w).alloc (Nat.le_refl _) _).drew)
  have HS := Lib.hid hS
  have HB1 := Lib.hid hB1
  have HH : Hid ((w.alloc (.cells ((lines text).map Value.string).toArray 9)).drew.heap[w.heap.size]? = some (.cells ((lines text).map Value.string).toArray 9 (0, 0))) := heap_alloc_new w _
  have hlt : 0 < (lines text).length := by rw [lines_length]; omega
  clear hL hS hB1
  go_enter Tryd.func12, Tryd.ntmps12
  go_wp2_with fail
  go_region_held3 (fun w' => w'.cell? ⟨F, 0, none⟩ = some (.map (some M)))
    (first
      | exact HS.out _ (Below.refl _ _).drew
      | exact HS.out _ HB1.out
      | exact HS.out w1 hB2
      | exact hc2)
    (first
      | (go_at_call 26; refine (clip_any v _ _ _ (by exact hv)).mono ?_; rintro e w' ⟨ao, rfl, rfl, hao⟩)
      | (go_at_call 7; refine (cut_any text _ htx (by exact hr)).mono ?_; rintro e w' ⟨rfl, rfl⟩)
      | (refine step_append_grows (by rfl) _ _ 23 (by rfl) 9 i0 (.string ByteArray.empty) 1 16 Tryd.underlying23 hi hz0 hz1 hz2 rfl (by decide) ao l.length l.length (l.map Value.string) (by rfl) (fun e => ⟨hao.1 e, hao.1 e⟩) (by simp) (HAO.out ao hao) ⟨w.heap.size, 0, none⟩ (lines text).length (lines text).length ((lines text).map Value.string) (by rfl) (by simp) (strs_of_cells HH.out) (by simp [Value.oneCell']) (by omega) (by unfold maxLen; omega) hb ?_; intro v1 w1 ho1 hg1; have hB2 : Below w.heap.size w w1 := HB1.out.grown hg1 (by simp) (by simp); obtain ⟨w2, hrun, h1, h2⟩ := TabAt.store (TabAt.below ht hB2) s hs hn v1 (l ++ lines text) (strs_of_app ho1); have hc2 : w2.cell? ⟨F, 0, none⟩ = some (.map (some M)) := h2.1.cell (HS.out w1 hB2) (by simpa using hne)))
  all_goals
    go_wp2
    go_end0
    refine ⟨rfl, ⟨hc2, ?_⟩, ?_⟩
    · rw [← HLE.out]; exact h1
    · exact grownBy_trans (grownBy_trans (grownBy_trans (World.grownBy_alloc w _ _) (grownBy_drew _ _)) (grownBy_more hg1)) h2.1
end Go.Proofs.YtkbekdfgeiannaaDoor
