/-
  The walk of the fixed fact of placketlaw17: it is true.
-/
import Derived.Test.YtkbekdfgeiannaaDoorFilesOps
namespace Go.Proofs.YtkbekdfgeiannaaDoor
open Go.RowKit Go.Maps

theorem tab0_made (w : World) : TabAt (w.alloc (.map #[] 0)) w.heap.size 0 tab0 :=
  ⟨.map [], World.ownsMap_made w Tryd.prog 9 tokR, fun k => rfl, fun k l h => by cases h⟩

theorem cell_boxed (w : World) (v : Value) (t : TypeId) : (w.alloc (.cells #[v] t)).cell? ⟨w.heap.size, 0, none⟩ = some v := by
  simp only [World.cell?, heap_alloc_new]
  rfl

set_option maxHeartbeats 400000 in
theorem new_nil (w : World) :
    Calls Tryd.prog 23 #[.slice none 0 0] w fun e w' => e = .returned (.pointer (some ⟨w.heap.size + 1, 0, none⟩)) ∧ FilesAt w' (w.heap.size + 1) w.heap.size 0 tab0 ∧ Below w.heap.size w w' := by
  have hmm := @run_makeMap Tryd.prog
  have HT : Hid (TabAt (w.alloc (.map #[] 0)) w.heap.size 0 tab0) := tab0_made w
  go_enter Tryd.func23, Tryd.ntmps23
  go_wp2
  refine wp_loop_rounds 1 ?_
  rw [rounds_succ]
  go_wp2
  go_ret
  have hb : Below (w.alloc (.map #[] 0)).heap.size (w.alloc (.map #[] 0)) ((w.alloc (.map #[] 0)).alloc (.cells #[.map (some w.heap.size)] 55)) := (Below.refl _ _).alloc (Nat.le_refl _) _
  refine ⟨rfl, ⟨?_, HT.out.below hb⟩, ((Below.refl _ _).alloc (Nat.le_refl _) _).alloc (by simp) _⟩
  rw [show w.heap.size + 1 = (w.alloc (.map #[] 0)).heap.size by simp]
  exact cell_boxed _ _ _

def abText : ByteArray := ⟨#[97, 10, 98]⟩
theorem lines_ab : lines ⟨#[97, 10, 98]⟩ = [⟨#[97]⟩, ⟨#[98]⟩] := (lines_eq (s := ⟨#[97, 10, 98]⟩) (l := [⟨#[97]⟩, ⟨#[98]⟩]) (by decide)).symm
theorem lines_none : lines ⟨#[]⟩ = [⟨#[]⟩] := (lines_eq (s := ⟨#[]⟩) (l := [⟨#[]⟩]) (by decide)).symm

theorem tab_at (T : Tab) (k : List UInt8) (l : List ByteArray) : T.set k l k = some l := by simp [Tab.set]

/-- What the call owns, having an element, lies at a head. -/
theorem owns_form {w : World} {base : Nat} {e : TypeId} {size : Nat} {v : Value} {n : Nat} {us : List Value} (h : w.ownsRow base e size v n us) (hn : 0 < n) :
    ∃ g cap, v = .slice (some ⟨g, 0, none⟩) n cap ∧ ∀ j u, us[j]? = some u → w.cell? ⟨g, j, none⟩ = some u := by
  have h' := SlAt.of_owns h
  rcases h.2 with ⟨h1, h2⟩ | ⟨g, cap, cur, h1, h2, h3, h4, h5, h6, h7⟩
  · omega
  · refine ⟨g, cap, h1, fun j u hj => ?_⟩
    have hc := h.cells (g := g) (by rw [h1]; rfl) j u hj
    rw [addr_add, Nat.zero_add] at hc
    exact hc

set_option maxRecDepth 100000 in
set_option maxHeartbeats 1000000 in
theorem awake_any (w : World) (hr : Rdy w) : Calls Tryd.prog 6 #[] w fun e w' => e = .returned (.bool true) ∧ Below w.heap.size w w' := by
  go_enter Tryd.func6, Tryd.ntmps6
  go_wp2_with fail
  refine (new_nil _).mono ?_
  rintro e w1 ⟨rfl, hf, hb⟩
  have HF := Lib.hid hf
  have HB := Lib.hid hb
  have HR := Lib.hid hr
  clear hf hb hr
  go_wp2_with fail
  refine (add_any _ _ 0 tab0 ⟨#[120]⟩ ⟨#[97, 10, 98]⟩ _ HF.out (HR.out.below HB.out) (by decide) (by decide) (by decide) (by rw [lines_ab]; decide)).mono ?_
  rintro e w2 ⟨rfl, hf2, hg2⟩
  rw [lines_ab] at hf2
  have hb2 : Below w.heap.size w w2 := HB.out.grown hg2 HB.out.size (by simp)
  have hL2 : ((tab0.set [120] [⟨#[97]⟩, ⟨#[98]⟩]) (⟨#[120]⟩ : ByteArray).data.toList).getD [] = [⟨#[97]⟩, ⟨#[98]⟩] := rfl
  have hHx : ((tab0.set [120] [⟨#[97]⟩, ⟨#[98]⟩]) (⟨#[120]⟩ : ByteArray).data.toList).isSome = true := rfl
  have hHy : ((tab0.set [120] [⟨#[97]⟩, ⟨#[98]⟩]) (⟨#[121]⟩ : ByteArray).data.toList).isSome = false := rfl
  have HF2 : Hid (FilesAt w2 (w.heap.size + 1) w.heap.size (0 + 1) (tab0.set [120] [⟨#[97]⟩, ⟨#[98]⟩])) := hf2
  have HB2 := Lib.hid hb2
  have HL2 := Lib.hid hL2
  have HHX := Lib.hid hHx
  have HHY := Lib.hid hHy
  clear hf2 hb2 hg2 HF HB hL2 hHx hHy
  go_wp2_with fail
  refine (lines_any _ _ _ _ ⟨#[120]⟩ _ HF2.out (by decide) (by rw [HL2.out]; decide)).mono ?_
  rintro e w3 ⟨v3, rfl, ho3, hb3⟩
  rw [HL2.out] at ho3
  obtain ⟨g3, cap3, rfl, hc3⟩ := owns_form ho3 (by decide)
  have HF3 := Lib.hid (HF2.out.below hb3)
  have HB3 := Lib.hid (HB2.out.trans (hb3.mono HB2.out.size))
  clear HF2 HB2 ho3 hb3 hc3
  go_wp2_with fail
  refine (lines_any _ _ _ _ ⟨#[120]⟩ _ HF3.out (by decide) (by rw [HL2.out]; decide)).mono ?_
  rintro e w4 ⟨v4, rfl, ho4, hb4⟩
  rw [HL2.out] at ho4
  obtain ⟨g4, cap4, rfl, hc4⟩ := owns_form ho4 (by decide)
  have HF4 := Lib.hid (HF3.out.below hb4)
  have HB4 := Lib.hid (HB3.out.trans (hb4.mono HB3.out.size))
  have hc41 : w4.cell? ⟨g4, 1, none⟩ = some (.string ⟨#[98]⟩) := by have := hc4 1 (.string ⟨#[98]⟩) rfl; simpa using this
  clear HF3 HB3 ho4 hb4 hc4
  go_wp2_with fail
  refine (has_any _ _ _ _ ⟨#[120]⟩ _ HF4.out (by decide)).mono ?_
  rintro e w5 ⟨rfl, rfl⟩
  rw [HHX.out]
  go_wp2_with fail
  refine (has_any _ _ _ _ ⟨#[121]⟩ _ HF4.out (by decide)).mono ?_
  rintro e w5 ⟨rfl, rfl⟩
  rw [HHY.out]
  go_wp2_with fail
  refine (cut_any ⟨#[]⟩ _ (by decide) (HR.out.below HB4.out)).mono ?_
  rintro e w6 ⟨rfl, rfl⟩
  have HX : Hid ((lines ⟨#[]⟩).length = 1) := by rw [lines_none]; rfl
  rw [HX.out]
  go_wp2
  go_ret
  exact ⟨rfl, HB4.out.alloc HB4.out.size _⟩
end Go.Proofs.YtkbekdfgeiannaaDoor
