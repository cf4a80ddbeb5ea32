/-
  The walk of files.Copy; what few files hold; two tables beside each other.
-/
import Derived.Test.YtkbekdfgeiannaaDoorListWalk
namespace Go.Proofs.YtkbekdfgeiannaaDoor
open Go.RowKit Go.Maps

set_option maxHeartbeats 400000 in
theorem copy_any (F M n : Nat) (T : Tab) (w : World) (hf : FilesAt w F M n T) :
    Calls Tryd.prog 20 #[.pointer (some ⟨F, 0, none⟩)] w fun e w' => ∃ F' M', e = .returned (.pointer (some ⟨F', 0, none⟩)) ∧ w.heap.size ≤ F' ∧ w.heap.size ≤ M' ∧ FilesAt w' F' M' n T ∧ Below w.heap.size w w' := by
  obtain ⟨hc, D, hown, hhas, hat⟩ := hf
  have HOWN := Lib.hid hown
  have HHAS := Lib.hid hhas
  have HAT := Lib.hid hat
  clear hown hhas hat
  go_enter Tryd.func20, Tryd.ntmps20
  go_wp2_with (go_at_call 29; refine (clone_map M n D _ HOWN.out).mono ?_; rintro e w1 ⟨rfl, ho1, hb1⟩; have HO1 := Lib.hid ho1; have HB1 := Lib.hid hb1; clear ho1 hb1)
  go_ret
  have hb2 : Below w1.heap.size w1 (w1.alloc (.cells #[.map (some w.heap.size)] 55)) := (Below.refl _ _).alloc (Nat.le_refl _) _
  refine ⟨_, _, rfl, HB1.out.size, Nat.le_refl _, ⟨cell_boxed _ _ _, TabAt.below ⟨D, HO1.out, HHAS.out, fun k l hk => ?_⟩ hb2⟩, HB1.out.trans (hb2.mono HB1.out.size)⟩
  obtain ⟨v, hv, hs⟩ := HAT.out k l hk
  exact ⟨v, hv, hs.below HB1.out⟩

/-- No name has more lines. -/
def Lim (B : Nat) (T : Tab) : Prop := ∀ k l, T k = some l → l.length ≤ B

theorem Lim.set {B : Nat} {T : Tab} (h : Lim B T) (k : List UInt8) {l : List ByteArray} (hl : l.length ≤ B) : Lim B (T.set k l) := fun x y hx => by
  unfold Tab.set at hx
  split at hx
  · cases hx
    exact hl
  · exact h x y hx

theorem Lim.mono {B B' : Nat} {T : Tab} (h : Lim B T) (hB : B ≤ B') : Lim B' T := fun k l hk => Nat.le_trans (h k l hk) hB

theorem Lim.get {B : Nat} {T : Tab} (h : Lim B T) (k : List UInt8) : ((T k).getD []).length ≤ B := by
  cases hT : T k with
  | none => simp
  | some l => exact h k l hT

theorem lim_new {fl : Fl} (h : ∀ p ∈ fl, fewRow p = true) : Lim 3030 (newT fl) := by
  have key : ∀ (l : Fl) (T : Tab), (∀ p ∈ l, fewRow p = true) → Lim 3030 T → Lim 3030 (l.foldl (fun T p => T.set (nm p) (p.2.flatMap lines)) T) := by
    intro l
    induction l with
    | nil => intro T _ h; exact h
    | cons p r ih =>
      intro T hp hT
      refine ih _ (fun q hq => hp q (List.mem_cons_of_mem _ hq)) (hT.set _ ?_)
      obtain ⟨_, h2, h3⟩ := fewRow_iff.1 (hp p List.mem_cons_self)
      have := flat_le 100 p.2 h3
      omega
  exact key fl tab0 h (fun k l hk => by cases hk)

theorem FilesAt.lt {w : World} {F M n : Nat} {T : Tab} (h : FilesAt w F M n T) : M < w.heap.size := by
  obtain ⟨es, c, hm⟩ := h.map
  exact (Array.getElem?_eq_some_iff.1 hm).1

/-- Another table stays. -/
theorem FilesAt.other {w w' : World} {F M n F2 M2 n2 : Nat} {T T2 : Tab} (h : FilesAt w F M n T) (h2 : FilesAt w F2 M2 n2 T2) (hne : M ≠ M2) (hg : w.grownBy w' (some M2)) : FilesAt w' F M n T :=
  h.keeps (KeepsCells.of_turn hg h2.map) (hg.block M h.lt (by simpa using hne))

theorem few_parts {fl : Fl} (h : fewB fl = true) : (∀ p ∈ fl, fewRow p = true) ∧ fl.length ≤ 10 := by
  simpa [fewB] using h

theorem fs_of_own {b : Nat} {w : World} {v : Value} {vs : List (ByteArray × Value)} {fl : Fl} {e : TypeId} (h : RowsOwn b w vs fl) (ho : w.ownsRow b e 2 v fl.length (cellsF vs)) : FsAt w v fl := ⟨vs, h.are, SlAt.of_owns ho⟩
end Go.Proofs.YtkbekdfgeiannaaDoor
