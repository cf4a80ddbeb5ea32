/-
  The plain law of the lines of a text: cutting at each byte A, and joining again.
-/
import Derived.Lib.SplitLaws
import Derived.Lib.Split
namespace Go.Proofs.YtkbekdfgeiannaaDoor

/-- The lines of a text. -/
def cutL : List UInt8 → List (List UInt8)
  | [] => [[]]
  | c :: r => if c = 10 then [] :: cutL r else match cutL r with
    | h :: t => (c :: h) :: t
    | [] => [[c]]

theorem cutL_ne (l : List UInt8) : ∃ h t, cutL l = h :: t := by
  cases l with
  | nil => exact ⟨_, _, rfl⟩
  | cons c r =>
    unfold cutL
    split
    · exact ⟨_, _, rfl⟩
    · split <;> exact ⟨_, _, rfl⟩

/-- A text without a byte A is its own line. -/
theorem cutL_none : ∀ (l : List UInt8), (∀ c ∈ l, c ≠ 10) → cutL l = [l]
  | [], _ => rfl
  | c :: r, h => by
    have h1 := cutL_none r (fun x hx => h x (List.mem_cons_of_mem _ hx))
    have h2 : c ≠ 10 := h c List.mem_cons_self
    simp [cutL, h2, h1]

/-- What stands ahead of the first byte A is the first line. -/
theorem cutL_hit : ∀ (p r : List UInt8), (∀ c ∈ p, c ≠ 10) → cutL (p ++ 10 :: r) = p :: cutL r
  | [], r, _ => by simp [cutL]
  | c :: p, r, h => by
    have h1 := cutL_hit p r (fun x hx => h x (List.mem_cons_of_mem _ hx))
    have h2 : c ≠ 10 := h c List.mem_cons_self
    simp [cutL, h2, h1]

/-- Lines, with a byte A between. -/
def joinL : List (List UInt8) → List UInt8
  | [] => []
  | [a] => a
  | a :: b :: r => a ++ 10 :: joinL (b :: r)

theorem joinL_cutL : ∀ l : List UInt8, joinL (cutL l) = l
  | [] => rfl
  | c :: r => by
    have ih := joinL_cutL r
    obtain ⟨h, t, e⟩ := cutL_ne r
    rw [e] at ih
    by_cases hc : c = 10
    · subst hc
      simp [cutL, e, joinL, ih]
    · simp only [cutL, if_neg hc, e]
      cases t with
      | nil => simp only [joinL] at ih ⊢; rw [ih]
      | cons b t => simp only [joinL] at ih ⊢; rw [← ih]; rfl

theorem joinL_snoc : ∀ (a : List (List UInt8)) (x : List UInt8), joinL (a ++ [x]) = if a = [] then x else joinL a ++ 10 :: x
  | [], x => by simp [joinL]
  | [a], x => by simp [joinL]
  | a :: b :: r, x => by
    have ih := joinL_snoc (b :: r) x
    simp only [List.cons_append] at ih ⊢
    simp [joinL, ih]

/-! ### the library's own cut is this one -/
theorem index_ten : ∀ (l : List UInt8), (Lib.index l [10] = -1 ∧ (∀ c ∈ l, c ≠ 10)) ∨ ∃ p r, l = p ++ 10 :: r ∧ (∀ c ∈ p, c ≠ 10) ∧ Lib.index l [10] = p.length
  | [] => .inl ⟨rfl, by simp⟩
  | c :: r => by
    by_cases hc : c = 10
    · subst hc
      exact .inr ⟨[], r, rfl, by simp, by simp [Lib.index]⟩
    · rcases index_ten r with ⟨h1, h2⟩ | ⟨p, q, rfl, h2, h3⟩
      · refine .inl ⟨?_, ?_⟩
        · have : ¬ (10 : UInt8) = c := fun e => hc e.symm
          simp [Lib.index, this, h1]
        · intro x hx
          rcases List.mem_cons.1 hx with rfl | hx
          · exact hc
          · exact h2 x hx
      · refine .inr ⟨c :: p, q, rfl, ?_, ?_⟩
        · intro x hx
          rcases List.mem_cons.1 hx with rfl | hx
          · exact hc
          · exact h2 x hx
        · have : ¬ (10 : UInt8) = c := fun e => hc e.symm
          simp [Lib.index, this, h3]

theorem count_ten_hit (p r : List UInt8) (h : Lib.index (p ++ 10 :: r) [10] = p.length) : Lib.count (p ++ 10 :: r) [10] = Lib.count r [10] + 1 := by
  rw [Lib.count_hit (by simp) h]
  have e : (p ++ 10 :: r).drop (p.length + ([10] : List UInt8).length) = r := by
    rw [List.drop_append, List.drop_eq_nil_of_le (by simp)]
    simp
  rw [e, Nat.add_comm]

theorem splitK_cutL : ∀ (n : Nat) (l : List UInt8), l.length ≤ n → Lib.splitK [10] 0 (Lib.count l [10]) l = cutL l := by
  intro n
  induction n with
  | zero =>
    intro l hl
    have : l = [] := List.eq_nil_of_length_eq_zero (by omega)
    subst this
    rfl
  | succ n ih =>
    intro l hl
    rcases index_ten l with ⟨h1, h2⟩ | ⟨p, q, rfl, h2, h3⟩
    · rw [Lib.count_miss h1, cutL_none l h2]
      rfl
    · rw [count_ten_hit p q h3, cutL_hit p q h2, ← ih q (by simp at hl; omega)]
      have e : (p ++ 10 :: q).drop (p.length + ([10] : List UInt8).length) = q := by
        rw [List.drop_append, List.drop_eq_nil_of_le (by simp)]
        simp
      have hm : ¬ (Lib.index (p ++ 10 :: q) [10] == -1) = true := fun e => by have := beq_iff_eq.1 e; omega
      rw [Lib.splitK, if_neg hm, h3, Int.toNat_natCast, e]
      simp

/-- The pieces that strings.Split lays are the lines. -/
theorem splitB_cutL (s : ByteArray) : (Lib.splitB ⟨#[10]⟩ 0 (Lib.countB s ⟨#[10]⟩) s).map (·.data.toList) = cutL s.data.toList := by
  rw [Lib.splitB_data]
  exact splitK_cutL _ _ (Nat.le_refl _)

/-- The pieces that the library lays. -/
def lines (s : ByteArray) : List ByteArray := Lib.splitB ⟨#[10]⟩ 0 (Lib.countB s ⟨#[10]⟩) s

theorem lines_cut (s : ByteArray) : (lines s).map (·.data.toList) = cutL s.data.toList := splitB_cutL s

theorem data_inj {a b : ByteArray} (h : a.data.toList = b.data.toList) : a = b := by
  cases a; cases b
  simp only [ByteArray.mk.injEq]
  exact Array.toList_inj.1 h

theorem map_data_inj : ∀ {l l' : List ByteArray}, (l.map fun b => b.data.toList) = (l'.map fun b => b.data.toList) → l = l'
  | [], [], _ => rfl
  | [], _ :: _, h => by simp at h
  | _ :: _, [], h => by simp at h
  | a :: l, b :: l', h => by
    simp only [List.map_cons, List.cons.injEq] at h
    rw [data_inj h.1, map_data_inj h.2]

theorem lines_eq {s : ByteArray} {l : List ByteArray} (h : (l.map fun b => b.data.toList) = cutL s.data.toList) : l = lines s :=
  map_data_inj (h.trans (lines_cut s).symm)

theorem lines_length (s : ByteArray) : (lines s).length = Lib.countB s ⟨#[10]⟩ + 1 := Lib.splitB_all _ (by decide) 0 _ s rfl

end Go.Proofs.YtkbekdfgeiannaaDoor
