/-
  MachSames, the plain law: of any two states it answers true.
-/
import Derived.Test.YtaiohgabpbgkdaaGreatDoorGD
import Derived.Test.YtaiohgabpbgkdaaGreatDoorME
namespace Go.Proofs.YtaiohgabpbgkdaaGreatDoor
open Go.RowKit

theorem EqualInt_eq (xs ys : List Int) (h : xs.length ≤ 1000000) : ∃ b, slices_Equal_int_int xs ys = some b ∧ (b = true ↔ xs = ys) := by
  unfold slices_Equal_int_int
  by_cases hl : (xs.length : Int) ≠ ys.length
  · rw [if_pos hl]
    exact ⟨false, rfl, by simp; intro e; exact hl (by rw [e])⟩
  · rw [if_neg hl]
    have he : xs.length = ys.length := by omega
    obtain ⟨o, h1, h2⟩ := Loop_for (body := slices_Equal_int_int_l0 xs ys (xs.length : Int)) xs.length (fun i s => s = (i : Int) ∧ xs.take i = ys.take i) (fun o => (o = .brk () ∧ xs = ys) ∨ (o = .ret false ∧ xs ≠ ys)) (s := 0)
      (by
        rintro i _ hi ⟨rfl, ht⟩
        unfold slices_Equal_int_int_l0
        rw [if_pos (by omega), G.idx_lt xs i hi, G.idx_lt ys i (he ▸ hi), G.addI_nat (by omega)]
        simp only [Option.bind_some]
        by_cases hx : xs[i] = ys[i]'(he ▸ hi)
        · rw [if_neg (by simpa using hx)]
          exact .inl ⟨_, rfl, rfl, (take_eq_next xs ys i hi (he ▸ hi)).2 ⟨ht, hx⟩⟩
        · rw [if_pos hx]
          refine .inr (.inr ⟨_, rfl, .inr ⟨rfl, fun e => hx ?_⟩⟩)
          subst e
          rfl)
      (by
        rintro _ ⟨rfl, ht⟩
        unfold slices_Equal_int_int_l0
        rw [if_neg (by omega)]
        rw [List.take_length, he, List.take_length] at ht
        exact .inl ⟨(), rfl, .inl ⟨rfl, ht⟩⟩) ⟨rfl, rfl⟩
    rw [h1]
    rcases h2 with ⟨rfl, h2⟩ | ⟨rfl, h2⟩
    · exact ⟨true, rfl, by simpa using h2⟩
    · exact ⟨false, rfl, by simpa using h2⟩

theorem item_ne {α : Type} {f g : α → Bool} {t u : α → List UInt8} {x y : α} : (((decide (f x = g y) && (decide (t x = u y) && true)) != true) = true) ↔ ¬ (f x = g y ∧ t x = u y) := by
  by_cases h1 : f x = g y <;> by_cases h2 : t x = u y <;> simp [h1, h2]

theorem EqualItem_eq (xs ys : List D.mach_Item) (h : xs.length ≤ 1000000) : ∃ b, slices_Equal_mach_Item_mach_Item xs ys = some b ∧ (b = true ↔ xs = ys) := by
  unfold slices_Equal_mach_Item_mach_Item
  by_cases hl : (xs.length : Int) ≠ ys.length
  · rw [if_pos hl]
    exact ⟨false, rfl, by simp; intro e; exact hl (by rw [e])⟩
  · rw [if_neg hl]
    have he : xs.length = ys.length := by omega
    obtain ⟨o, h1, h2⟩ := Loop_for (body := slices_Equal_mach_Item_mach_Item_l0 xs ys (xs.length : Int)) xs.length (fun i s => s = (i : Int) ∧ xs.take i = ys.take i) (fun o => (o = .brk () ∧ xs = ys) ∨ (o = .ret false ∧ xs ≠ ys)) (s := 0)
      (by
        rintro i _ hi ⟨rfl, ht⟩
        unfold slices_Equal_mach_Item_mach_Item_l0
        rw [if_pos (by omega), G.idx_lt xs i hi, G.idx_lt ys i (he ▸ hi), G.addI_nat (by omega)]
        simp only [Option.bind_some]
        by_cases hx : (xs[i]).File = (ys[i]'(he ▸ hi)).File ∧ (xs[i]).Text = (ys[i]'(he ▸ hi)).Text
        · rw [if_neg (fun e => item_ne.1 e hx)]
          refine .inl ⟨_, rfl, rfl, (take_eq_next xs ys i hi (he ▸ hi)).2 ⟨ht, ?_⟩⟩
          generalize xs[i] = x at hx
          generalize ys[i]'(he ▸ hi) = y at hx
          obtain ⟨a, b⟩ := x
          obtain ⟨c, d⟩ := y
          simp at hx
          rw [hx.1, hx.2]
        · rw [if_pos (item_ne.2 hx)]
          refine .inr (.inr ⟨_, rfl, .inr ⟨rfl, fun e => hx ?_⟩⟩)
          subst e
          exact ⟨rfl, rfl⟩)
      (by
        rintro _ ⟨rfl, ht⟩
        unfold slices_Equal_mach_Item_mach_Item_l0
        rw [if_neg (by omega)]
        rw [List.take_length, he, List.take_length] at ht
        exact .inl ⟨(), rfl, .inl ⟨rfl, ht⟩⟩) ⟨rfl, rfl⟩
    rw [h1]
    rcases h2 with ⟨rfl, h2⟩ | ⟨rfl, h2⟩
    · exact ⟨true, rfl, by simpa using h2⟩
    · exact ⟨false, rfl, by simpa using h2⟩

theorem machSame_eq (x y : D.mach_State) (h : x.Ranges.length ≤ 1000000) (h' : x.Queue.length ≤ 1000000) : ∃ b, mach_Same x y = some b ∧ (b = true ↔ x = y) := by
  obtain ⟨b1, e1, k1⟩ := EqualInt_eq x.Ranges y.Ranges h
  obtain ⟨b2, e2, k2⟩ := EqualItem_eq x.Queue y.Queue h'
  unfold mach_Same
  rw [e1, e2]
  have hxy : x = y ↔ (x.Op = y.Op ∧ x.Pattern = y.Pattern ∧ x.Hold = y.Hold ∧ x.Flag = y.Flag ∧ x.Line = y.Line ∧ x.Ranges = y.Ranges ∧ x.Queue = y.Queue ∧ x.Done = y.Done) := by
    obtain ⟨⟩ := x
    obtain ⟨⟩ := y
    simp
  rw [hxy, ← k1, ← k2]
  by_cases a1 : x.Op = y.Op <;> by_cases a2 : x.Pattern = y.Pattern <;> by_cases a3 : x.Hold = y.Hold <;> by_cases a4 : x.Flag = y.Flag <;> by_cases a5 : x.Line = y.Line <;> by_cases a6 : x.Done = y.Done <;> simp [a1, a2, a3, a4, a5, a6, G.when_true, G.when_false]
  cases b1 <;> simp [G.when_true, G.when_false]

theorem refSame_eq (x y : D.ref19_S) (h : x.Ranges.length ≤ 1000000) (h' : x.Queue.length ≤ 1000000) : ∃ b, ref19_Same x y = some b ∧ (b = true ↔ x = y) := by
  have hxy : x = y ↔ (x.Op = y.Op ∧ x.Pattern = y.Pattern ∧ x.Hold = y.Hold ∧ x.Flag = y.Flag ∧ x.Line = y.Line ∧ x.Ranges = y.Ranges ∧ x.Queue = y.Queue ∧ x.Done = y.Done) := by
    obtain ⟨⟩ := x
    obtain ⟨⟩ := y
    simp
  unfold ref19_Same
  split
  · rename_i hc
    refine ⟨false, rfl, ?_⟩
    rw [hxy]
    simp only [Bool.false_eq_true, false_iff]
    rintro ⟨a1, a2, a3, a4, a5, a6, a7, a8⟩
    rw [a1, a2, a3, a4, a5, a6, a7, a8] at hc
    simp at hc
  · rename_i hc
    simp at hc
    obtain ⟨⟨⟨⟨⟨⟨⟨a1, a2⟩, a3⟩, a4⟩, a5⟩, a6⟩, a7⟩, a8⟩ := hc
    have he : x.Ranges.length = y.Ranges.length := by omega
    have he2 : x.Queue.length = y.Queue.length := by omega
    obtain ⟨o, h1, h2⟩ := Loop_for (body := ref19_Same_l0 (x.Ranges.length : Int) x y) x.Ranges.length (fun i s => s = (i : Int) ∧ x.Ranges.take i = y.Ranges.take i) (fun o => (o = .brk () ∧ x.Ranges = y.Ranges) ∨ (o = .ret false ∧ x.Ranges ≠ y.Ranges)) (s := 0)
      (by
        rintro i _ hi ⟨rfl, ht⟩
        unfold ref19_Same_l0
        rw [if_pos (by omega), G.idx_lt x.Ranges i hi, G.idx_lt y.Ranges i (he ▸ hi), G.addI_nat (by omega)]
        simp only [Option.bind_some]
        by_cases hx : x.Ranges[i] = y.Ranges[i]'(he ▸ hi)
        · rw [if_neg (by simpa using hx)]
          exact .inl ⟨_, rfl, rfl, (take_eq_next _ _ i hi (he ▸ hi)).2 ⟨ht, hx⟩⟩
        · rw [if_pos hx]
          refine .inr (.inr ⟨_, rfl, .inr ⟨rfl, fun e => hx ?_⟩⟩)
          simp only [e])
      (by
        rintro _ ⟨rfl, ht⟩
        unfold ref19_Same_l0
        rw [if_neg (by omega)]
        rw [List.take_length, he, List.take_length] at ht
        exact .inl ⟨(), rfl, .inl ⟨rfl, ht⟩⟩) ⟨rfl, rfl⟩
    rw [h1]
    rcases h2 with ⟨rfl, h2⟩ | ⟨rfl, h2⟩
    case inr =>
      refine ⟨false, rfl, ?_⟩
      rw [hxy]
      simp only [Bool.false_eq_true, false_iff]
      exact fun e => h2 e.2.2.2.2.2.1
    obtain ⟨o, h3, h4⟩ := Loop_for (body := ref19_Same_l1 (x.Queue.length : Int) x y) x.Queue.length (fun i s => s = (i : Int) ∧ x.Queue.take i = y.Queue.take i) (fun o => (o = .brk () ∧ x.Queue = y.Queue) ∨ (o = .ret false ∧ x.Queue ≠ y.Queue)) (s := 0)
      (by
        rintro i _ hi ⟨rfl, ht⟩
        unfold ref19_Same_l1
        rw [if_pos (by omega), G.idx_lt x.Queue i hi, G.idx_lt y.Queue i (he2 ▸ hi), G.addI_nat (by omega)]
        simp only [Option.bind_some]
        by_cases hx : (x.Queue[i]).File = (y.Queue[i]'(he2 ▸ hi)).File ∧ (x.Queue[i]).Text = (y.Queue[i]'(he2 ▸ hi)).Text
        · rw [if_neg (fun e => item_ne.1 e hx)]
          refine .inl ⟨_, rfl, rfl, (take_eq_next _ _ i hi (he2 ▸ hi)).2 ⟨ht, ?_⟩⟩
          generalize x.Queue[i] = u at hx
          generalize y.Queue[i]'(he2 ▸ hi) = v at hx
          obtain ⟨a, b⟩ := u
          obtain ⟨c, d⟩ := v
          simp at hx
          rw [hx.1, hx.2]
        · rw [if_pos (item_ne.2 hx)]
          refine .inr (.inr ⟨_, rfl, .inr ⟨rfl, fun e => hx ?_⟩⟩)
          simp only [e, and_self])
      (by
        rintro _ ⟨rfl, ht⟩
        unfold ref19_Same_l1
        rw [if_neg (by omega)]
        rw [List.take_length, he2, List.take_length] at ht
        exact .inl ⟨(), rfl, .inl ⟨rfl, ht⟩⟩) ⟨rfl, rfl⟩
    simp only [Option.bind_some]
    rw [h3]
    rcases h4 with ⟨rfl, h4⟩ | ⟨rfl, h4⟩
    · exact ⟨true, rfl, by rw [hxy]; simp [a1, a2, a3, a4, a5, a6, h2, h4]⟩
    · refine ⟨false, rfl, ?_⟩
      rw [hxy]
      simp only [Bool.false_eq_true, false_iff]
      exact fun e => h4 e.2.2.2.2.2.2.1

def toItem (x : D.ref19_I) : D.mach_Item := ⟨x.File, x.Text⟩
def toState (x : D.ref19_S) : D.mach_State := ⟨x.Op, x.Pattern, x.Hold, x.Flag, x.Line, x.Ranges, x.Queue.map toItem, x.Done⟩
theorem stated_eq (x : D.ref19_S) (h : x.Ranges.length ≤ 1000000) (h' : x.Queue.length ≤ 1000000) : law19_stated x = some (toState x) := by
  unfold law19_stated
  rw [G.app_eq (by simp; omega)]
  simp only [Option.bind_some, List.nil_append]
  generalize hZ : (D.mach_State.mk 0 [] [] false 0 [] [] false) = Z
  obtain ⟨o, h1, h2⟩ := Loop_for (body := law19_stated_l0 x.Queue (x.Queue.length : Int) Z) x.Queue.length (fun i s => s = ((i : Int), (⟨x.Op, x.Pattern, x.Hold, x.Flag, x.Line, x.Ranges, (x.Queue.take i).map toItem, x.Done⟩ : D.mach_State))) (fun o => o = .brk (toState x)) (s := (0, ⟨x.Op, x.Pattern, x.Hold, x.Flag, x.Line, x.Ranges, [], x.Done⟩))
    (by
      rintro i _ hi rfl
      unfold law19_stated_l0
      simp only
      rw [if_pos (by omega), G.idx_lt x.Queue i hi, G.addI_nat (by omega)]
      simp only [Option.bind_some]
      rw [G.app_eq (by simp; omega)]
      refine .inl ⟨_, rfl, ?_⟩
      rw [take_next x.Queue i hi, List.map_append]
      rfl)
    (by
      rintro _ rfl
      unfold law19_stated_l0
      simp only
      rw [if_neg (by omega)]
      refine .inl ⟨_, rfl, ?_⟩
      rw [List.take_length]
      rfl) rfl
  subst h2
  rw [h1]
  rfl

theorem map_toItem_inj : ∀ (a b : List D.ref19_I), a.map toItem = b.map toItem → a = b
  | [], [], _ => rfl
  | [], _ :: _, h => by cases h
  | _ :: _, [], h => by cases h
  | ⟨f, t⟩ :: r, ⟨g, u⟩ :: s, h => by
    simp only [List.map_cons, List.cons.injEq, toItem, D.mach_Item.mk.injEq] at h
    rw [h.1.1, h.1.2, map_toItem_inj r s h.2]
theorem toState_inj {a b : D.ref19_S} (h : toState a = toState b) : a = b := by
  obtain ⟨a1, a2, a3, a4, a5, a6, a7, a8⟩ := a
  obtain ⟨b1, b2, b3, b4, b5, b6, b7, b8⟩ := b
  simp only [toState, D.mach_State.mk.injEq] at h
  obtain ⟨rfl, rfl, rfl, rfl, rfl, rfl, h7, rfl⟩ := h
  rw [map_toItem_inj _ _ h7]

/-- Whether any two states are the same is told part by part. -/
theorem machSames_eq (a b : D.ref19_S) : law19_MachSames a b = some true := by
  unfold law19_MachSames
  simp only [law19_awake, Option.bind_some, Bool.not_true, Bool.false_or]
  split
  · rfl
  rename_i hc
  simp at hc
  obtain ⟨⟨⟨c1, c2⟩, c3⟩, c4⟩ := hc
  have e1 := stated_eq a (by omega) (by omega)
  have e2 := stated_eq b (by omega) (by omega)
  have hq : (toState a).Queue.length ≤ 1000000 := by show (a.Queue.map toItem).length ≤ _; rw [List.length_map]; omega
  have hr : (toState a).Ranges.length ≤ 1000000 := by show a.Ranges.length ≤ _; omega
  obtain ⟨x, e3, k3⟩ := machSame_eq (toState a) (toState b) hr hq
  obtain ⟨y, e4, k4⟩ := refSame_eq a b (by omega) (by omega)
  obtain ⟨z, e5, k5⟩ := machSame_eq (toState a) (toState a) hr hq
  have hz : z = true := k5.2 rfl
  have hxy : x = y := by
    have : x = true ↔ y = true := by rw [k3, k4]; exact ⟨toState_inj, fun e => by rw [e]⟩
    cases x <;> cases y <;> simp_all
  subst hxy hz
  rw [e1, e2]
  simp only [Option.bind_some]
  rw [e3, e4]
  simp [G.when_true, e5]
end Go.Proofs.YtaiohgabpbgkdaaGreatDoor
