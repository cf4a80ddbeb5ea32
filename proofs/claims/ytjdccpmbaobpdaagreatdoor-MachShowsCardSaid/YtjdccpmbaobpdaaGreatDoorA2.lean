/-
  MachShows, the plain law: of any text it answers true.
-/
import Derived.Test.YtjdccpmbaobpdaaGreatDoorGD
import Derived.Test.YtjdccpmbaobpdaaGreatDoorMG
namespace Go.Proofs.YtjdccpmbaobpdaaGreatDoor
open Go.RowKit

/-- A byte, shown. -/
def showB (b : UInt8) : List UInt8 :=
  if b.toNat = 92 then [92, 92] else if 32 ≤ b.toNat ∧ b.toNat ≤ 126 then [b] else if 7 ≤ b.toNat ∧ b.toNat ≤ 13 then [92, ([97, 98, 116, 110, 118, 102, 114] : List UInt8).getD (b.toNat - 7) 0]
  else [92, UInt8.ofNat (48 + b.toNat / 64), UInt8.ofNat (48 + b.toNat / 8 % 8), UInt8.ofNat (48 + b.toNat % 8)]
theorem showB_len (b : UInt8) : (showB b).length ≤ 4 := by unfold showB; split <;> (try split) <;> (try split) <;> simp
def shown (l : List UInt8) : List UInt8 := l.flatMap showB
theorem shown_len (l : List UInt8) : (shown l).length ≤ 4 * l.length := by
  induction l with
  | nil => simp [shown]
  | cons a r ih =>
    have := showB_len a
    simp only [shown, List.flatMap_cons, List.length_append, List.length_cons] at *
    omega
theorem shown_next (l : List UInt8) (i : Nat) (h : i < l.length) : shown (l.take (i + 1)) = shown (l.take i) ++ showB l[i] := by
  unfold shown
  rw [take_next l i h, List.flatMap_append]
  simp
theorem showB_plain (b : UInt8) : ∀ c ∈ showB b, 32 ≤ c.toNat ∧ c.toNat ≤ 126 := by
  have : ∀ n : Nat, n < 256 → ∀ c ∈ showB (UInt8.ofNat n), 32 ≤ c.toNat ∧ c.toNat ≤ 126 := by decide +kernel
  have h := this b.toNat (UInt8.toNat_lt b)
  rwa [UInt8.ofNat_toNat] at h
theorem shown_plain (l : List UInt8) : ∀ c ∈ shown l, 32 ≤ c.toNat ∧ c.toNat ≤ 126 := fun c hc => by
  obtain ⟨b, _, h⟩ := List.mem_flatMap.1 hc
  exact showB_plain b c h

theorem idxS_at (l : List UInt8) (i : Nat) (h : i < l.length) : G.idxS l (i : Int) = some ((l[i].toNat : Nat) : Int) := by
  unfold G.idxS
  rw [if_pos (by omega), Int.toNat_natCast, List.getElem?_eq_getElem h]
  rfl
theorem subS_one (l : List UInt8) (i : Nat) (h : i < l.length) : G.subS l (i : Int) ((i + 1 : Nat) : Int) = some [l[i]] := by
  unfold G.subS
  rw [if_pos ⟨by omega, by omega, by omega⟩]
  simp only [Int.toNat_natCast]
  rw [List.drop_take, show i + 1 - i = 1 by omega, List.drop_eq_getElem_cons h]
  rfl
theorem letter_idx : ∀ n : Nat, n ≤ 13 → 7 ≤ n → G.idxS [97, 98, 116, 110, 118, 102, 114] (IntKind.u8.wrap ((n : Int) - 7)) = some (((([97, 98, 116, 110, 118, 102, 114] : List UInt8).getD (n - 7) 0).toNat : Nat) : Int) := by decide +kernel
theorem letter_sub : ∀ n : Nat, n ≤ 13 → 7 ≤ n → G.subS [97, 98, 116, 110, 118, 102, 114] (IntKind.u8.wrap ((n : Int) - 7)) (IntKind.u8.wrap ((n : Int) - 6)) = some [([97, 98, 116, 110, 118, 102, 114] : List UInt8).getD (n - 7) 0] := by decide +kernel
theorem fmt_at : ∀ n : Nat, n < 256 → strconv_FormatInt (G.addI (IntKind.i64.wrap (n : Int)) 512) 8 = some [49, UInt8.ofNat (48 + n / 64), UInt8.ofNat (48 + n / 8 % 8), UInt8.ofNat (48 + n % 8)] := by
  have : ∀ n : Nat, n < 256 → G.fmt8 (G.addI (IntKind.i64.wrap (n : Int)) 512) 8 = some [49, UInt8.ofNat (48 + n / 64), UInt8.ofNat (48 + n / 8 % 8), UInt8.ofNat (48 + n % 8)] := by decide +kernel
  exact this
theorem digit_sub : ∀ d : Nat, d ≤ 9 → G.subS [48, 49, 50, 51, 52, 53, 54, 55, 56, 57] (d : Int) (G.addI (d : Int) 1) = some [UInt8.ofNat (48 + d)] := by decide +kernel
theorem digits_at (d : Nat) (h : d ≤ 9) : ref06_Digits (d : Int) = some [UInt8.ofNat (48 + d)] := by
  unfold ref06_Digits
  have e : Loop ref06_Digits_l0 ((d : Int), []) = some (.brk ((d : Int), [])) := Loop_some.2 ⟨1, by
    unfold loopN ref06_Digits_l0
    simp only
    rw [if_neg (by omega)]⟩
  rw [e]
  simp only [Option.bind_some, digit_sub d h]
  rfl
theorem oct1 : ∀ n : Nat, n < 256 → IntKind.i64.wrap (IntKind.u8.wrap (Int.tdiv (n : Int) 64)) = ((n / 64 : Nat) : Int) := by decide +kernel
theorem oct2 : ∀ n : Nat, n < 256 → IntKind.i64.wrap (Int.tmod (IntKind.u8.wrap (Int.tdiv (n : Int) 8)) 8) = ((n / 8 % 8 : Nat) : Int) := by decide +kernel
theorem oct3 : ∀ n : Nat, n < 256 → IntKind.i64.wrap (Int.tmod (n : Int) 8) = ((n % 8 : Nat) : Int) := by decide +kernel
theorem appB_at (l : List UInt8) (b : UInt8) (h : l.length + 1 ≤ 1000000000) : G.appB l ((b.toNat : Nat) : Int) = some (l ++ [b]) := by
  unfold G.appB
  have := UInt8.toNat_lt b
  rw [if_pos ⟨by omega, by omega, h⟩, Int.toNat_natCast, UInt8.ofNat_toNat]

theorem mach_step (l acc : List UInt8) (i : Nat) (hi : i < l.length) (hl : l.length ≤ 1000) (ha : acc.length ≤ 100000) : mach_Shown_l0 l (l.length : Int) ((i : Int), acc) = some (.nxt (((i + 1 : Nat) : Int), acc ++ showB l[i])) := by
  unfold mach_Shown_l0
  simp only
  rw [if_pos (by omega), idxS_at l i hi, G.addI_nat (by omega)]
  simp only [Option.bind_some]
  generalize l[i] = b
  have hb := UInt8.toNat_lt b
  by_cases h1 : b.toNat = 92
  · rw [if_pos (by omega), G.app_eq (by simp; omega)]
    unfold showB
    rw [if_pos h1]
    rfl
  · rw [if_neg (by omega)]
    by_cases h2 : 32 ≤ b.toNat ∧ b.toNat ≤ 126
    · rw [if_pos (by simp only [Bool.and_eq_true, decide_eq_true_eq]; omega), appB_at acc b (by omega)]
      unfold showB
      rw [if_neg h1, if_pos h2]
      rfl
    · rw [if_neg (by simp only [Bool.and_eq_true, decide_eq_true_eq]; omega)]
      by_cases h3 : 7 ≤ b.toNat ∧ b.toNat ≤ 13
      · have e := appB_at acc 92 (by omega)
        rw [show ((UInt8.toNat 92 : Nat) : Int) = 92 from rfl] at e
        rw [if_pos (by simp only [Bool.and_eq_true, decide_eq_true_eq]; omega), e]
        simp only [Option.bind_some]
        rw [letter_idx b.toNat h3.2 h3.1]
        simp only [Option.bind_some]
        rw [appB_at (acc ++ [92]) _ (by simp; omega)]
        unfold showB
        rw [if_neg h1, if_neg h2, if_pos h3]
        simp
      · rw [if_neg (by simp only [Bool.and_eq_true, decide_eq_true_eq]; omega), fmt_at b.toNat hb]
        simp only [Option.bind_some]
        unfold showB
        rw [if_neg h1, if_neg h2, if_neg h3]
        generalize UInt8.ofNat (48 + b.toNat / 64) = x
        generalize UInt8.ofNat (48 + b.toNat / 8 % 8) = y
        generalize UInt8.ofNat (48 + b.toNat % 8) = z
        have e1 : G.subS [49, x, y, z] 1 (([49, x, y, z] : List UInt8).length : Int) = some [x, y, z] := by
          unfold G.subS
          rw [if_pos ⟨by omega, by simp, by simp⟩]
          rfl
        rw [e1]
        simp only [Option.bind_some]
        rw [G.catS_eq (by simp)]
        simp only [Option.bind_some]
        rw [G.app_eq (by simp; omega)]
        rfl
theorem mach_Shown_eq (l : List UInt8) (hl : l.length ≤ 1000) : mach_Shown l = some (shown l) := by
  unfold mach_Shown
  obtain ⟨o, h1, h2⟩ := Loop_for (body := mach_Shown_l0 l (l.length : Int)) l.length (fun i s => s = ((i : Int), shown (l.take i))) (fun o => o = .brk (shown l)) (s := ((0 : Int), []))
    (by
      rintro i _ hi rfl
      have := shown_len (l.take i)
      have h4 : (l.take i).length ≤ l.length := by rw [List.length_take]; omega
      exact .inl ⟨_, mach_step l _ i hi hl (by omega), by rw [shown_next l i hi]⟩)
    (by
      rintro _ rfl
      refine .inl ⟨shown l, ?_, rfl⟩
      unfold mach_Shown_l0
      simp only
      rw [if_neg (by omega), List.take_length]) rfl
  subst h2
  rw [h1]
  rfl
theorem ref_step (l acc : List UInt8) (i : Nat) (hi : i < l.length) (hl : l.length ≤ 1000) (ha : acc.length ≤ 100000) : ref19_Shown_l0 l (l.length : Int) (acc, (i : Int)) = some (.nxt (acc ++ showB l[i], ((i + 1 : Nat) : Int))) := by
  unfold ref19_Shown_l0
  simp only
  rw [if_pos (by omega), idxS_at l i hi, G.addI_nat (by omega), subS_one l i hi]
  simp only [Option.bind_some]
  generalize l[i] = b
  have hb := UInt8.toNat_lt b
  by_cases h1 : b.toNat = 92
  · rw [if_pos (by omega), G.catS_eq (by simp; omega)]
    unfold showB
    rw [if_pos h1]
    rfl
  · rw [if_neg (by omega)]
    by_cases h2 : 32 ≤ b.toNat ∧ b.toNat ≤ 126
    · rw [if_pos (by simp only [Bool.and_eq_true, decide_eq_true_eq]; omega), G.catS_eq (by simp; omega)]
      unfold showB
      rw [if_neg h1, if_pos h2]
      rfl
    · rw [if_neg (by simp only [Bool.and_eq_true, decide_eq_true_eq]; omega)]
      by_cases h3 : 7 ≤ b.toNat ∧ b.toNat ≤ 13
      · rw [if_pos (by simp only [Bool.and_eq_true, decide_eq_true_eq]; omega), G.catS_eq (by simp; omega)]
        simp only [Option.bind_some]
        rw [letter_sub b.toNat h3.2 h3.1]
        simp only [Option.bind_some]
        rw [G.catS_eq (by simp; omega)]
        unfold showB
        rw [if_neg h1, if_neg h2, if_pos h3]
        simp
      · rw [if_neg (by simp only [Bool.and_eq_true, decide_eq_true_eq]; omega), G.catS_eq (by simp; omega), oct1 _ hb, oct2 _ hb, oct3 _ hb, digits_at _ (by omega), digits_at _ (by omega), digits_at _ (by omega)]
        simp only [Option.bind_some]
        unfold showB
        rw [if_neg h1, if_neg h2, if_neg h3]
        generalize UInt8.ofNat (48 + b.toNat / 64) = x
        generalize UInt8.ofNat (48 + b.toNat / 8 % 8) = y
        generalize UInt8.ofNat (48 + b.toNat % 8) = z
        rw [G.catS_eq (by simp; omega)]
        simp only [Option.bind_some]
        rw [G.catS_eq (by simp; omega)]
        simp only [Option.bind_some]
        rw [G.catS_eq (by simp; omega)]
        simp
theorem ref_Shown_eq (l : List UInt8) (hl : l.length ≤ 1000) : ref19_Shown l = some (shown l) := by
  unfold ref19_Shown
  obtain ⟨o, h1, h2⟩ := Loop_for (body := ref19_Shown_l0 l (l.length : Int)) l.length (fun i s => s = (shown (l.take i), (i : Int))) (fun o => o = .brk (shown l)) (s := ([], (0 : Int)))
    (by
      rintro i _ hi rfl
      have := shown_len (l.take i)
      have h4 : (l.take i).length ≤ l.length := by rw [List.length_take]; omega
      exact .inl ⟨_, ref_step l _ i hi hl (by omega), by rw [shown_next l i hi]⟩)
    (by
      rintro _ rfl
      refine .inl ⟨shown l, ?_, rfl⟩
      unfold ref19_Shown_l0
      simp only
      rw [if_neg (by omega), List.take_length]) rfl
  subst h2
  rw [h1]
  rfl
theorem plain_loop (l t : List UInt8) (ht : ∀ c ∈ t, 32 ≤ c.toNat ∧ c.toNat ≤ 126) (hl : t.length ≤ 100000) : Loop (law19_MachShows_l0 l t (t.length : Int)) 0 = some (.brk ()) := by
  obtain ⟨o, h1, h2⟩ := Loop_for (body := law19_MachShows_l0 l t (t.length : Int)) t.length (fun i s => s = (i : Int)) (fun o => o = .brk ()) (s := (0 : Int))
    (by
      rintro i _ hi rfl
      refine .inl ⟨_, ?_, rfl⟩
      have hc := ht t[i] (List.getElem_mem hi)
      unfold law19_MachShows_l0
      rw [if_pos (by omega), idxS_at t i hi, G.addI_nat (by omega)]
      simp only [Option.bind_some]
      have e : (!(decide (((t[i].toNat : Nat) : Int) < 32))) = true := by simp only [Bool.not_eq_true', decide_eq_false_iff_not]; omega
      rw [e, G.when_true]
      simp only [Option.bind_some]
      rw [if_neg (by simp only [Bool.or_eq_true, decide_eq_true_eq]; omega)])
    (by
      rintro _ rfl
      refine .inl ⟨(), ?_, rfl⟩
      unfold law19_MachShows_l0
      rw [if_neg (by omega)]) rfl
  subst h2
  exact h1
theorem machShows_eq (l : List UInt8) : law19_MachShows l = some true := by
  unfold law19_MachShows law19_awake
  simp only [Option.bind_some]
  by_cases hl : l.length ≤ 300
  · have hs := shown_len l
    rw [if_neg (by simp only [Bool.not_true, Bool.false_or, decide_eq_true_eq]; omega), mach_Shown_eq l (by omega)]
    simp only [Option.bind_some]
    rw [plain_loop l (shown l) (shown_plain l) (by omega), ref_Shown_eq l (by omega)]
    simp
  · rw [if_pos (by simp only [Bool.not_true, Bool.false_or, decide_eq_true_eq]; omega)]
end Go.Proofs.YtjdccpmbaobpdaaGreatDoor
