/-
  The walk of files.New: whatever few files it is handed, the table holds them.
-/
import Derived.Test.YtkbekdfgeiannaaDoorFew
import Derived.Test.YtkbekdfgeiannaaDoorAwake17
namespace Go.Proofs.YtkbekdfgeiannaaDoor
open Go.RowKit Go.Maps

theorem lines_le (s : ByteArray) : (lines s).length ≤ s.size + 1 := by
  rw [lines_length]
  have := Lib.countB_le ⟨#[10]⟩ (by decide) s.size s (Nat.le_refl _)
  omega

theorem flat_le (B : Nat) : ∀ ls : List ByteArray, (∀ s ∈ ls, s.size ≤ B) → (ls.flatMap lines).length ≤ ls.length * (B + 1)
  | [], _ => by simp
  | s :: r, h => by
    have h1 := flat_le B r fun x hx => h x (List.mem_cons_of_mem _ hx)
    have h2 := lines_le s
    have h3 := h s List.mem_cons_self
    simp only [List.flatMap_cons, List.length_append, List.length_cons, Nat.add_mul]
    omega

theorem flat_take_le {ls : List ByteArray} (B m : Nat) (h : ∀ s ∈ ls, s.size ≤ B) (hm : m ≤ ls.length) : ((ls.take m).flatMap lines).length ≤ m * (B + 1) := by
  have := flat_le B (ls.take m) fun s hs => h s (List.mem_of_mem_take hs)
  rwa [List.length_take, Nat.min_eq_left hm] at this

theorem flat_take_succ {ls : List ByteArray} {m : Nat} {s : ByteArray} (h : ls[m]? = some s) : (ls.take (m + 1)).flatMap lines = (ls.take m).flatMap lines ++ lines s := by
  rw [List.take_add_one, h]
  simp

theorem take_snoc' {α : Type} {l : List α} {k : Nat} {p : α} (h : l[k]? = some p) : l.take (k + 1) = l.take k ++ [p] := by
  rw [List.take_add_one, h]
  rfl

theorem cell_two (w : World) (a b : Value) (t : TypeId) : (w.alloc (.cells #[a, b] t)).cell? ⟨w.heap.size, 0, none⟩ = some a ∧ (w.alloc (.cells #[a, b] t)).cell? ⟨w.heap.size, 1, none⟩ = some b := by
  simp only [World.cell?, heap_alloc_new]
  exact ⟨rfl, rfl⟩

set_option maxRecDepth 100000 in
set_option maxHeartbeats 1000000 in
theorem new_any (v : Value) (fl : Fl) (w : World) (hr : Rdy w) (h : FsAt w v fl) (hfew : ∀ p ∈ fl, fewRow p = true) (hlen : fl.length ≤ 10) :
    Calls Tryd.prog 23 #[v] w fun e w' => ∃ n, e = .returned (.pointer (some ⟨w.heap.size + 1, 0, none⟩)) ∧ n ≤ 400 ∧ FilesAt w' (w.heap.size + 1) w.heap.size n (newT fl) ∧ Below w.heap.size w w' := by
  obtain ⟨ao, cap, rfl, hcap, hc63, hcells⟩ := h.form
  have HC := Lib.hid hcells
  have HR := Lib.hid hr
  have HW := Lib.hid hfew
  clear hcells h hr hfew
  have hmm := @run_makeMap Tryd.prog
  have hf0 : FilesAt ((w.alloc (.map #[] 0)).alloc (.cells #[.map (some w.heap.size)] 55)) (w.heap.size + 1) w.heap.size 0 (newT (fl.take 0)) := by
    have hb : Below (w.alloc (.map #[] 0)).heap.size (w.alloc (.map #[] 0)) ((w.alloc (.map #[] 0)).alloc (.cells #[.map (some w.heap.size)] 55)) := (Below.refl _ _).alloc (Nat.le_refl _) _
    refine ⟨?_, (tab0_made w).below hb⟩
    rw [show w.heap.size + 1 = (w.alloc (.map #[] 0)).heap.size by simp]
    exact cell_boxed _ _ _
  have HF0 := Lib.hid hf0
  clear hf0
  go_enter Tryd.func23, Tryd.ntmps23
  go_wp2
  go_loopw [13] (fun i wr => ∃ k n : Nat, k ≤ fl.length ∧ n ≤ k * 31 ∧ i = .int .i64 k ∧ Hid (FilesAt wr (w.heap.size + 1) w.heap.size n (newT (fl.take k))) ∧ Below w.heap.size w wr)
    (fun i _ => fl.length - (intOf i).toNat)
  case atStart => exact ⟨0, 0, Nat.zero_le _, Nat.le_refl _, rfl, HF0.out, ((Below.refl _ _).alloc (Nat.le_refl _) _).alloc (by simp) _⟩
  case round =>
    obtain ⟨k, n, hk, hn, rfl, hf, hb⟩ := hrel
    by_cases hlt : k < fl.length
    · obtain ⟨p, hp⟩ : ∃ p, fl[k]? = some p := ⟨fl[k], List.getElem?_eq_getElem hlt⟩
      obtain ⟨b, off, lv, rfl, c1, c2, hl⟩ := (HC.out.keeps (KeepsCells.of_below hb)) k p hp
      have HP := Lib.hid hp
      have HW2 := Lib.hid (fewRow_iff.1 (HW.out p (List.mem_of_getElem? hp)))
      have htake := take_snoc' hp
      have HTK := Lib.hid htake
      obtain ⟨ao2, cap2, rfl, hcap2, hc632, hcells2⟩ := hl.lineForm
      have HC2 := Lib.hid hcells2
      clear hp hl hcells2 htake
      obtain ⟨nm1, ls⟩ := p
      simp only at c1 c2 HC2 hcap2 HW2
      have hls := HW2.out.2.1
      go_wp2_with fail
      refine (clear_any _ _ n _ nm1 _ (hf.out.below ((Below.refl _ _).alloc (Nat.le_refl _) _)) (by have := HW2.out.1; unfold maxLen; omega) (by unfold maxLen; omega)).mono ?_
      rintro e w1 ⟨rfl, hf1, ht1⟩
      have hb1 : Below w.heap.size w w1 := (hb.alloc hb.size _).grown ht1.1 (by have := hb.size; simp; omega) (by simp)
      have hk1 : KeepsCells (wr.alloc (.cells #[.string nm1, .slice ao2 ls.length cap2] 47)) w1 := KeepsCells.of_turn ht1.1 ht1.2
      have HK1 : Hid (KeepsCells wr w1) := (KeepsCells.of_below ((Below.refl _ _).alloc (Nat.le_refl _) _)).trans hk1
      have d1 := hk1.cell (cell_two wr (.string nm1) (.slice ao2 ls.length cap2) 47).1
      have d2 := hk1.cell (cell_two wr (.string nm1) (.slice ao2 ls.length cap2) 47).2
      have hlt1 : wr.heap.size < w1.heap.size := cell_lt d1
      have HF1 := Lib.hid hf1
      clear hf1 ht1 hk1
      go_wp2_with fail
      go_loopw [24] (fun i wi => ∃ m n' : Nat, m ≤ ls.length ∧ n' ≤ n + 1 + m ∧ i = .int .i64 m ∧ Hid (FilesAt wi (w.heap.size + 1) w.heap.size n' ((newT (fl.take k)).set nm1.data.toList ((ls.take m).flatMap lines))) ∧ Below w.heap.size w wi ∧ Hid (KeepsCells w1 wi))
        (fun i _ => ls.length - (intOf i).toNat)
      case atStart => exact ⟨0, n + 1, Nat.zero_le _, Nat.le_refl _, rfl, HF1.out, hb1, KeepsCells.refl _⟩
      case round =>
        obtain ⟨m, n', hm, hn', rfl, hfi, hbi, hKi⟩ := hrel
        by_cases hlm : m < ls.length
        · obtain ⟨s, hs⟩ : ∃ s, ls[m]? = some s := ⟨ls[m], List.getElem?_eq_getElem hlm⟩
          obtain ⟨b2, off2, rfl, c3⟩ := (HC2.out.keeps (HK1.out.trans hKi.out)) m s hs
          have e1 := hKi.out.cell d1
          have hss := HW2.out.2.2 s (List.mem_of_getElem? hs)
          have hfl := flat_take_le 100 m HW2.out.2.2 (Nat.le_of_lt hlm)
          have hsl := lines_le s
          have HTS := Lib.hid (flat_take_succ hs)
          clear hs
          go_wp2_with fail
          refine (add_any _ _ n' _ nm1 s _ hfi.out (HR.out.below hbi) (by have := HW2.out.1; unfold maxLen; omega) (by unfold maxLen; omega) (by omega) (by rw [Tab.set_same]; simp only [Option.getD_some]; omega)).mono ?_
          rintro e w2 ⟨rfl, hf2, hg2⟩
          rw [Tab.set_same, Tab.set_set] at hf2
          simp only [Option.getD_some] at hf2
          rw [← HTS.out] at hf2
          have hb2 : Below w.heap.size w w2 := hbi.grown hg2 hbi.size (by simp)
          have HK2 : Hid (KeepsCells w1 w2) := hKi.out.trans (KeepsCells.of_turn hg2 hfi.out.map)
          have HF2 := Lib.hid hf2
          clear hf2 hg2 hfl hsl hss HTS
          go_wp2
          go_roundw
          case rel => exact ⟨m + 1, n' + 1, hlm, by omega, by go_num, HF2.out, hb2, HK2⟩
          case measure => simp [intOf]; omega
        · obtain rfl : m = ls.length := by omega
          have HFE : Hid (FilesAt wr (w.heap.size + 1) w.heap.size n' (newT (fl.take (k + 1)))) := by
            have := hfi.out
            rw [List.take_length] at this
            show FilesAt _ _ _ _ _
            rw [HTK.out, newT_snoc]
            exact this
          go_wp2
          go_roundw
          case rel => exact ⟨k + 1, n', hlt, by omega, by go_num, HFE, hbi⟩
          case measure => simp [intOf]; omega
    · obtain rfl : k = fl.length := by omega
      have hall : fl.take fl.length = fl := List.take_length
      have HA := Lib.hid hall
      clear hall
      go_wp2
      go_ret
      exact ⟨n, rfl, by omega, by have := hf.out; rwa [HA.out] at this, hb⟩
end Go.Proofs.YtkbekdfgeiannaaDoor
