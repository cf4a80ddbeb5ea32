/-
  The walk of placketlaw17's Real.
-/
import Derived.Test.YtkbekdfgeiannaaDoorNew
import Derived.Test.YtkbekdfgeiannaaDoorAppend
namespace Go.Proofs.YtkbekdfgeiannaaDoor
open Go.RowKit Go.Maps
attribute [local go_sem ↓] Go.wp_at_zero Go.wp_at_succ

/-- Two rows that the call owns, of different elements, lie apart. -/
theorem owns_apart {w : World} {b b' : Nat} {e e' : TypeId} {s s' : Nat} {v v' : Value} {n n' : Nat} {us us' : List Value} (h : w.ownsRow b e s v n us) (h' : w.ownsRow b' e' s' v' n' us') (he : e ≠ e') :
    v.ownBlock = none ∨ v.ownBlock ≠ v'.ownBlock := by
  rcases h.2 with ⟨rfl, _⟩ | ⟨g, cap, cur, rfl, _, hg, _⟩
  · exact .inl rfl
  · refine .inr fun e1 => ?_
    rcases h'.2 with ⟨rfl, _⟩ | ⟨g', cap', cur', rfl, _, hg', _⟩
    · simp [Value.ownBlock] at e1
    · simp only [Value.ownBlock, Option.some.injEq] at e1
      subst e1
      rw [hg] at hg'
      simp only [Option.some.injEq, Obj.cells.injEq] at hg'
      exact he hg'.2.1

/-- Rows, each with lines that the call owns. -/
def RowsOwn (base : Nat) (w : World) (vs : List (ByteArray × Value)) (fl : Fl) : Prop :=
  vs.length = fl.length ∧ ∀ (i : Nat) (p : ByteArray × List ByteArray), fl[i]? = some p → ∃ lv, vs[i]? = some (p.1, lv) ∧ w.ownsRow base 9 1 lv p.2.length (p.2.map Value.string)

theorem RowsOwn.are {base : Nat} {w : World} {vs : List (ByteArray × Value)} {fl : Fl} (h : RowsOwn base w vs fl) : RowsAre w vs fl :=
  ⟨h.1, fun i p hp => by obtain ⟨lv, h1, h2⟩ := h.2 i p hp; exact ⟨lv, h1, StrsAt.of_owns h2⟩⟩

theorem RowsOwn.below {base : Nat} {w w' : World} {vs : List (ByteArray × Value)} {fl : Fl} (h : RowsOwn base w vs fl) (hb : Below w.heap.size w w') : RowsOwn base w' vs fl :=
  ⟨h.1, fun i p hp => by
    obtain ⟨lv, h1, h2⟩ := h.2 i p hp
    refine ⟨lv, h1, ?_⟩
    have hlt := h2.lt
    obtain ⟨h3, h4 | ⟨g, cap, cur, rfl, h5, h6, h7⟩⟩ := h2
    · exact ⟨h3, .inl h4⟩
    · exact ⟨h3, .inr ⟨g, cap, cur, rfl, h5, (hb.block g (hlt g rfl).2).trans h6, h7⟩⟩⟩

/-- They stay while a row of other elements is appended to. -/
theorem RowsOwn.grown {base b : Nat} {w w' : World} {vs : List (ByteArray × Value)} {fl : Fl} {e : TypeId} {s n : Nat} {v : Value} {us : List Value} (h : RowsOwn base w vs fl) (hv : w.ownsRow b e s v n us) (he : 9 ≠ e) (hg : w.grownBy w' v.ownBlock) :
    RowsOwn base w' vs fl :=
  ⟨h.1, fun i p hp => by
    obtain ⟨lv, h1, h2⟩ := h.2 i p hp
    exact ⟨lv, h1, h2.kept hg (owns_apart h2 hv he)⟩⟩

theorem RowsOwn.snoc {base : Nat} {w : World} {vs : List (ByteArray × Value)} {fl : Fl} (h : RowsOwn base w vs fl) (n : ByteArray) (lv : Value) (l : List ByteArray) (hl : w.ownsRow base 9 1 lv l.length (l.map Value.string)) :
    RowsOwn base w (vs ++ [(n, lv)]) (fl ++ [(n, l)]) := by
  refine ⟨by simp [h.1], fun i p hp => ?_⟩
  by_cases hi : i < fl.length
  · rw [List.getElem?_append_left hi] at hp
    obtain ⟨lv', h1, h2⟩ := h.2 i p hp
    exact ⟨lv', by rw [List.getElem?_append_left (by rw [h.1]; exact hi)]; exact h1, h2⟩
  · have hi2 : i = fl.length := by
      have := (List.getElem?_eq_some_iff.1 hp).1
      simp at this
      omega
    subst hi2
    simp at hp
    subst hp
    exact ⟨lv, by rw [← h.1]; simp, hl⟩

theorem RowsOwn.nil (base : Nat) (w : World) : RowsOwn base w [] [] := ⟨rfl, fun i p h => by simp at h⟩

theorem ownsRow_below {w w' : World} {b : Nat} {e : TypeId} {s n : Nat} {v : Value} {us : List Value} (h : w.ownsRow b e s v n us) (hb : Below w.heap.size w w') : w'.ownsRow b e s v n us := by
  have hlt := h.lt
  obtain ⟨h3, h4 | ⟨g, cap, cur, rfl, h5, h6, h7⟩⟩ := h
  · exact ⟨h3, .inl h4⟩
  · exact ⟨h3, .inr ⟨g, cap, cur, rfl, h5, (hb.block g (hlt g rfl).2).trans h6, h7⟩⟩

theorem info_file : (Tryd.prog.info? 47).map (fun i => (i.zero, i.size, i.bytes)) = some (some (.agg #[.string ByteArray.empty, .slice none 0 0]), 2, 40) := by kernel_rfl
theorem cellsF_one {vs : List (ByteArray × Value)} (p : ByteArray × Value) : cellsF vs ++ [.string p.1, p.2] = cellsF (vs ++ [p]) := by rw [cellsF_append]; rfl

set_option maxRecDepth 100000 in
set_option maxHeartbeats 1000000 in
theorem real_any (v : Value) (fl : Fl) (w : World) (hr : Rdy w) (h : FsAt w v fl) (hfew : ∀ p ∈ fl, fewRow p = true) (hlen : fl.length ≤ 10) :
    Calls Tryd.prog 10 #[v] w fun e w' => ∃ F M n, e = .returned (.pointer (some ⟨F, 0, none⟩)) ∧ w.heap.size ≤ F ∧ w.heap.size ≤ M ∧ n ≤ 400 ∧ FilesAt w' F M n (newT fl) ∧ Below w.heap.size w w' := by
  obtain ⟨i0, hi, hz0, hz1, hz2⟩ := info_parts info_str
  obtain ⟨j0, hj, hy0, hy1, hy2⟩ := info_parts info_file
  obtain ⟨ao, cap, rfl, hcap, hc63, hcells⟩ := h.form
  have HC := Lib.hid hcells
  have HR := Lib.hid hr
  have HW := Lib.hid hfew
  clear hcells h hr hfew
  go_enter Tryd.func10, Tryd.ntmps10
  go_wp2
  go_loopw [3, 8] (fun out i wr => ∃ (k : Nat) (vs : List (ByteArray × Value)), k ≤ fl.length ∧ i = .int .i64 k ∧ Hid (RowsOwn w.heap.size wr vs (fl.take k)) ∧ wr.ownsRow w.heap.size 47 2 out k (cellsF vs) ∧ Below w.heap.size w wr)
    (fun _ i _ => fl.length - (intOf i).toNat)
  case atStart => exact ⟨0, [], Nat.zero_le _, rfl, RowsOwn.nil _ _, World.ownsRow_nil _ _ _ _, Below.refl _ _⟩
  case round =>
    obtain ⟨k, vs, hk, rfl, hro, hown, hb⟩ := hrel
    by_cases hlt : k < fl.length
    · obtain ⟨p, hp⟩ : ∃ p, fl[k]? = some p := ⟨fl[k], List.getElem?_eq_getElem hlt⟩
      obtain ⟨b, off, lv, rfl, c1, c2, hl⟩ := (HC.out.keeps (KeepsCells.of_below hb)) k p hp
      have HW2 := Lib.hid (fewRow_iff.1 (HW.out p (List.mem_of_getElem? hp)))
      have HTK := Lib.hid (take_snoc' hp)
      have HL := Lib.hid hl
      obtain ⟨ao2, cap2, rfl, hcap2, hc632, hcells2⟩ := hl.lineForm
      clear hp hl hcells2
      obtain ⟨nm1, ls⟩ := p
      simp only at c1 c2 HL HW2 hcap2
      have hls := HW2.out.2.1
      have hw := hb.size
      have c3 := cell_two wr (.string nm1) (.slice ao2 ls.length cap2) 51
      obtain ⟨W, hW⟩ : ∃ W, W = wr.alloc (.cells #[.string nm1, .slice ao2 ls.length cap2] 51) := ⟨_, rfl⟩
      have hWs : wr.heap.size < W.heap.size := by rw [hW]; simp
      have hS : ∀ w' : World, Below W.heap.size W w' → w'.cell? ⟨wr.heap.size, 0, none⟩ = some (.string nm1) ∧ w'.cell? ⟨wr.heap.size, 1, none⟩ = some (.slice ao2 ls.length cap2) := fun w' hb' => by
        rw [← hW] at c3
        exact ⟨(hb'.cell (cell_lt c3.1)).trans c3.1, (hb'.cell (cell_lt c3.2)).trans c3.2⟩
      have HS := Lib.hid hS
      have HNE : Hid (some wr.heap.size ≠ u3.ownBlock) := fun e => by have := (hown.lt _ e.symm).2; omega
      have HB1 : Hid (Below W.heap.size W (W.alloc (.cells #[] 9)).drew) := ((Below.refl _ _).alloc (Nat.le_refl _) _).drew
      have HL1 : Hid (SlAt 1 (W.alloc (.cells #[] 9)).drew (.slice ao2 ls.length cap2) ls.length (ls.map Value.string)) := SlAt.keeps HL.out ((KeepsCells.of_below (by rw [hW]; exact (Below.refl _ _).alloc (Nat.le_refl _) _)).trans (KeepsCells.of_below HB1.out))
      have HO1 : Hid ((W.alloc (.cells #[] 9)).drew.ownsRow w.heap.size 9 1 (.slice (some ⟨W.heap.size, 0, none⟩) 0 0) 0 []) := World.ownsRow_made W #[] 0 (by omega) (Nat.zero_le _) rfl
      have HBW : Hid (Below wr.heap.size wr W) := by rw [hW]; exact (Below.refl _ _).alloc (Nat.le_refl _) _
      have HAPP : Hid (∀ (v1 : Value) (w1 : World), w1.ownsRow w.heap.size 9 1 v1 (0 + ls.length) ([] ++ ls.map Value.string) → (W.alloc (.cells #[] 9)).drew.grownBy w1 (Value.slice (some ⟨W.heap.size, 0, none⟩) 0 0).ownBlock →
          (∃ ao m cap, v1 = .slice ao m cap) ∧ w1.ownsRow w.heap.size 47 2 u3 k (cellsF vs) ∧ w.heap.size ≤ (w1.alloc (.cells #[.string nm1, v1] 47)).heap.size ∧ RowsOwn w.heap.size w1 vs (fl.take k)) := by
        intro v1 w1 ho1 hg1
        have hb2 : Below wr.heap.size wr w1 := HBW.out.trans ((HB1.out.mono HBW.out.size).grown hg1 (by simp; omega) (by simp [Value.ownBlock]; omega))
        refine ⟨?_, ownsRow_below hown hb2, ?_, hro.out.below hb2⟩
        · rcases ho1.2 with ⟨rfl, _⟩ | ⟨g, cap, cur, rfl, _⟩ <;> exact ⟨_, _, _, rfl⟩
        · have := hb2.size
          simp
          omega
      clear c3 hS
      go_wp2_with fail
      rw [← hW]
      have HW0 := Lib.hid hW
      clear hW
      go_region_held3 (fun w' => w'.cell? ⟨wr.heap.size, 0, none⟩ = some (.string nm1) ∧ w'.cell? ⟨wr.heap.size, 1, none⟩ = some (.slice ao2 ls.length cap2))
        (first
          | exact HS.out _ (Below.refl _ _).drew
          | exact HS.out _ HB1.out
          | exact HS.out w1 hB2
          | exact HS.out _ (hB2.alloc hB2.size _)
          | exact hS2)
        (first
          | (refine step_append_any _ (by rfl) (.tmp 15) (.tmp 17) 23 (by rfl) w.heap.size 9 i0 (.string ByteArray.empty) 1 16 Tryd.underlying23 hi hz0 hz1 hz2 rfl (by decide) _ 0 [] (by rfl) HO1.out _ ls.length (ls.map Value.string) (by rfl) HL1.out (by simp [Value.oneCell']) (by unfold maxLen; omega) (by omega) (by simp; omega) ?_; intro v1 w1 ho1 hg1 hloc1; have hB2 : Below W.heap.size W w1 := HB1.out.grown hg1 (by simp) (by simp [Value.ownBlock]); obtain ⟨⟨ao3, m3, cap3, rfl⟩, hX1, hX2, hX3⟩ := HAPP.out v1 w1 ho1 hg1; have HX1 := Lib.hid hX1; have HX2 := Lib.hid hX2; have HX3 := Lib.hid hX3; have HO := Lib.hid ho1; clear hX1 hX2 hX3 ho1)
          | (refine step_append_any _ (by rfl) (.tmp 12) (.tmp 20) 35 (by rfl) w.heap.size 47 j0 _ 2 40 Tryd.underlying35 hj hy0 hy1 hy2 rfl (by decide) u3 k (cellsF vs) (by rfl) (HX1.out.alloc _) (.slice (some ⟨w1.heap.size, 0, none⟩) 1 1) 1 [.string nm1, .slice ao3 m3 cap3] (by rfl) (SlAt.block (t := 47) (fr := (0, 0)) (heap_alloc_new w1 _) rfl (by decide)) (by simp [Value.oneCell']) (by unfold maxLen; omega) (by omega) HX2.out ?_; intro v2 w2 ho2 hg2 hloc2; have hS2 : w2.cell? ⟨wr.heap.size, 0, none⟩ = some (.string nm1) ∧ w2.cell? ⟨wr.heap.size, 1, none⟩ = some (.slice ao2 ls.length cap2) := ⟨hg2.cell (HS.out _ (hB2.alloc hB2.size _)).1 HNE.out, hg2.cell (HS.out _ (hB2.alloc hB2.size _)).2 HNE.out⟩))
      have HBB : Hid (Below wr.heap.size wr w1) := HBW.out.trans (hB2.mono HBW.out.size)
      have hb4 : Below w.heap.size w w2 := (((hb.trans (HBB.out.mono hw)).alloc (by have := HBB.out.size; omega) _).grown hg2 (by have := HBB.out.size; simp; omega) (fun k hk => (hown.lt k hk).1))
      have hrow : RowsOwn w.heap.size w2 (vs ++ [(nm1, .slice ao3 m3 cap3)]) (fl.take (k + 1)) := by
        rw [HTK.out]
        have h1 := (HX3.out.below ((Below.refl _ _).alloc (Nat.le_refl _) (.cells #[.string nm1, .slice ao3 m3 cap3] 47))).grown (HX1.out.alloc _) (by decide) hg2
        refine h1.snoc nm1 _ ls ?_
        have h2 := HO.out
        rw [Nat.zero_add, List.nil_append] at h2
        have h3 := h2.alloc (.cells #[.string nm1, .slice ao3 m3 cap3] 47)
        exact h3.kept hg2 (owns_apart h3 (HX1.out.alloc _) (by decide))
      have hown2 : w2.ownsRow w.heap.size 47 2 v2 (k + 1) (cellsF (vs ++ [(nm1, .slice ao3 m3 cap3)])) := by
        rw [← cellsF_one]
        exact ho2
      have HROW := Lib.hid hrow
      have HOWN := Lib.hid hown2
      clear hrow hown2 ho2 hg2 hg1 hown hro
      go_wp2
      go_roundw
      case rel => exact ⟨k + 1, _, hlt, by go_num, HROW.out, HOWN.out, hb4⟩
      case measure => simp [intOf]; omega
    · obtain rfl : k = fl.length := by omega
      have hall : fl.take fl.length = fl := List.take_length
      have HA := Lib.hid hall
      clear hall
      have HF : Hid (FsAt wr u3 fl) := by
        have h1 := hro.out.are
        rw [HA.out] at h1
        exact ⟨vs, h1, SlAt.of_owns hown⟩
      go_wp2_with fail
      refine (new_any _ fl _ (HR.out.below hb) HF.out HW.out (by omega)).mono ?_
      rintro e w1 ⟨n, rfl, hn, hf1, hb1⟩
      go_wp2
      go_ret
      exact ⟨_, _, n, rfl, by have := hb.size; omega, hb.size, hn, hf1, hb.trans (hb1.mono hb.size)⟩
end Go.Proofs.YtkbekdfgeiannaaDoor
