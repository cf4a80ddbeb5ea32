/-
  The walk of FilesApart: it is true.
-/
import Derived.Test.YtkbekdfgeiannaaDoorCopy17
namespace Go.Proofs.YtkbekdfgeiannaaDoor
open Go.RowKit Go.Maps

theorem cell_three (w : World) (a b c : Value) (t : TypeId) : (w.alloc (.cells #[a, b, c] t)).cell? ⟨w.heap.size, 0, none⟩ = some a ∧ (w.alloc (.cells #[a, b, c] t)).cell? ⟨w.heap.size, 1, none⟩ = some b ∧ (w.alloc (.cells #[a, b, c] t)).cell? ⟨w.heap.size, 2, none⟩ = some c := by
  simp only [World.cell?, heap_alloc_new]
  exact ⟨rfl, rfl, rfl⟩

/-- What both Acts hold, wherever memory has only grown. -/
def ActCells (w0 w : World) (n1 t1 n2 t2 : ByteArray) : Prop :=
  w.cell? ⟨w0.heap.size, 1, none⟩ = some (.string n1) ∧ w.cell? ⟨w0.heap.size, 2, none⟩ = some (.string t1) ∧ w.cell? ⟨w0.heap.size + 1, 1, none⟩ = some (.string n2) ∧ w.cell? ⟨w0.heap.size + 1, 2, none⟩ = some (.string t2)

theorem act_cells (w : World) (k1 k2 : Int) (n1 t1 n2 t2 : ByteArray) (t : TypeId) (w' : World)
    (hb : Below (w.heap.size + 2) ((w.alloc (.cells #[.int .u8 k1, .string n1, .string t1] t)).alloc (.cells #[.int .u8 k2, .string n2, .string t2] t)) w') : ActCells w w' n1 t1 n2 t2 := by
  have ha := cell_three w (.int .u8 k1) (.string n1) (.string t1) t
  have hs : (w.alloc (.cells #[.int .u8 k1, .string n1, .string t1] t)).heap.size = w.heap.size + 1 := by simp
  have hbx := cell_three (w.alloc (.cells #[.int .u8 k1, .string n1, .string t1] t)) (.int .u8 k2) (.string n2) (.string t2) t
  rw [hs] at hbx
  have hk : KeepsCells (w.alloc (.cells #[.int .u8 k1, .string n1, .string t1] t)) ((w.alloc (.cells #[.int .u8 k1, .string n1, .string t1] t)).alloc (.cells #[.int .u8 k2, .string n2, .string t2] t)) := KeepsCells.of_below ((Below.refl _ _).alloc (Nat.le_refl _) _)
  refine ⟨?_, ?_, ?_, ?_⟩
  · exact (hb.cell (by simp only; omega)).trans (hk.cell ha.2.1)
  · exact (hb.cell (by simp only; omega)).trans (hk.cell ha.2.2)
  · exact (hb.cell (by simp only; omega)).trans hbx.2.1
  · exact (hb.cell (by simp only; omega)).trans hbx.2.2

theorem owns_len {w : World} {b : Nat} {e : TypeId} {s n m : Nat} {ao : Option Addr} {cap : Nat} {us : List Value} (h : w.ownsRow b e s (.slice ao m cap) n us) : m = n := by
  rcases h.2 with ⟨h1, rfl⟩ | ⟨g, cap, cur, h1, _⟩
  · cases h1; rfl
  · cases h1; rfl

set_option maxRecDepth 100000 in
set_option maxHeartbeats 8000000 in
theorem apart_any (k1 k2 : Int) (n1 t1 n2 t2 : ByteArray) (v : Value) (fl : Fl) (w : World) (hr : Rdy w) (h : FsAt w v fl) (h1 : n1.size ≤ 1000000000000000) (h2 : n2.size ≤ 1000000000000000) (h3 : t1.size ≤ 1000000000000000) (h4 : t2.size ≤ 1000000000000000) :
    Calls Tryd.prog 4 #[.agg #[.int .u8 k1, .string n1, .string t1], .agg #[.int .u8 k2, .string n2, .string t2], v] w fun e w' => e = .returned (.bool true) ∧ Below w.heap.size w w' := by
  have HR := Lib.hid hr
  have H := Lib.hid h
  have HCELL : Hid (∀ w' : World, Below (w.heap.size + 2) ((w.alloc (.cells #[.int .u8 k1, .string n1, .string t1] 27)).alloc (.cells #[.int .u8 k2, .string n2, .string t2] 27)) w' → ActCells w w' n1 t1 n2 t2) := fun w' hb => act_cells w k1 k2 n1 t1 n2 t2 _ w' hb
  have hb0 : Below w.heap.size w ((w.alloc (.cells #[.int .u8 k1, .string n1, .string t1] 27)).alloc (.cells #[.int .u8 k2, .string n2, .string t2] 27)) := ((Below.refl _ _).alloc (Nat.le_refl _) _).alloc (by simp) _
  have HS0 : Hid (((w.alloc (.cells #[.int .u8 k1, .string n1, .string t1] 27)).alloc (.cells #[.int .u8 k2, .string n2, .string t2] 27)).heap.size = w.heap.size + 2) := by simp [Hid]
  have HB0 := Lib.hid hb0
  clear hr h hb0
  go_enter Tryd.func4, Tryd.ntmps4
  go_wp2_with fail
  obtain ⟨W0, hW0⟩ : ∃ W0, W0 = (w.alloc (.cells #[.int .u8 k1, .string n1, .string t1] 27)).alloc (.cells #[.int .u8 k2, .string n2, .string t2] 27) := ⟨_, rfl⟩
  rw [← hW0]
  rw [← hW0] at HCELL HB0 HS0
  clear hW0
  refine (awake_any _ (HR.out.below HB0.out)).mono ?_
  rintro e w1 ⟨rfl, hb1⟩
  have hb1' : Below (w.heap.size + 2) W0 w1 := hb1.mono (by rw [HS0.out]; omega)
  obtain ⟨c1, c2, c3, c4⟩ := HCELL.out w1 hb1'
  have HB1 := Lib.hid hb1'
  have HX1 : Hid (Below w.heap.size w w1) := HB0.out.trans (hb1'.mono (by omega))
  clear hb1 hb1'
  go_wp2_with fail
  refine (few_any v fl _ (H.out.keeps (KeepsCells.of_below HX1.out))).mono ?_
  rintro e w2 ⟨rfl, hb2⟩
  have HB2 : Hid (Below (w.heap.size + 2) W0 w2) := HB1.out.trans (hb2.mono (by have := HB1.out.size; have := HS0.out; omega))
  have HX2 : Hid (Below w.heap.size w w2) := HX1.out.trans (hb2.mono HX1.out.size)
  obtain ⟨d1, d2, d3, d4⟩ := HCELL.out w2 HB2.out
  clear hb2 c1 c2 c3 c4
  by_cases hc : fewB fl = true ∧ n1.size + n2.size ≤ 100 ∧ t1.size + t2.size ≤ 200 ∧ n1.data.toList ≠ n2.data.toList
  · obtain ⟨g1, g2, g3, g4⟩ := hc
    have g5 := str_isnt g4
    rw [g1]
    have G1 := Lib.hid g1
    have G4 := Lib.hid g4
    clear g1 g4
    have hm1 : n1.size ≤ maxLen := by unfold maxLen; omega
    have hm2 : n2.size ≤ maxLen := by unfold maxLen; omega
    have HM1 := Lib.hid hm1
    have HM2 := Lib.hid hm2
    have hl1 := lines_le t1
    have hl2 := lines_le t2
    have HL1 := Lib.hid hl1
    have HL2 := Lib.hid hl2
    obtain ⟨hfr, hfl⟩ := few_parts G1.out
    have HFR := Lib.hid hfr
    have LIM := Lib.hid (lim_new hfr)
    clear hm1 hm2 hl1 hl2 hfr
    go_wp2_with fail
    refine (real_any v fl _ (HR.out.below HX2.out) (H.out.keeps (KeepsCells.of_below HX2.out)) HFR.out hfl).mono ?_
    rintro e w3 ⟨F1, M1, m1, rfl, hF1, hM1, hm1, hf1, hb3⟩
    clear d1 d2 d3 d4
    have HB3 : Hid (Below (w.heap.size + 2) W0 w3) := HB2.out.trans (hb3.mono (by have := HB2.out.size; have := HS0.out; omega))
    have HX3 : Hid (Below w.heap.size w w3) := HB0.out.trans (HB3.out.mono (by omega))
    obtain ⟨d1, d2, d3, d4⟩ := HCELL.out w3 HB3.out
    have HF1 := Lib.hid hf1
    have hlt1 := hf1.lt
    clear hb3 hf1
    go_wp2_with fail
    refine (real_any v fl _ (HR.out.below HX3.out) (H.out.keeps (KeepsCells.of_below HX3.out)) HFR.out hfl).mono ?_
    rintro e w4 ⟨F2, M2, m2, rfl, hF2, hM2, hm2, hf2, hb4⟩
    have hne : M1 ≠ M2 := by omega
    have HNE := Lib.hid hne
    clear d1 d2 d3 d4
    have HB4 : Hid (Below (w.heap.size + 2) W0 w4) := HB3.out.trans (hb4.mono (by have := HB3.out.size; have := HS0.out; omega))
    have HX4 : Hid (Below w.heap.size w w4) := HB0.out.trans (HB4.out.mono (by omega))
    obtain ⟨d1, d2, d3, d4⟩ := HCELL.out w4 HB4.out
    have HF1b := Lib.hid (HF1.out.below hb4)
    have HF2 := Lib.hid hf2
    have hM10 : w.heap.size + 2 ≤ M1 := by have := HB2.out.size; have := HS0.out; omega
    have hM20 : w.heap.size + 2 ≤ M2 := by have := HB3.out.size; have := HS0.out; omega
    clear hb4 hf2 HF1 hne
    go_wp2_with fail
    refine (lines_any F1 M1 m1 _ n2 _ HF1b.out HM2.out (by have := LIM.out.get n2.data.toList; omega)).mono ?_
    rintro e w5 ⟨va, rfl, hva, hb5⟩
    obtain ⟨aoa, ma, capa, rfl⟩ := owns_slice hva
    obtain rfl : ma = ((newT fl n2.data.toList).getD []).length := owns_len hva
    clear d1 d2 d3 d4
    have HB5 : Hid (Below (w.heap.size + 2) W0 w5) := HB4.out.trans (hb5.mono (by have := HB4.out.size; have := HS0.out; omega))
    have HX5 : Hid (Below w.heap.size w w5) := HB0.out.trans (HB5.out.mono (by omega))
    obtain ⟨d1, d2, d3, d4⟩ := HCELL.out w5 HB5.out
    have HF1c := Lib.hid (HF1b.out.below hb5)
    have HF2c := Lib.hid (HF2.out.below hb5)
    clear hb5 HF1b HF2 hva
    go_wp2_with fail
    refine (add_any F1 M1 m1 _ n1 t1 _ HF1c.out (HR.out.below HX5.out) HM1.out (by unfold maxLen; omega) (by omega) (by have := LIM.out.get n1.data.toList; have := HL1.out; omega)).mono ?_
    rintro e w6 ⟨rfl, hf1, hg6⟩
    clear d1 d2 d3 d4
    have HB6 : Hid (Below (w.heap.size + 2) W0 w6) := HB5.out.grown hg6 (by have := HB5.out.size; have := HS0.out; omega) (by simp; omega)
    have HX6 : Hid (Below w.heap.size w w6) := HB0.out.trans (HB6.out.mono (by omega))
    obtain ⟨d1, d2, d3, d4⟩ := HCELL.out w6 HB6.out
    have HF2d := Lib.hid (HF2c.out.other HF1c.out HNE.out.symm hg6)
    have HF1d := Lib.hid hf1
    obtain ⟨T1, hT1⟩ : ∃ T1, T1 = (newT fl).set n1.data.toList (((newT fl) n1.data.toList).getD [] ++ lines t1) := ⟨_, rfl⟩
    rw [← hT1] at HF1d
    have hT1b : T1 n2.data.toList = newT fl n2.data.toList := by rw [hT1]; exact Tab.set_other _ (fun e => G4.out e.symm) _
    have LIM1 : Hid (Lim 4000 T1) := by
      rw [hT1]
      refine (LIM.out.mono (by omega)).set _ ?_
      have := LIM.out.get n1.data.toList
      have := HL1.out
      rw [List.length_append]
      omega
    have HT1 := Lib.hid hT1
    have HT1B := Lib.hid hT1b
    clear hf1 hg6 HF1c HF2c hT1 hT1b
    go_wp2_with fail
    refine (lines_any F1 M1 (m1 + 1) _ n2 _ HF1d.out HM2.out (by have := LIM1.out.get n2.data.toList; omega)).mono ?_
    rintro e w7 ⟨vb, rfl, hvb, hb7⟩
    rw [HT1B.out] at hvb
    obtain ⟨aob, mb, capb, rfl⟩ := owns_slice hvb
    obtain rfl : mb = ((newT fl n2.data.toList).getD []).length := owns_len hvb
    clear d1 d2 d3 d4
    have HB7 : Hid (Below (w.heap.size + 2) W0 w7) := HB6.out.trans (hb7.mono (by have := HB6.out.size; have := HS0.out; omega))
    have HX7 : Hid (Below w.heap.size w w7) := HB0.out.trans (HB7.out.mono (by omega))
    obtain ⟨d1, d2, d3, d4⟩ := HCELL.out w7 HB7.out
    have HF1e := Lib.hid (HF1d.out.below hb7)
    have HF2e := Lib.hid (HF2d.out.below hb7)
    clear hb7 HF1d HF2d hvb
    go_wp2_with fail
    refine (add_any F1 M1 (m1 + 1) _ n2 t2 _ HF1e.out (HR.out.below HX7.out) HM2.out (by unfold maxLen; omega) (by omega) (by have := LIM1.out.get n2.data.toList; have := HL2.out; omega)).mono ?_
    rintro e w8 ⟨rfl, hf1, hg8⟩
    clear d1 d2 d3 d4
    have HB8 : Hid (Below (w.heap.size + 2) W0 w8) := HB7.out.grown hg8 (by have := HB7.out.size; have := HS0.out; omega) (by simp; omega)
    have HX8 : Hid (Below w.heap.size w w8) := HB0.out.trans (HB8.out.mono (by omega))
    obtain ⟨d1, d2, d3, d4⟩ := HCELL.out w8 HB8.out
    have HF2f := Lib.hid (HF2e.out.other HF1e.out HNE.out.symm hg8)
    have HF1f := Lib.hid hf1
    rw [HT1B.out] at HF1f
    clear hf1 hg8 HF1e HF2e
    go_wp2_with fail
    refine (add_any F2 M2 m2 _ n2 t2 _ HF2f.out (HR.out.below HX8.out) HM2.out (by unfold maxLen; omega) (by omega) (by have := LIM.out.get n2.data.toList; have := HL2.out; omega)).mono ?_
    rintro e w9 ⟨rfl, hf2, hg9⟩
    clear d1 d2 d3 d4
    have HB9 : Hid (Below (w.heap.size + 2) W0 w9) := HB8.out.grown hg9 (by have := HB8.out.size; have := HS0.out; omega) (by simp; omega)
    have HX9 : Hid (Below w.heap.size w w9) := HB0.out.trans (HB9.out.mono (by omega))
    obtain ⟨d1, d2, d3, d4⟩ := HCELL.out w9 HB9.out
    have HF1g := Lib.hid (HF1f.out.other HF2f.out HNE.out hg9)
    have HF2g := Lib.hid hf2
    obtain ⟨T2, hT2⟩ : ∃ T2, T2 = (newT fl).set n2.data.toList (((newT fl) n2.data.toList).getD [] ++ lines t2) := ⟨_, rfl⟩
    rw [← hT2] at HF2g
    have hT2b : T2 n1.data.toList = newT fl n1.data.toList := by rw [hT2]; exact Tab.set_other _ (fun e => G4.out e) _
    have LIM2 : Hid (Lim 4000 T2) := by
      rw [hT2]
      refine (LIM.out.mono (by omega)).set _ ?_
      have := LIM.out.get n2.data.toList
      have := HL2.out
      rw [List.length_append]
      omega
    have HT2 := Lib.hid hT2
    have HT2B := Lib.hid hT2b
    clear hf2 hg9 HF1f HF2f hT2 hT2b
    go_wp2_with fail
    refine (add_any F2 M2 (m2 + 1) _ n1 t1 _ HF2g.out (HR.out.below HX9.out) HM1.out (by unfold maxLen; omega) (by omega) (by have := LIM2.out.get n1.data.toList; have := HL1.out; omega)).mono ?_
    rintro e w10 ⟨rfl, hf2, hg10⟩
    clear d1 d2 d3 d4
    have HB10 : Hid (Below (w.heap.size + 2) W0 w10) := HB9.out.grown hg10 (by have := HB9.out.size; have := HS0.out; omega) (by simp; omega)
    have HX10 : Hid (Below w.heap.size w w10) := HB0.out.trans (HB10.out.mono (by omega))
    obtain ⟨d1, d2, d3, d4⟩ := HCELL.out w10 HB10.out
    have HF1h := Lib.hid (HF1g.out.other HF2g.out HNE.out hg10)
    have HF2h := Lib.hid hf2
    rw [HT2B.out] at HF2h
    have hTT : T1.set n2.data.toList ((newT fl n2.data.toList).getD [] ++ lines t2) = T2.set n1.data.toList ((newT fl n1.data.toList).getD [] ++ lines t1) := by
      rw [HT1.out, HT2.out]
      exact Tab.set_comm _ G4.out _ _
    rw [← hTT] at HF2h
    obtain ⟨T3, hT3⟩ : ∃ T3, T3 = T1.set n2.data.toList ((newT fl n2.data.toList).getD [] ++ lines t2) := ⟨_, rfl⟩
    rw [← hT3] at HF1h HF2h
    have LIM3 : Hid (Lim 5000 T3) := by
      rw [hT3]
      refine (LIM1.out.mono (by omega)).set _ ?_
      have := LIM.out.get n2.data.toList
      have := HL2.out
      rw [List.length_append]
      omega
    clear hf2 hg10 HF1g HF2g hTT hT3 d1 d2 d3 d4
    have hls : ∀ k l, T3 k = some l → l.length ≤ 1000000 := fun k l hk => Nat.le_trans (LIM3.out k l hk) (by omega)
    have HLS := Lib.hid hls
    clear hls
    go_wp2_with fail
    refine (list_any F1 M1 (m1 + 1 + 1) T3 _ HF1h.out (by omega) HLS.out).mono ?_
    rintro e w11 ⟨v1, vs1, fl1, rfl, hok1, hn1, hr1, ho1, hb11⟩
    have hfs1 := fs_of_own hr1 ho1
    have HB11 : Hid (Below w.heap.size w w11) := HX10.out.trans (hb11.mono HX10.out.size)
    have HF2i := Lib.hid (HF2h.out.below hb11)
    have HOK1 := Lib.hid hok1
    have HFS1 := Lib.hid hfs1
    clear hr1 ho1 hb11 hok1 hfs1 HF2h
    go_wp2_with fail
    refine (ref_any v1 fl1 _ HFS1.out (by omega)).mono ?_
    rintro e w12 ⟨v2, rfl, hfs2, hb12⟩
    have HB12 : Hid (Below w.heap.size w w12) := HB11.out.trans (hb12.mono HB11.out.size)
    have HF2j := Lib.hid (HF2i.out.below hb12)
    have HFS2 := Lib.hid hfs2
    clear hb12 hfs2 HF2i
    go_wp2_with fail
    refine (list_any F2 M2 (m2 + 1 + 1) T3 _ HF2j.out (by omega) HLS.out).mono ?_
    rintro e w13 ⟨v3, vs3, fl3, rfl, hok3, hn3, hr3, ho3, hb13⟩
    have hfs3 := fs_of_own hr3 ho3
    obtain rfl : fl1 = fl3 := refOk_unique HOK1.out.1 hok3.1 (fun k => (HOK1.out.2 k).trans (hok3.2 k).symm)
    have HB13 : Hid (Below w.heap.size w w13) := HB12.out.trans (hb13.mono HB12.out.size)
    have HFS2b := Lib.hid (HFS2.out.keeps (KeepsCells.of_below hb13))
    have HFS3 := Lib.hid hfs3
    clear hr3 ho3 hb13 hok3 hfs3
    go_wp2_with fail
    refine (ref_any v3 fl1 _ HFS3.out (by omega)).mono ?_
    rintro e w14 ⟨v4, rfl, hfs4, hb14⟩
    have HB14 : Hid (Below w.heap.size w w14) := HB13.out.trans (hb14.mono HB13.out.size)
    have HFS2c := Lib.hid (HFS2b.out.keeps (KeepsCells.of_below hb14))
    have HFS4 := Lib.hid hfs4
    clear hb14 hfs4
    go_wp2_with fail
    refine (same_any v2 v4 fl1 _ HFS2c.out HFS4.out).mono ?_
    rintro e w15 ⟨rfl, hb15⟩
    go_wp2
    go_ret
    exact ⟨rfl, HB14.out.trans (hb15.mono HB14.out.size)⟩
  · have hg : fewB fl = false ∨ (fewB fl = true ∧ 100 < n1.size + n2.size) ∨ (fewB fl = true ∧ n1.size + n2.size ≤ 100 ∧ 200 < t1.size + t2.size) ∨ (fewB fl = true ∧ n1.size + n2.size ≤ 100 ∧ t1.size + t2.size ≤ 200 ∧ n1.data.toList = n2.data.toList) := by
      cases hf : fewB fl
      · exact .inl rfl
      · by_cases a1 : n1.size + n2.size ≤ 100
        · by_cases a2 : t1.size + t2.size ≤ 200
          · by_cases a3 : n1.data.toList = n2.data.toList
            · exact .inr (.inr (.inr ⟨rfl, a1, a2, a3⟩))
            · exact (hc ⟨hf, a1, a2, a3⟩).elim
          · exact .inr (.inr (.inl ⟨rfl, a1, by omega⟩))
        · exact .inr (.inl ⟨rfl, by omega⟩)
    clear hc
    rcases hg with g1 | ⟨g1, g2⟩ | ⟨g1, g2, g3⟩ | ⟨g1, g2, g3, g4⟩
    · rw [g1]
      clear g1
      go_wp2_with (go_at_call 6; refine (awake_any _ (HR.out.below HX2.out)).mono ?_; rintro e w3 ⟨rfl, hb3⟩)
      go_ret
      exact ⟨rfl, HX2.out.trans (hb3.mono HX2.out.size)⟩
    · rw [g1]
      clear g1
      go_wp2_with (go_at_call 6; refine (awake_any _ (HR.out.below HX2.out)).mono ?_; rintro e w3 ⟨rfl, hb3⟩)
      go_ret
      exact ⟨rfl, HX2.out.trans (hb3.mono HX2.out.size)⟩
    · rw [g1]
      clear g1
      go_wp2_with (go_at_call 6; refine (awake_any _ (HR.out.below HX2.out)).mono ?_; rintro e w3 ⟨rfl, hb3⟩)
      go_ret
      exact ⟨rfl, HX2.out.trans (hb3.mono HX2.out.size)⟩
    · rw [g1]
      have g5 := str_is g4
      clear g1 g4
      go_wp2_with (go_at_call 6; refine (awake_any _ (HR.out.below HX2.out)).mono ?_; rintro e w3 ⟨rfl, hb3⟩)
      go_ret
      exact ⟨rfl, HX2.out.trans (hb3.mono HX2.out.size)⟩
end Go.Proofs.YtkbekdfgeiannaaDoor
