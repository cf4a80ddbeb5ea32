/-
  The walk of FilesPlays: it is true.
-/
import Derived.Test.YtkbekdfgeiannaaDoorPlayParts
import Derived.Test.YtkbekdfgeiannaaDoorApartLaw
import Derived.Deep.CutBlock
namespace Go.Proofs.YtkbekdfgeiannaaDoor
open Go.RowKit Go.Maps

theorem switch_rem (x : Int) : x % 3 = 0 ∨ x % 3 = 1 ∨ x % 3 = 2 := by omega

theorem ask_size (s : ByteArray) : (s ++ (⟨#[63]⟩ : ByteArray)).size = s.size + 1 := by rw [ByteArray.size_append]; rfl

theorem act_three (w : World) (a b c : Value) (t : TypeId) (w' : World) (hb : Below (w.heap.size + 1) (w.alloc (.cells #[a, b, c] t)) w') :
    w'.cell? ⟨w.heap.size, 0, none⟩ = some a ∧ w'.cell? ⟨w.heap.size, 1, none⟩ = some b ∧ w'.cell? ⟨w.heap.size, 2, none⟩ = some c := by
  have ha := cell_three w a b c t
  exact ⟨(hb.cell (by simp only; omega)).trans ha.1, (hb.cell (by simp only; omega)).trans ha.2.1, (hb.cell (by simp only; omega)).trans ha.2.2⟩

set_option maxRecDepth 100000 in
set_option maxHeartbeats 8000000 in
theorem plays_any (va v : Value) (al : Al) (fl : Fl) (w : World) (hr : Rdy w) (h : FsAt w v fl) (ha : ActsAt w va al) :
    Calls Tryd.prog 5 #[v, va] w fun e w' => e = .returned (.bool true) ∧ Below w.heap.size w w' := by
  obtain ⟨ao, cap, rfl, hcap, hc63, hcells⟩ := ha
  have HR := Lib.hid hr
  have H := Lib.hid h
  have HA := Lib.hid hcells
  clear hr h hcells
  go_enter Tryd.func5, Tryd.ntmps5
  go_wp2_with fail
  refine (awake_any _ HR.out).mono ?_
  rintro e w1 ⟨rfl, hb1⟩
  have HB1 := Lib.hid hb1
  clear hb1
  go_wp2_with fail
  refine (few_any v fl _ (H.out.keeps (KeepsCells.of_below HB1.out))).mono ?_
  rintro e w2 ⟨rfl, hb2⟩
  have HB2 : Hid (Below w.heap.size w w2) := HB1.out.trans (hb2.mono HB1.out.size)
  clear hb2
  by_cases hc : fewB fl = true ∧ al.length ≤ 40
  · obtain ⟨g1, g2⟩ := hc
    rw [g1]
    have G1 := Lib.hid g1
    clear g1
    obtain ⟨hfr, hfl⟩ := few_parts G1.out
    have HFR := Lib.hid hfr
    have LIM := Lib.hid (lim_new hfr)
    have SHO := Lib.hid (short_new hfr)
    clear hfr
    go_wp2_with fail
    refine (real_any v fl _ (HR.out.below HB2.out) (H.out.keeps (KeepsCells.of_below HB2.out)) HFR.out hfl).mono ?_
    rintro e w3 ⟨F0, M0, m0, rfl, hF0, hM0, hm0, hf0, hb3⟩
    have HB3 : Hid (Below w.heap.size w w3) := HB2.out.trans (hb3.mono HB2.out.size)
    have HF0 := Lib.hid hf0
    clear hb3 hf0
    go_wp2_with fail
    refine (refNew_any v fl _ (H.out.keeps (KeepsCells.of_below HB3.out)) HFR.out hfl).mono ?_
    rintro e w4 ⟨ref0, rfl, hfs0, hb4⟩
    have HB4 : Hid (Below w.heap.size w w4) := HB3.out.trans (hb4.mono HB3.out.size)
    have HP0 : Hid (Play w.heap.size w w4 F0 M0 m0 (newT fl) ref0 (newL fl) 0) :=
      ⟨HF0.out.below hb4, hfs0, refOk_new fl, ⟨LIM.out.mono (by omega), SHO.out⟩, by omega, by have := newL_length fl; omega, HB4.out, by have := HB2.out.size; omega⟩
    clear hb4 hfs0 HF0
    go_wp2_with fail
    go_loopw [5, 6, 38] (fun f ref i wr => ∃ (k F M n : Nat) (T : Tab) (rl : Fl), k ≤ al.length ∧ i = .int .i64 k ∧ f = .pointer (some ⟨F, 0, none⟩) ∧ Hid (Play w.heap.size w wr F M n T ref rl k))
      (fun _ _ i _ => al.length - (intOf i).toNat)
    case atStart => exact ⟨0, F0, M0, m0, _, _, Nat.zero_le _, rfl, rfl, HP0.out⟩
    case round =>
      obtain ⟨k, F, M, n, T, rl, hk, rfl, rfl, hp⟩ := hrel
      by_cases hlt : k < al.length
      · obtain ⟨p, hp3⟩ : ∃ p, al[k]? = some p := ⟨al[k], List.getElem?_eq_getElem hlt⟩
        obtain ⟨b, off, rfl, c1, c2, c3, c4, c5⟩ := HA.out.keeps (KeepsCells.of_below hp.out.2.2.2.2.2.2.1) k p hp3
        obtain ⟨kd, nm1, tx⟩ := p
        simp only at c1 c2 c3 c4 c5
        clear hp3
        by_cases hsmall : nm1.size ≤ 100 ∧ tx.size ≤ 200
        · obtain ⟨hnm, htx⟩ := hsmall
          have HCELL : Hid (∀ w' : World, Below (wr.heap.size + 1) (wr.alloc (.cells #[.int .u8 kd, .string nm1, .string tx] 27)) w' → w'.cell? ⟨wr.heap.size, 0, none⟩ = some (.int .u8 kd) ∧ w'.cell? ⟨wr.heap.size, 1, none⟩ = some (.string nm1) ∧ w'.cell? ⟨wr.heap.size, 2, none⟩ = some (.string tx)) := fun w' hb => act_three wr _ _ _ _ w' hb
          go_upto_region 11 with fail
          obtain ⟨W0, hW0⟩ : ∃ W0, W0 = wr.alloc (.cells #[.int .u8 kd, .string nm1, .string tx] 27) := ⟨_, rfl⟩
          rw [← hW0]
          rw [← hW0] at HCELL
          have HS0 : Hid (W0.heap.size = wr.heap.size + 1) := by rw [hW0]; simp [Hid]
          have HB0 : Hid (Below wr.heap.size wr W0) := by rw [hW0]; exact (Below.refl _ _).alloc (Nat.le_refl _) _
          clear hW0 c1 c2 c3
          obtain ⟨d0, d1, d2⟩ := HCELL.out W0 (Below.refl _ _)
          have hbase : w.heap.size ≤ wr.heap.size := hp.out.2.2.2.2.2.2.1.size
          have HPW : Hid (Play w.heap.size w W0 F M n T u6 rl k) := hp.out.below hp.out.2.2.2.2.2.2.1.size HB0.out
          have HNM : Hid (nm1.size ≤ maxLen) := by unfold Hid maxLen; omega
          clear hp HA
          go_upto_block 2 with fail
          go_cut [5, 6, 38] from 38 to 150 (fun f ref i wx => i = .int .i64 k ∧ wx.cell? ⟨wr.heap.size, 1, none⟩ = some (.string nm1) ∧ ∃ (F' M' n' : Nat) (T' : Tab) (rl' : Fl), f = .pointer (some ⟨F', 0, none⟩) ∧ Hid (Play w.heap.size w wx F' M' n' T' ref rl' (k + 1)))
          case first =>
            obtain ⟨hf, hfs, hok, ⟨hlim, hsho⟩, hn, hrl, hb, hM⟩ := HPW.out
            have HSHO := Lib.hid hsho
            have hl1 := lines_le tx
            have hl2 := hlim.get nm1.data.toList
            have HF := Lib.hid hf
            have HFS := Lib.hid hfs
            have HOK := Lib.hid hok
            have HLIM := Lib.hid hlim
            have HB := Lib.hid hb
            have HL1 := Lib.hid hl1
            have HL2 := Lib.hid hl2
            clear hf hfs hok hlim hb hl1 hl2 hsho
            rcases switch_rem kd with hk0 | hk0 | hk0
            · go_wp2_with fail
              refine (add_any F M n T nm1 tx _ HF.out (HR.out.below HB.out) HNM.out (by unfold maxLen; omega) (by omega) (by have := HL1.out; have := HL2.out; omega)).mono ?_
              rintro e w5 ⟨rfl, hf5, hg5⟩
              have hk5 := KeepsCells.of_turn hg5 HF.out.map
              have e1 := hk5.cell d1
              have e2 := hk5.cell d2
              have HFS5 := Lib.hid (HFS.out.keeps hk5)
              have HB5 : Hid (Below w.heap.size w w5) := HB.out.grown hg5 HB.out.size (by simpa using hM)
              have HF5 := Lib.hid hf5
              have HD1 := Lib.hid e1
              clear hg5 hf5 hk5 d0 d1 d2
              go_wp2_with fail
              refine (refAdd_any _ rl nm1 tx _ HFS5.out (by omega) (by omega) (by rw [HOK.out.2]; have := HL1.out; have := HL2.out; omega)).mono ?_
              rintro e w6 ⟨v6, rfl, hfs6, hb6⟩
              rw [HOK.out.2] at hfs6
              obtain ⟨rl', hpl⟩ := HPW.out.put nm1 _ (HF5.out.below hb6) (Nat.le_refl _) hfs6 (by rw [List.length_append]; have := HL1.out; have := HL2.out; omega) (fun x hx => by rcases List.mem_append.1 hx with hx | hx; exact HSHO.out.get _ x hx; have := lines_size tx x hx; omega) (HB5.out.trans (hb6.mono HB5.out.size)) hM
              have HPL := Lib.hid hpl
              have HD6 : Hid (w6.cell? ⟨wr.heap.size, 1, none⟩ = some (.string nm1)) := (hb6.cell (cell_lt HD1.out)).trans HD1.out
              clear hpl hfs6 hb6
              go_wp2
              go_meet
              case rel => exact ⟨rfl, HD6.out, F, M, _, _, rl', rfl, HPL.out⟩
            · go_wp2_with fail
              refine (clear_any F M n T nm1 _ HF.out HNM.out (by unfold maxLen; omega)).mono ?_
              rintro e w5 ⟨rfl, hf5, hg5, hm5⟩
              have hk5 := KeepsCells.of_turn hg5 hm5
              have e1 := hk5.cell d1
              have HFS5 := Lib.hid (HFS.out.keeps hk5)
              have HB5 : Hid (Below w.heap.size w w5) := HB.out.grown hg5 HB.out.size (by simpa using hM)
              have HF5 := Lib.hid hf5
              have HD1 := Lib.hid e1
              clear hg5 hf5 hk5 hm5 d0 d1 d2
              go_wp2_with fail
              refine (put_fs _ rl nm1 _ [] _ HFS5.out (SlAt.nil 1 _) (by omega)).mono ?_
              rintro e w6 ⟨v6, rfl, hfs6, hb6⟩
              obtain ⟨rl', hpl⟩ := HPW.out.put nm1 _ (HF5.out.below hb6) (Nat.le_refl _) hfs6 (by simp) (by simp) (HB5.out.trans (hb6.mono HB5.out.size)) hM
              have HPL := Lib.hid hpl
              have HD6 : Hid (w6.cell? ⟨wr.heap.size, 1, none⟩ = some (.string nm1)) := (hb6.cell (cell_lt HD1.out)).trans HD1.out
              clear hpl hfs6 hb6
              go_wp2
              go_meet
              case rel => exact ⟨rfl, HD6.out, F, M, _, _, rl', rfl, HPL.out⟩
            · go_wp2_with fail
              refine (copy_any F M n T _ HF.out).mono ?_
              rintro e w5 ⟨F', M', rfl, hF', hM', hf5, hb5⟩
              have hne : M' ≠ M := by have := HF.out.lt; omega
              have e1 := (hb5.cell (cell_lt d1)).trans d1
              have HFS5 := Lib.hid (HFS.out.keeps (KeepsCells.of_below hb5))
              have HB5 : Hid (Below w.heap.size w w5) := HB.out.trans (hb5.mono HB.out.size)
              have HFN := Lib.hid hf5
              have HFO := Lib.hid (HF.out.below hb5)
              have HM' : Hid (w.heap.size ≤ M') := Nat.le_trans HB.out.size hM'
              have HNE := Lib.hid hne
              clear hb5 hf5 d0 d1 d2 hne hM' hF'
              go_wp2_with fail
              refine (add_any F M n T nm1 _ _ HFO.out (HR.out.below HB5.out) HNM.out (by unfold maxLen; omega) (by decide) (by have := HL2.out; have := lines_le ⟨#[116, 117, 114, 110, 101, 100]⟩; have : (⟨#[116, 117, 114, 110, 101, 100]⟩ : ByteArray).size = 6 := rfl; omega)).mono ?_
              rintro e w6 ⟨rfl, hf6, hg6⟩
              have hk6 := KeepsCells.of_turn hg6 HFO.out.map
              have HD6 := Lib.hid (hk6.cell e1)
              have HPL : Hid (Play w.heap.size w w6 F' M' n T u6 rl (k + 1)) := Play.rise ⟨HFN.out.other HFO.out HNE.out hg6, HFS5.out.keeps hk6, HOK.out, ⟨HLIM.out, HSHO.out⟩, hn, hrl, HB5.out.grown hg6 HB5.out.size (by simpa using hM), HM'.out⟩
              clear hk6 hg6 hf6 e1
              go_wp2
              go_meet
              case rel => exact ⟨rfl, HD6.out, F', M', n, T, rl, rfl, HPL.out⟩
          case rest =>
            obtain ⟨rfl, e1, F', M', n', T', rl', rfl, hpl⟩ := hcut
            clear d0 d1 d2 HPW HCELL HB0 HS0
            obtain ⟨hf, hfs, hok, ⟨hlim, hsho⟩, hn, hrl, hb, hM⟩ := hpl.out
            have HLIM := Lib.hid hlim
            have HSHO := Lib.hid hsho
            have hls : ∀ k l, T' k = some l → l.length ≤ 1000000 := fun k l hk => Nat.le_trans (hlim k l hk) (by omega)
            have hl2 := hlim.get nm1.data.toList
            have HLS := Lib.hid hls
            have HL2 := Lib.hid hl2
            have HF := Lib.hid hf
            have HFS := Lib.hid hfs
            have HOK := Lib.hid hok
            have HB := Lib.hid hb
            have HE1 := Lib.hid e1
            clear hf hfs hok hlim hb hls hl2 hsho
            go_wp2_with fail
            refine (refLines_any _ rl' nm1 _ HFS.out).mono ?_
            rintro e w5 ⟨lv, rfl, _, rfl⟩
            rw [HOK.out.2]
            obtain ⟨bb, hbb⟩ : ∃ bb, bb = (T' nm1.data.toList).isSome := ⟨_, rfl⟩
            rw [← hbb]
            have HBB := Lib.hid hbb
            clear hbb
            go_wp2_with fail
            refine (has_any F' M' n' T' nm1 _ HF.out HNM.out).mono ?_
            rintro e w6 ⟨rfl, rfl⟩
            rw [← HBB.out]
            go_wp2_with fail
            refine (list_any F' M' n' T' _ HF.out (by omega) HLS.out).mono ?_
            rintro e w7 ⟨v1, vs1, fl1, rfl, hok1, hn1, hr1, ho1, hb7⟩
            have hfs1 := fs_of_own hr1 ho1
            obtain rfl : fl1 = rl' := refOk_unique hok1.1 HOK.out.1 (fun k => (hok1.2 k).trans (HOK.out.2 k).symm)
            have HX7 := Lib.hid hb7
            have HFS7 := Lib.hid (HFS.out.keeps (KeepsCells.of_below hb7))
            have HFS1 := Lib.hid hfs1
            clear hr1 ho1 hb7 hok1 hfs1
            go_wp2_with fail
            refine (ref_any v1 fl1 _ HFS1.out (by omega)).mono ?_
            rintro e w8 ⟨v2, rfl, hfs2, hb8⟩
            have HX8 : Hid (Below w6.heap.size w6 w8) := HX7.out.trans (hb8.mono HX7.out.size)
            have HFS8 := Lib.hid (HFS7.out.keeps (KeepsCells.of_below hb8))
            have HFS2 := Lib.hid hfs2
            clear hb8 hfs2
            go_wp2_with fail
            refine (same_any v2 _ fl1 _ HFS2.out HFS8.out).mono ?_
            rintro e w9 ⟨rfl, hb9⟩
            have HX9 : Hid (Below w6.heap.size w6 w9) := HX8.out.trans (hb9.mono HX8.out.size)
            have HF9 := Lib.hid (HF.out.below HX9.out)
            clear hb9 HFS8 HFS2 HFS7 HFS1 HX7 HX8
            go_wp2_with fail
            refine (list_any F' M' n' T' _ HF9.out (by omega) HLS.out).mono ?_
            rintro e w10 ⟨v3, vs3, fl3, rfl, hok3, hn3, hr3, ho3, hb10⟩
            obtain ⟨ao3, m3, cap3, rfl⟩ := owns_slice ho3
            obtain rfl : m3 = fl3.length := owns_len ho3
            have HR10 : Hid (Rows2 w9.heap.size w10 (.slice ao3 fl3.length cap3) vs3 fl3 300) := Rows2.of hr3 ho3 hok3 HSHO.out
            have HB10 := Lib.hid hb10
            have HOK3 := Lib.hid hok3
            clear hok3 hr3 ho3 hb10
            go_wp2_with fail
            obtain ⟨wo, rfl⟩ : ∃ wo : World, wo = wr := ⟨_, rfl⟩
            go_loopw [112] (fun i wq => ∃ (k2 : Nat), k2 ≤ fl3.length ∧ i = .int .i64 k2 ∧ Hid (Rows2 w9.heap.size wq (.slice ao3 fl3.length cap3) vs3 fl3 (300 + 50000 * k2)) ∧ Hid (Below w9.heap.size w9 wq))
              (fun i _ => fl3.length - (intOf i).toNat)
            case atStart => exact ⟨0, Nat.zero_le _, rfl, HR10.out, HB10.out⟩
            case round =>
              obtain ⟨k2, hk2, rfl, hrq, hbq⟩ := hrel
              by_cases hlt2 : k2 < fl3.length
              · obtain ⟨q, hq⟩ : ∃ q, fl3[k2]? = some q := ⟨fl3[k2], List.getElem?_eq_getElem hlt2⟩
                obtain ⟨g, cap', lv, hv3, h31, h32, q1, q2, hrow⟩ := hrq.out.row hq
                cases hv3
                obtain ⟨ao4, cap4, rfl, h41, h42⟩ := hrow.form
                obtain ⟨qn, ql⟩ := q
                simp only at q1 q2 hrow h41
                obtain ⟨mm, hmm⟩ : ∃ mm, mm = ql.length := ⟨_, rfl⟩
                have hmmle : mm ≤ 50000 := by
                  have h1 := HLIM.out _ _ ((HOK3.out.2 _).symm.trans (look_mem HOK3.out.1 (List.mem_of_getElem? hq)))
                  simp only at h1
                  omega
                rw [← hmm] at q2 hrow h41
                have HROW := Lib.hid hrow
                clear hq hrow hmm
                go_wp2_with fail
                obtain ⟨S, hS⟩ : ∃ S, S = wr.heap.size := ⟨_, rfl⟩
                have HSB : Hid ((wr.alloc (.cells #[.string qn, .slice ao4 mm cap4] 47)).heap[S]? = some (.cells #[.string qn, .slice ao4 mm cap4] 47)) := by rw [hS]; exact heap_alloc_new _ _
                have HBS : Hid (Below wr.heap.size wr (wr.alloc (.cells #[.string qn, .slice ao4 mm cap4] 47))) := (Below.refl _ _).alloc (Nat.le_refl _) _
                obtain ⟨wx, hwx⟩ : ∃ wx, wx = wr.alloc (.cells #[.string qn, .slice ao4 mm cap4] 47) := ⟨_, rfl⟩
                rw [← hwx] at HSB HBS
                rw [← hwx, ← hS]
                clear hwx hS
                obtain ⟨wp, rfl⟩ : ∃ wp : World, wp = wr := ⟨_, rfl⟩
                have HRX := Lib.hid (hrq.out.below HBS.out)
                have HROWX := Lib.hid (HROW.out.below HBS.out)
                have HBX : Hid (Below w9.heap.size w9 wx) := hbq.out.trans (HBS.out.mono hbq.out.size)
                clear hrq HROW q1 q2
                go_loopw [119] (fun i wq => ∃ (k3 : Nat), k3 ≤ mm ∧ i = .int .i64 k3 ∧ Hid (Rows2 w9.heap.size wq (.slice (some ⟨g, 0, none⟩) fl3.length cap3) vs3 fl3 (300 + 50000 * k2 + k3)) ∧ Hid (StrRow w9.heap.size wq (.slice ao4 mm cap4) mm (300 + 50000 * k2 + k3)) ∧ Hid (wq.heap[S]? = some (.cells #[.string qn, .slice ao4 mm cap4] 47)) ∧ Hid (Below w9.heap.size w9 wq))
                  (fun i _ => mm - (intOf i).toNat)
                case atStart => exact ⟨0, Nat.zero_le _, rfl, HRX.out, HROWX.out, HSB.out, HBX.out⟩
                case round =>
                  obtain ⟨k3, hk3, rfl, hr3, hrow3, hS3, hb3⟩ := hrel
                  by_cases hlt3 : k3 < mm
                  · obtain ⟨g4, cap5, cur, st, hv4, hg4, hh4, h51, h52, f1, f2, hstl⟩ := hrow3.out.at_ hlt3
                    cases hv4
                    have f3 : wr.cell? ⟨S, 1, none⟩ = some (.slice (some ⟨g4, 0, none⟩) mm cap4) := by
                      have := hS3.out
                      simp [World.cell?, this]
                    have HH4 := Lib.hid hh4
                    clear hh4
                    go_wp2
                    go_roundw
                    case rel => exact ⟨k3 + 1, hlt3, by go_num, (hr3.out.mono (by omega)).turn HH4.out _ _ (by rw [ask_size]; omega), (hrow3.out.mono (by omega)).turn _ _ _ (by rw [ask_size]; omega), block_turn HH4.out hS3.out _ _, hb3.out.setCell hg4 _⟩
                    case measure => simp [intOf]; omega
                  · obtain rfl : k3 = mm := by omega
                    have f3 : wr.cell? ⟨S, 1, none⟩ = some (.slice ao4 k3 cap4) := by
                      have := hS3.out
                      simp [World.cell?, this]
                    go_wp2
                    go_roundw
                    case rel => exact ⟨k2 + 1, hlt2, by go_num, hr3.out.mono (by omega), hb3.out⟩
                    case measure => simp [intOf]; omega
              · obtain rfl : k2 = fl3.length := by omega
                have HX11 : Hid (Below w6.heap.size w6 wr) := HX9.out.trans (hbq.out.mono HX9.out.size)
                have HF11 := Lib.hid (HF.out.below HX11.out)
                have f1 := (HX11.out.cell (cell_lt HE1.out)).trans HE1.out
                clear hrq
                go_wp2_with fail
                refine (lines_any F' M' n' T' nm1 _ HF11.out HNM.out (by have := HL2.out; omega)).mono ?_
                rintro e w12 ⟨v5, rfl, ho5, hb12⟩
                have hst5 := StrsAt.of_owns ho5
                obtain ⟨ls5, hls5⟩ : ∃ ls5, ls5 = (T' nm1.data.toList).getD [] := ⟨_, rfl⟩
                rw [← hls5] at hst5
                obtain ⟨ao5, cap5, rfl, h51, h52, hc5⟩ := hst5.lineForm
                have HC5 := Lib.hid hc5
                have HLS5 := Lib.hid hls5
                have HX12 : Hid (Below w6.heap.size w6 w12) := HX11.out.trans (hb12.mono HX11.out.size)
                have HF12 := Lib.hid (HF11.out.below hb12)
                clear hb12 ho5 hst5 hc5 hls5
                go_wp2_with fail
                obtain ⟨wp, rfl⟩ : ∃ wp : World, wp = wr := ⟨_, rfl⟩
                go_loopw [136] (fun i wq => ∃ (k4 : Nat), k4 ≤ ls5.length ∧ i = .int .i64 k4 ∧ Hid (Below w12.heap.size w12 wq))
                  (fun i _ => ls5.length - (intOf i).toNat)
                case atStart => exact ⟨0, Nat.zero_le _, rfl, Below.refl _ _⟩
                case round =>
                  obtain ⟨k4, hk4, rfl, hb4⟩ := hrel
                  have HXR : Hid (Below w6.heap.size w6 wr) := HX12.out.trans (hb4.out.mono HX12.out.size)
                  by_cases hlt4 : k4 < ls5.length
                  · obtain ⟨st, hst⟩ : ∃ st, ls5[k4]? = some st := ⟨ls5[k4], List.getElem?_eq_getElem hlt4⟩
                    obtain ⟨b5, off5, rfl, s1⟩ := (HC5.out.keeps (KeepsCells.of_below hb4.out)) k4 _ hst
                    have HFR := Lib.hid (HF.out.below HXR.out)
                    have s2 := (HXR.out.cell (cell_lt HE1.out)).trans HE1.out
                    have hsz4 := hb4.out.size
                    have hstl : st.size ≤ 300 := HSHO.out.get nm1.data.toList st (by rw [← HLS5.out]; exact List.mem_of_getElem? hst)
                    clear hst
                    go_wp2_with fail
                    refine (lines_any F' M' n' T' nm1 _ HFR.out HNM.out (by have := HL2.out; omega)).mono ?_
                    rintro e w13 ⟨v6, rfl, ho6, hb13⟩
                    rw [← HLS5.out] at ho6
                    obtain ⟨g6, cap6, cur, st6, rfl, hg6, _, h61, h62, t1, t2, _⟩ := (StrRow.of (B := 300) ho6 (by rw [HLS5.out]; exact HSHO.out.get _)).at_ hlt4
                    have HB13 : Hid (Below w12.heap.size w12 w13) := hb4.out.trans (hb13.mono hb4.out.size)
                    clear ho6 hb13
                    go_wp2
                    go_roundw
                    case rel => exact ⟨k4 + 1, hlt4, by go_num, HB13.out.setCell (Nat.le_trans hsz4 hg6) _⟩
                    case measure => simp [intOf]; omega
                  · obtain rfl : k4 = ls5.length := by omega
                    have HPE : Hid (Play w.heap.size w wr F' M' n' T' u6 fl1 (k + 1)) := hpl.out.below HB.out.size HXR.out
                    go_wp2
                    go_roundw
                    case rel => exact ⟨k + 1, F', M', n', T', fl1, hlt, by go_num, rfl, HPE.out⟩
                    case measure => simp [intOf]; omega
        · have hg : 100 < nm1.size ∨ (nm1.size ≤ 100 ∧ 200 < tx.size) := by omega
          have HBE := Lib.hid hp.out.2.2.2.2.2.2.1
          clear hsmall
          rcases hg with g1 | ⟨g1, g2⟩
          · go_wp2
            go_ret
            exact ⟨rfl, HBE.out.alloc HBE.out.size _⟩
          · go_wp2
            go_ret
            exact ⟨rfl, HBE.out.alloc HBE.out.size _⟩
      · obtain rfl : k = al.length := by omega
        obtain ⟨hf, hfs, hok, ⟨hlim, _⟩, hn, hrl, hb, hM⟩ := hp.out
        have hls : ∀ k l, T k = some l → l.length ≤ 1000000 := fun k l hk => Nat.le_trans (hlim k l hk) (by omega)
        have HLS := Lib.hid hls
        have HF := Lib.hid hf
        have HFS := Lib.hid hfs
        have HOK := Lib.hid hok
        have HB := Lib.hid hb
        clear hls hf hfs hok hlim hb hp
        go_wp2_with fail
        refine (list_any F M n T _ HF.out (by omega) HLS.out).mono ?_
        rintro e w5 ⟨v1, vs1, fl1, rfl, hok1, hn1, hr1, ho1, hb5⟩
        have hfs1 := fs_of_own hr1 ho1
        obtain rfl : fl1 = rl := refOk_unique hok1.1 HOK.out.1 (fun k => (hok1.2 k).trans (HOK.out.2 k).symm)
        have HB5 : Hid (Below w.heap.size w w5) := HB.out.trans (hb5.mono HB.out.size)
        have HFS5 := Lib.hid (HFS.out.keeps (KeepsCells.of_below hb5))
        have HFS1 := Lib.hid hfs1
        clear hr1 ho1 hb5 hok1 hfs1
        go_wp2_with fail
        refine (ref_any v1 fl1 _ HFS1.out (by omega)).mono ?_
        rintro e w6 ⟨v2, rfl, hfs2, hb6⟩
        have HB6 : Hid (Below w.heap.size w w6) := HB5.out.trans (hb6.mono HB5.out.size)
        have HFS6 := Lib.hid (HFS5.out.keeps (KeepsCells.of_below hb6))
        have HFS2 := Lib.hid hfs2
        clear hb6 hfs2
        go_wp2_with fail
        refine (same_any v2 _ fl1 _ HFS2.out HFS6.out).mono ?_
        rintro e w7 ⟨rfl, hb7⟩
        go_wp2
        go_ret
        exact ⟨rfl, HB6.out.trans (hb7.mono HB6.out.size)⟩
  · have hg : fewB fl = false ∨ (fewB fl = true ∧ 40 < al.length) := by
      cases hf : fewB fl
      · exact .inl rfl
      · by_cases a1 : al.length ≤ 40
        · exact (hc ⟨hf, a1⟩).elim
        · exact .inr ⟨rfl, by omega⟩
    clear hc
    rcases hg with g1 | ⟨g1, g2⟩
    · rw [g1]
      clear g1
      go_wp2_with (go_at_call 6; refine (awake_any _ (HR.out.below HB2.out)).mono ?_; rintro e w3 ⟨rfl, hb3⟩)
      go_ret
      exact ⟨rfl, HB2.out.trans (hb3.mono HB2.out.size)⟩
    · rw [g1]
      clear g1
      go_wp2_with (go_at_call 6; refine (awake_any _ (HR.out.below HB2.out)).mono ?_; rintro e w3 ⟨rfl, hb3⟩)
      go_ret
      exact ⟨rfl, HB2.out.trans (hb3.mono HB2.out.size)⟩
end Go.Proofs.YtkbekdfgeiannaaDoor
