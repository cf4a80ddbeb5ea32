/-
  The walk of placketref17's Put.
-/
import Derived.Test.YtkbekdfgeiannaaDoorRefLines
import Derived.Sort.Walk0
namespace Go.Proofs.YtkbekdfgeiannaaDoor
open Go.RowKit Go.Maps

theorem bytesLess_is {a b : ByteArray} : Op.bytesLess a.toList b.toList = decide (a.data.toList < b.data.toList) := by
  rw [bytesLess_eq, ByteArray.toList_eq, ByteArray.toList_eq]

theorem putGo_step {s : ByteArray} {ls : List ByteArray} {d : Bool} {fl : Fl} {k : Nat} {p : ByteArray × List ByteArray} (hp : fl[k]? = some p) :
    putGo s ls d (fl.drop k) = (if !d && !decide (nm p < s.data.toList) then [(s, ls)] else []) ++ (if nm p = s.data.toList then [] else [p]) ++ putGo s ls (d || !decide (nm p < s.data.toList)) (fl.drop (k + 1)) := by
  obtain ⟨hk, e⟩ := List.getElem?_eq_some_iff.1 hp
  rw [List.drop_eq_getElem_cons hk, e, putGo]

theorem info_f : (Tryd.prog.info? 51).map (fun i => (i.zero, i.size, i.bytes)) = some (some (.agg #[.string ByteArray.empty, .slice none 0 0]), 2, 40) := by kernel_rfl

theorem below_app {w W w' : World} {base : Nat} {e : TypeId} {size n : Nat} {v : Value} {xs : List Value} (hb : Below base w W) (hown : W.ownsRow base e size v n xs) (hg : W.grownBy w' v.ownBlock) (hB : base ≤ W.heap.size) : Below base w w' :=
  hb.trans (below_owns hown hg hB)

set_option maxRecDepth 100000 in
set_option maxHeartbeats 4000000 in
theorem put_any (v : Value) (fl : Fl) (s : ByteArray) (lv : Value) (ls : List ByteArray) (w : World) (h : FsAt w v fl) (hls : StrsAt w lv ls) (hlen : fl.length ≤ 1000000) :
    Calls Tryd.prog 19 #[v, .string s, lv] w fun e w' => ∃ (v' : Value) (vs : List (ByteArray × Value)), e = .returned v' ∧ RowsAre w vs (putGo s ls false fl) ∧
      w'.ownsRow w.heap.size 51 2 v' (putGo s ls false fl).length (cellsF vs) ∧ Below w.heap.size w w' := by
  obtain ⟨j0, hj, hy0, hy1, hy2⟩ := info_parts info_f
  obtain ⟨ao, cap, rfl, hcap, hc63, hcells⟩ := h.form
  obtain ⟨ao1, cap1, rfl, hcap1, hc631, _⟩ := hls.lineForm
  have HC := Lib.hid hcells
  have HLS := Lib.hid hls
  clear hcells h hls
  go_enter Tryd.func19, Tryd.ntmps19
  go_wp2
  go_loopw [7, 8, 12] (fun out done i wr => ∃ (k : Nat) (d : Bool) (acc : Fl) (vs : List (ByteArray × Value)), k ≤ fl.length ∧ i = .int .i64 k ∧ done = .bool d ∧ acc.length ≤ 2 * k ∧ Hid (acc ++ putGo s ls d (fl.drop k) = putGo s ls false fl) ∧ Hid (RowsAre w vs acc) ∧
      wr.ownsRow w.heap.size 51 2 out acc.length (cellsF vs) ∧ Below w.heap.size w wr)
    (fun _ _ i _ => fl.length - (intOf i).toNat)
  case atStart => exact ⟨0, false, [], [], Nat.zero_le _, rfl, rfl, Nat.le_refl _, rfl, ⟨rfl, fun i p h => by simp at h⟩, World.ownsRow_nil _ _ _ _, Below.refl _ _⟩
  case round =>
    obtain ⟨k, d, acc, vs, hk, rfl, rfl, hal, hacc, hro, hown, hb⟩ := hrel
    by_cases hlt : k < fl.length
    · obtain ⟨p, hp⟩ : ∃ p, fl[k]? = some p := ⟨fl[k], List.getElem?_eq_getElem hlt⟩
      obtain ⟨b, off, lp, rfl, e1, e2, hl⟩ := HC.out k p hp
      obtain ⟨ao2, cap2, rfl, hcap2, hc632, _⟩ := hl.lineForm
      have c1 := (hb.cell (cell_lt e1)).trans e1
      have c2 := (hb.cell (cell_lt e2)).trans e2
      have HL := Lib.hid hl
      have HST := Lib.hid (putGo_step (s := s) (ls := ls) (d := d) hp)
      have hsz := hb.size
      have D1 := Lib.hid e1
      have D2 := Lib.hid e2
      clear hp hl e1 e2
      obtain ⟨nm1, lp⟩ := p
      simp only at c1 c2 HL hcap2 D1 D2
      have hkeep : Hid (RowsAre w (vs ++ [(nm1, .slice ao2 lp.length cap2)]) (acc ++ [(nm1, lp)])) := hro.out.snoc nm1 _ lp HL.out
      have hnew : Hid (RowsAre w (vs ++ [(s, .slice ao1 ls.length cap1)]) (acc ++ [(s, ls)])) := hro.out.snoc s _ ls HLS.out
      have hboth : Hid (RowsAre w ((vs ++ [(s, .slice ao1 ls.length cap1)]) ++ [(nm1, .slice ao2 lp.length cap2)]) ((acc ++ [(s, ls)]) ++ [(nm1, lp)])) := hnew.out.snoc nm1 _ lp HL.out
      have hvl : vs.length = acc.length := hro.out.1
      have HVL := Lib.hid hvl
      clear hvl
      by_cases hlt1 : nm (nm1, lp) < s.data.toList
      · -- ahead of the name
        have hless : Op.bytesLess nm1.toList s.toList = true := by rw [bytesLess_is]; exact decide_eq_true hlt1
        have hne : (nm1.toList == s.toList) = false := str_isnt (lt_ne hlt1)
        have HREL : Hid ((acc ++ [(nm1, lp)]) ++ putGo s ls d (fl.drop (k + 1)) = putGo s ls false fl) := by
          refine Lib.hid ?_
          have h1 := hacc.out
          rw [HST.out, if_neg (lt_ne hlt1)] at h1
          simpa [hlt1] using h1
        clear hlt1
        cases d
        · go_wp2_with (at_builtin; refine wpList_append_new _ wr rfl (.tmp 39) (.tmp 44) 28 rfl w.heap.size 51 j0 _ 2 40 Tryd.underlying28 hj hy0 hy1 hy2 rfl (by decide) _ _ _ rfl hown [.string nm1, .slice ao2 lp.length cap2] rfl rfl rfl (by simp [Value.oneCell']) (by unfold maxLen; omega) (by omega) hsz ?_; intro v1 w1 ho1 hg1 hloc1)
          have hb1 := below_app hb hown hg1 hsz
          rw [cellsF_one (nm1, _)] at ho1
          clear hg1 hown hb
          go_wp2
          go_roundw
          case rel => exact ⟨k + 1, false, _, _, hlt, by go_num, rfl, by simp; omega, HREL.out, hkeep.out, by simpa using ho1, hb1⟩
          case measure => simp [intOf]; omega
        · go_wp2_with (at_builtin; refine wpList_append_new _ wr rfl (.tmp 39) (.tmp 44) 28 rfl w.heap.size 51 j0 _ 2 40 Tryd.underlying28 hj hy0 hy1 hy2 rfl (by decide) _ _ _ rfl hown [.string nm1, .slice ao2 lp.length cap2] rfl rfl rfl (by simp [Value.oneCell']) (by unfold maxLen; omega) (by omega) hsz ?_; intro v1 w1 ho1 hg1 hloc1)
          have hb1 := below_app hb hown hg1 hsz
          rw [cellsF_one (nm1, _)] at ho1
          clear hg1 hown hb
          go_wp2
          go_roundw
          case rel => exact ⟨k + 1, true, _, _, hlt, by go_num, rfl, by simp; omega, HREL.out, hkeep.out, by simpa using ho1, hb1⟩
          case measure => simp [intOf]; omega
      · -- at the name, or behind it
        have hless : Op.bytesLess nm1.toList s.toList = false := by rw [bytesLess_is]; exact decide_eq_false hlt1
        by_cases he : nm (nm1, lp) = s.data.toList
        · have hne : (nm1.toList == s.toList) = true := str_is he
          cases d
          · have HREL : Hid ((acc ++ [(s, ls)]) ++ putGo s ls true (fl.drop (k + 1)) = putGo s ls false fl) := by
              refine Lib.hid ?_
              have h1 := hacc.out
              rw [HST.out, if_pos he] at h1
              simpa [hlt1] using h1
            clear hlt1 he
            go_wp2_with (at_builtin; refine wpList_append_new _ wr rfl (.tmp 26) (.tmp 30) 28 rfl w.heap.size 51 j0 _ 2 40 Tryd.underlying28 hj hy0 hy1 hy2 rfl (by decide) _ _ _ rfl hown [.string s, .slice ao1 ls.length cap1] rfl rfl rfl (by simp [Value.oneCell']) (by unfold maxLen; omega) (by omega) hsz ?_; intro v1 w1 ho1 hg1 hloc1; have hb1 := below_app hb hown hg1 hsz; rw [cellsF_one (s, _)] at ho1; have d1 := (hb1.cell (cell_lt D1.out)).trans D1.out; have d2 := (hb1.cell (cell_lt D2.out)).trans D2.out; have hsz1 := hb1.size; clear hg1 hown hb c1 c2)
            go_roundw
            case rel => exact ⟨k + 1, true, _, _, hlt, by go_num, rfl, by simp; omega, HREL.out, hnew.out, by simpa using ho1, hb1⟩
            case measure => simp [intOf]; omega
          · have HREL : Hid (acc ++ putGo s ls true (fl.drop (k + 1)) = putGo s ls false fl) := by
              refine Lib.hid ?_
              have h1 := hacc.out
              rw [HST.out, if_pos he] at h1
              simpa [hlt1] using h1
            clear hlt1 he
            go_wp2
            go_roundw
            case rel => exact ⟨k + 1, true, _, _, hlt, by go_num, rfl, by omega, HREL.out, hro.out, hown, hb⟩
            case measure => simp [intOf]; omega
        · have hne : (nm1.toList == s.toList) = false := str_isnt he
          cases d
          · have HREL : Hid (((acc ++ [(s, ls)]) ++ [(nm1, lp)]) ++ putGo s ls true (fl.drop (k + 1)) = putGo s ls false fl) := by
              refine Lib.hid ?_
              have h1 := hacc.out
              rw [HST.out, if_neg he] at h1
              simpa [hlt1] using h1
            clear hlt1 he
            go_wp2_with (first | (at_builtin; refine wpList_append_new _ wr rfl (.tmp 26) (.tmp 30) 28 rfl w.heap.size 51 j0 _ 2 40 Tryd.underlying28 hj hy0 hy1 hy2 rfl (by decide) _ _ _ rfl hown [.string s, .slice ao1 ls.length cap1] rfl rfl rfl (by simp [Value.oneCell']) (by unfold maxLen; omega) (by omega) hsz ?_; intro v1 w1 ho1 hg1 hloc1; have hb1 := below_app hb hown hg1 hsz; rw [cellsF_one (s, _)] at ho1; have d1 := (hb1.cell (cell_lt D1.out)).trans D1.out; have d2 := (hb1.cell (cell_lt D2.out)).trans D2.out; have hsz1 := hb1.size; clear hg1 hown hb c1 c2) | (at_builtin; refine wpList_append_new _ w1 rfl (.tmp 39) (.tmp 44) 28 rfl w.heap.size 51 j0 _ 2 40 Tryd.underlying28 hj hy0 hy1 hy2 rfl (by decide) _ _ _ rfl ho1 [.string nm1, .slice ao2 lp.length cap2] rfl rfl rfl (by simp [Value.oneCell']) (by unfold maxLen; omega) (by omega) hsz1 ?_; intro v2 w2 ho2 hg2 hloc2))
            have hb2 := below_app hb1 ho1 hg2 hsz1
            rw [cellsF_one (nm1, _)] at ho2
            clear hg2 ho1 hb1
            go_wp2
            go_roundw
            case rel => exact ⟨k + 1, true, _, _, hlt, by go_num, rfl, by simp; omega, HREL.out, hboth.out, by simpa using ho2, hb2⟩
            case measure => simp [intOf]; omega
          · have HREL : Hid ((acc ++ [(nm1, lp)]) ++ putGo s ls true (fl.drop (k + 1)) = putGo s ls false fl) := by
              refine Lib.hid ?_
              have h1 := hacc.out
              rw [HST.out, if_neg he] at h1
              simpa [hlt1] using h1
            clear hlt1 he
            go_wp2_with (at_builtin; refine wpList_append_new _ wr rfl (.tmp 39) (.tmp 44) 28 rfl w.heap.size 51 j0 _ 2 40 Tryd.underlying28 hj hy0 hy1 hy2 rfl (by decide) _ _ _ rfl hown [.string nm1, .slice ao2 lp.length cap2] rfl rfl rfl (by simp [Value.oneCell']) (by unfold maxLen; omega) (by omega) hsz ?_; intro v1 w1 ho1 hg1 hloc1)
            have hb1 := below_app hb hown hg1 hsz
            rw [cellsF_one (nm1, _)] at ho1
            clear hg1 hown hb
            go_wp2
            go_roundw
            case rel => exact ⟨k + 1, true, _, _, hlt, by go_num, rfl, by simp; omega, HREL.out, hkeep.out, by simpa using ho1, hb1⟩
            case measure => simp [intOf]; omega
    · obtain rfl : k = fl.length := by omega
      have hend : fl.drop fl.length = [] := List.drop_length
      have hsz := hb.size
      cases d
      · have HREL : Hid (acc ++ [(s, ls)] = putGo s ls false fl) := by
          refine Lib.hid ?_
          have h1 := hacc.out
          rw [hend] at h1
          simpa [putGo] using h1
        have hnew : Hid (RowsAre w (vs ++ [(s, .slice ao1 ls.length cap1)]) (acc ++ [(s, ls)])) := hro.out.snoc s _ ls HLS.out
        clear hend
        go_wp2_with (at_builtin; refine wpList_append_new _ wr rfl (.tmp 49) (.tmp 53) 28 rfl w.heap.size 51 j0 _ 2 40 Tryd.underlying28 hj hy0 hy1 hy2 rfl (by decide) _ _ _ rfl hown [.string s, .slice ao1 ls.length cap1] rfl rfl rfl (by simp [Value.oneCell']) (by unfold maxLen; omega) (by omega) hsz ?_; intro v1 w1 ho1 hg1 hloc1)
        have hb1 := below_app hb hown hg1 hsz
        rw [cellsF_one (s, _)] at ho1
        clear hg1 hown hb
        go_wp2
        go_ret
        rw [← HREL.out]
        exact ⟨_, _, rfl, hnew.out, by simpa using ho1, hb1⟩
      · have HREL : Hid (acc = putGo s ls false fl) := by
          refine Lib.hid ?_
          have h1 := hacc.out
          rw [hend] at h1
          simpa [putGo] using h1
        clear hend
        go_wp2
        go_ret
        rw [← HREL.out]
        exact ⟨_, _, rfl, hro.out, hown, hb⟩
end Go.Proofs.YtkbekdfgeiannaaDoor
