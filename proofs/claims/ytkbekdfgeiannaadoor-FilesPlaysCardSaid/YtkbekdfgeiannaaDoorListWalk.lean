/-
  The walks of files.List and files.Copy, whole.
-/
import Derived.Test.YtkbekdfgeiannaaDoorList
namespace Go.Proofs.YtkbekdfgeiannaaDoor
open Go.RowKit Go.Maps Go.Sort

theorem names_cells (N : List (List UInt8)) : N.map encStr = (N.map fun k => (⟨k.toArray⟩ : ByteArray)).map Value.string := by
  rw [List.map_map]
  rfl

theorem names_form {w w1 : World} {M n base : Nat} {D : DataW Value} {ss : List (List UInt8)} {v1 : Value} (hown : w.ownsMap Tryd.prog 9 tokR M n D) (hp : ss.Perm (strKeys D))
    (hrow : w1.ownsRow base 9 1 v1 ss.length ((ss.mergeSort leB).map encStr)) :
    ∃ (N : List (List UInt8)) (Nb : List ByteArray), N.Pairwise (· < ·) ∧ (∀ k, k ∈ N ↔ Maps.has D (kl k) = true) ∧ Nb = N.map (fun k => (⟨k.toArray⟩ : ByteArray)) ∧ (Nb.length = N.length ∧ Nb.length = Maps.size D) ∧ (∀ x ∈ N, (⟨x.toArray⟩ : ByteArray).size ≤ maxLen) ∧
      ∃ ao cap, v1 = .slice ao Nb.length cap ∧ Nb.length ≤ cap ∧ cap ≤ 9223372036854775807 ∧ LineCells w1 ao Nb := by
  obtain ⟨h1, h2⟩ := keys_sorted hown hp
  refine ⟨_, _, h1, h2, rfl, ⟨by simp, ?_⟩, fun x hx => ?_, ?_⟩
  · obtain ⟨es, rfl⟩ := hown.isMap
    rw [List.length_map, List.length_mergeSort, hp.length_eq]
    simp [strKeys, Maps.size]
  · have h3 := strKeys_le hown Tryd.underlying9 x (((List.mergeSort_perm ss leB).trans hp).mem_iff.1 hx)
    simpa [ByteArray.size] using h3
  · have hst : StrsAt w1 v1 ((ss.mergeSort leB).map fun k => (⟨k.toArray⟩ : ByteArray)) := by
      refine StrsAt.of_owns (base := base) (e := 9) ?_
      rw [← names_cells]
      simpa using hrow
    exact hst.lineForm

theorem owns_slice {w : World} {b : Nat} {e : TypeId} {s n : Nat} {v : Value} {us : List Value} (h : w.ownsRow b e s v n us) : ∃ ao m cap, v = .slice ao m cap := by
  rcases h.2 with ⟨rfl, _⟩ | ⟨g, cap, cur, rfl, _⟩ <;> exact ⟨_, _, _, rfl⟩

theorem ownsRow_base {w : World} {b b' : Nat} {e : TypeId} {s n : Nat} {v : Value} {us : List Value} (h : w.ownsRow b e s v n us) (hb : b' ≤ b) : w.ownsRow b' e s v n us := by
  obtain ⟨h3, h4 | ⟨g, cap, cur, rfl, h5, h6⟩⟩ := h
  · exact ⟨h3, .inl h4⟩
  · exact ⟨h3, .inr ⟨g, cap, cur, rfl, Nat.le_trans hb h5, h6⟩⟩

theorem RowsOwn.base {b b' : Nat} {w : World} {vs : List (ByteArray × Value)} {fl : Fl} (h : RowsOwn b w vs fl) (hb : b' ≤ b) : RowsOwn b' w vs fl :=
  ⟨h.1, fun i p hp => by obtain ⟨lv, h1, h2⟩ := h.2 i p hp; exact ⟨lv, h1, ownsRow_base h2 hb⟩⟩

set_option maxRecDepth 100000 in
set_option maxHeartbeats 2000000 in
theorem list_any (F M n : Nat) (T : Tab) (w : World) (hf : FilesAt w F M n T) (hn : n ≤ 100000) (hlim : ∀ k l, T k = some l → l.length ≤ 1000000) :
    Calls Tryd.prog 15 #[.pointer (some ⟨F, 0, none⟩)] w fun e w' => ∃ (v : Value) (vs : List (ByteArray × Value)) (fl : Fl), e = .returned v ∧ RefOk fl T ∧ fl.length ≤ n ∧ RowsOwn w.heap.size w' vs fl ∧
      w'.ownsRow w.heap.size 47 2 v fl.length (cellsF vs) ∧ Below w.heap.size w w' := by
  obtain ⟨j0, hj, hy0, hy1, hy2⟩ := info_parts info_file
  have HF := Lib.hid hf
  obtain ⟨hc, D, hown, hhas, hat⟩ := hf
  have HOWN := Lib.hid hown
  have HHAS := Lib.hid hhas
  have HLIM := Lib.hid hlim
  have hsz := hown.size_le
  clear hat hown hhas hlim
  go_enter Tryd.func15, Tryd.ntmps15
  go_wp2_with (first
    | (go_at_call 28; refine (keys_any _ _).mono ?_; rintro e w' ⟨rfl, rfl⟩)
    | (go_at_call 27; refine (sorted_any M n D tokR w HOWN.out (by unfold maxLen; omega) (by omega)).mono ?_; rintro e w1 ⟨v1, ss, rfl, hperm, hrow, hb1⟩; obtain ⟨N, Nb, hN1, hN2, hNb, ⟨hN3, hN5⟩, hN4, ao, cap, rfl, hcap, hc63, hcells⟩ := names_form HOWN.out hperm hrow; have HN1 := Lib.hid hN1; have HN2 := Lib.hid hN2; have HNB := Lib.hid hNb; have HC := Lib.hid hcells; have HBN : Hid (Below w.heap.size w w1) := ((Below.refl _ w).alloc (Nat.le_refl _) _).trans (hb1.mono (by simp)); clear hrow hb1 hN1 hN2 hNb hcells hperm))
  go_loopw [3, 13] (fun out i wr => ∃ (k : Nat) (vs : List (ByteArray × Value)), k ≤ Nb.length ∧ i = .int .i64 k ∧ Hid (RowsOwn w1.heap.size wr vs (rowsOf T (N.take k))) ∧ wr.ownsRow w1.heap.size 47 2 out k (cellsF vs) ∧ Below w1.heap.size w1 wr)
    (fun _ i _ => Nb.length - (intOf i).toNat)
  case atStart => exact ⟨0, [], Nat.zero_le _, rfl, RowsOwn.nil _ _, World.ownsRow_nil _ _ _ _, Below.refl _ _⟩
  case round =>
    obtain ⟨k, vs, hk, rfl, hro, hown, hb⟩ := hrel
    have HBW : Hid (Below w.heap.size w wr) := HBN.out.trans (hb.mono HBN.out.size)
    by_cases hlt : k < Nb.length
    · obtain ⟨x, hx⟩ : ∃ x, N[k]? = some x := ⟨N[k]'(by rw [hN3] at hlt; exact hlt), List.getElem?_eq_getElem _⟩
      have hxb : Nb[k]? = some ⟨x.toArray⟩ := by rw [HNB.out, List.getElem?_map, hx]; rfl
      obtain ⟨b, off, rfl, c1⟩ := HC.out.keeps (KeepsCells.of_below hb) k _ hxb
      have hxT : (T x).isSome = true := by
        have h1 := (HN2.out x).1 (List.mem_of_getElem? hx)
        rw [HHAS.out] at h1
        exact h1
      have HFR : Hid (FilesAt wr F M n T) := HF.out.below HBW.out
      have hxl : (⟨x.toArray⟩ : ByteArray).size ≤ maxLen := hN4 x (List.mem_of_getElem? hx)
      have hxe : (⟨x.toArray⟩ : ByteArray).data.toList = x := by simp
      have hll : ((T x).getD []).length ≤ 1000000 := by
        cases hT : T x with
        | none => simp
        | some l => exact HLIM.out x l hT
      have HTK : Hid (rowsOf T (N.take (k + 1)) = rowsOf T (N.take k) ++ [(⟨x.toArray⟩, (T x).getD [])]) := by
        show rowsOf T _ = _
        rw [take_snoc' hx]
        simp [rowsOf]
      have hw := hb.size
      have HB := Lib.hid hb
      have HXL := Lib.hid hxl
      have HXE := Lib.hid hxe
      obtain ⟨nmv, hnmv⟩ : ∃ nmv : ByteArray, nmv = ⟨x.toArray⟩ := ⟨_, rfl⟩
      rw [← hnmv] at c1 HXL HXE HTK
      clear hx hxb hxT hnmv hxl hxe
      go_wp2_with (first
        | (go_at_call 11; refine (lines_any F M n T nmv _ HFR.out HXL.out (by rw [HXE.out]; omega)).mono ?_; rintro e w2 ⟨lv, rfl, hlo, hb2⟩; rw [HXE.out] at hlo; obtain ⟨ao3, m3, cap3, rfl⟩ := owns_slice hlo; have HLO := Lib.hid (ownsRow_base hlo hw); have HO2 := Lib.hid (ownsRow_below hown hb2); have HRO := Lib.hid (hro.out.below hb2); have HB2 := Lib.hid hb2; have hw2 : w1.heap.size ≤ w2.heap.size := Nat.le_trans hw hb2.size; have HB3 : Hid (Below w1.heap.size w1 w2) := HB.out.trans (hb2.mono hw); clear hlo hb2 hro hown hb)
        | (at_builtin; refine wpList_append_new _ w2 rfl (.tmp 17) (.tmp 23) 35 rfl w1.heap.size 47 j0 _ 2 40 Tryd.underlying35 hj hy0 hy1 hy2 rfl (by decide) _ _ _ rfl HO2.out [.string nmv, .slice ao3 m3 cap3] rfl rfl rfl (by simp [Value.oneCell']) (by unfold maxLen; omega) (by omega) hw2 ?_; intro v4 w4 ho4 hg4 hloc4))
      have hb4 := below_app HB3.out HO2.out hg4 hw2
      have hrow : RowsOwn w1.heap.size w4 (vs ++ [(nmv, .slice ao3 m3 cap3)]) (rowsOf T (N.take (k + 1))) := by
        rw [HTK.out]
        exact (HRO.out.grown HO2.out (by decide) hg4).snoc nmv _ _ (HLO.out.kept hg4 (owns_apart HLO.out HO2.out (by decide)))
      rw [cellsF_one (nmv, _)] at ho4
      have HROW := Lib.hid hrow
      clear hg4 hrow
      go_roundw
      case rel => exact ⟨k + 1, _, hlt, by go_num, HROW.out, ho4, hb4⟩
      case measure => simp [intOf]; omega
    · obtain rfl : k = Nb.length := by omega
      have HA : Hid (N.take Nb.length = N) := by rw [hN3]; exact List.take_length
      have hlen : (rowsOf T N).length = Nb.length := by rw [hN3]; simp [rowsOf]
      have HLN := Lib.hid hlen
      have HR : Hid (RefOk (rowsOf T N) T) := rowsOf_ok HN1.out (fun k => (HN2.out k).trans (by rw [HHAS.out]))
      have HRO := hro.out
      rw [HA.out] at HRO
      have HRO2 := Lib.hid HRO
      clear hlen HRO
      go_wp2
      go_ret
      exact ⟨_, vs, rowsOf T N, rfl, HR.out, by rw [HLN.out]; omega, HRO2.out.base HBN.out.size, by rw [HLN.out]; exact ownsRow_base hown HBN.out.size, HBW.out⟩
end Go.Proofs.YtkbekdfgeiannaaDoor
