/-
  A machine of plain values, second form: lengths, copies, new rows, texts that are gone through, bytes as a text. A machine of plain values, second form: maps. A machine of plain values, second form: all operations together. A machine of plain values, second form: a call begins; what it hands up frozen. A machine of plain values, second form: a call ends, and hands up what is frozen. A machine of plain values, second form: a call ends, and hands up slots of its own under new names. A machine of plain values, second form: a call ends, its slots handed up. A machine of plain values, second form: 
-/
import Derived.Test.YtjdccpmbaobpdaaGreatDoorMA
import Derived.Laws.MakeOwn
import Derived.Laws.BytesString
import Derived.Lib.OthersKept
import Derived.MapKept
namespace Go.Proofs.YtjdccpmbaobpdaaGreatDoor
open Go.RowKit

section
variable {P : Program} {G : Gh} {S : AS} {w : World} {B : Nat → Nat}

theorem ERel.length {G : Gh} : ∀ {xs : List AEntry} {es : List MapEntry}, ERel G xs es → xs.length = es.length
  | [], [], _ => rfl
  | _ :: _, _ :: _, h => by simp [ERel.length h.2.2.2]
  | [], _ :: _, h => h.elim
  | _ :: _, [], h => h.elim

theorem getMap {b : Nat} {ents : Array MapEntry} {ck : Nat} {w : World} (h : w.heap[b]? = some (.map ents ck)) : (getObj b).run P w = .ok (.map ents ck) w := by simp [getObj, Sem.run, h]
theorem setMap {b : Nat} {ents : Array MapEntry} {ck : Nat} {w : World} (h : w.heap[b]? = some (.map ents ck)) (o : Obj) : (setObj b o).run P w = .ok () { w with heap := w.heap.setIfInBounds b o } := by simp [setObj, Sem.run, h]

theorem alen_sound [Cfg] (hW : WRel G S w B) {t ty : TypeId} {x y : AV} {v : Value} (h : alen P S t x = some y) (hv : VRel G x v) : ∃ z, (Builtin.len_ #[t] ty #[v]).run P w = .ok z w ∧ VRel G y z := by
  unfold alen at h
  split at h
  · rename_i hu
    cases h
    cases hv
    exact ⟨_, by simp [Builtin.len_, run_underlying hu]; rfl, .lit _⟩
  · rename_i hu
    cases h
    cases hv
    exact ⟨_, by simp [Builtin.len_, run_underlying hu]; rfl, .lit _⟩
  · rename_i n e _ hu
    cases h
    exact ⟨_, by simp [Builtin.len_, run_underlying hu]; rfl, .lit _⟩
  · rename_i k e p g hu
    cases hv with
    | mref _ _ b c ho =>
      split at h
      · rename_i g' es ck hs
        split at h
        · rename_i hg
          subst hg
          cases h
          obtain ⟨ents, h1, h2⟩ := hW.slot p (.map g' es ck) hs rfl b c ho
          refine ⟨goInt ents.size, ?_, ?_⟩
          · simp [Builtin.len_, run_underlying hu, getMap h1]
          · have := h2.length
            rw [show ents.size = es.length by simpa using this.symm]
            exact .lit _
        · cases h
      · cases h
  · cases h

theorem run_copy {t ty e : TypeId} {tl : List TypeId} {i : TypeInfo} (ht : P.underlying t = some (.slice e)) (hi : P.info? e = some i) {a : Addr} {dl dc n : Nat} {x : Value} {vs : List Value} (hs : SrcOk P i.size x n vs w) {w' : World}
    (hst : (storeCells a (vs.take (min n dl * i.size))).run P w = .ok () w') : (Builtin.copy_ (t :: tl).toArray ty #[.slice (some a) dl dc, x]).run P w = .ok (goInt (min n dl : Nat)) w' := by
  have hl := hs.len
  have hp := hs.pre (min n dl) (Nat.min_le_left ..)
  have hm : Nat.min n dl = min n dl := rfl
  simp only [Builtin.copy_, Sem.run_bind, run_underlying ht, Result.andThen_ok, hl, run_sizeOf' hi, hm, hp, List.toList_toArray, hst, Sem.run_pure, List.getElem?_toArray, List.getElem?_cons_zero, List.getElem?_cons_succ]

theorem acopy_sound [Cfg] (hW : WRel G S w B) {t ty : TypeId} {tl : List TypeId} {d x : AV} {v u : Value} {y : AR} (h : acopyC P S [d, x] (t :: tl) = some y) (hv : VRel G d v) (hu : VRel G x u) : ArOk P G S w B ((do pure (.value (← Builtin.copy_ (t :: tl).toArray ty #[v, u])) : Sem Next).run P w) y := by
  unfold acopyC at h
  simp only at h
  split at h
  case h_2 => cases h
  rename_i e ht
  split at h
  case h_2 => cases h
  rename_i i hi
  split at h
  case h_2 => cases h
  rename_i es hes
  split at h
  case h_2 => cases h
  rename_i sp p g n off len sz
  split at h
  case isFalse => cases h
  rename_i hc
  obtain ⟨hsz, hpos⟩ := hc
  subst hsz
  obtain ⟨yw, hyw, rfl⟩ := Option.map_eq_some_iff.1 h
  obtain ⟨vs, hc1, hvl, hl, hsrc⟩ := aelems_sound (P := P) hW hes hu hpos
  cases hv with
  | row _ _ _ _ _ _ _ b c o cap hown hoff hncap hcm hroom =>
    have hlt : (es.take len).flatten.length = min es.length len * i.size := by
      rw [flatten_len i.size _ (fun x hx => hl x (List.mem_of_mem_take hx)), List.length_take, Nat.min_comm]
    have hpre := hsrc.pre (min es.length len) (Nat.min_le_left ..)
    have hrel : CRel G (es.take len).flatten (vs.take (min es.length len * i.size)) := by
      have e1 : (es.take len).flatten = es.flatten.take (min es.length len * i.size) := by
        have : es.flatten = (es.take len).flatten ++ (es.drop len).flatten := by rw [← flat_append, List.take_append_drop]
        rw [this, List.take_left' hlt]
      rw [e1]
      exact hc1.take _
    obtain ⟨G', w', m1, m2, m3⟩ := write_sound (P := P) hW hyw hown hrel
    have hst : (storeCells ⟨b, o, none⟩ (vs.take (min es.length len * i.size))).run P w = .ok () w' := by
      rcases Nat.eq_zero_or_pos (min es.length len) with h0 | h0
      · rw [h0] at m1 ⊢
        simp only [Nat.zero_mul, List.take_zero, storeCells, Sem.run_pure] at m1 ⊢
        exact m1
      · rw [hoff (by omega)]
        exact m1
    refine ⟨G', w', goInt (min es.length len : Nat), .inl ?_, ?_, m2, m3⟩
    · have := run_copy (ty := ty) (tl := tl) ht hi hsrc (dl := len) (dc := cap) hst
      simp [this]
    · have : (AV.lit (.int .i64 (min es.length len : Nat))) = .lit (goInt (min es.length len : Nat)) := rfl
      rw [show ((min (es.length : Int) len) : Int) = ((min es.length len : Nat) : Int) by omega]
      exact .lit _

theorem made_rel (G : Gh) {zs : List Value} {sz l c : Nat} (hz : zs.length = sz) (hpos : 0 < sz) (hlc : l ≤ c) : CRel G (List.replicate l (zs.map AV.lit)).flatten ((madeCells zs.toArray (c * sz)).toList.take (l * sz)) := by
  have hfl := flatten_len sz (List.replicate l (zs.map AV.lit)) (fun e he => by rw [List.eq_of_mem_replicate he, List.length_map, hz])
  rw [List.length_replicate] at hfl
  have hle : l * sz ≤ c * sz := Nat.mul_le_mul_right _ hlc
  refine ⟨by rw [hfl, List.length_take, Array.length_toList, size_madeCells]; omega, fun k a v ha hv => ?_⟩
  have hk := (List.getElem?_eq_some_iff.1 ha).1
  rw [hfl] at hk
  have hmod : k % sz < sz := Nat.mod_lt _ hpos
  have hdiv : k / sz < l := Nat.div_lt_of_lt_mul (by rw [Nat.mul_comm]; exact hk)
  have hb := flatten_block sz (List.replicate l (zs.map AV.lit)) (fun e he => by rw [List.eq_of_mem_replicate he, List.length_map, hz]) (k / sz) (k % sz) (zs.map AV.lit) (by rw [List.getElem?_replicate, if_pos hdiv]) hmod
  rw [Nat.mul_comm, Nat.div_add_mod] at hb
  rw [hb, List.getElem?_map] at ha
  rw [List.getElem?_take, if_pos hk] at hv
  have hv' : v = zs.toArray[k % zs.toArray.size]! := by
    simp only [madeCells, Array.toList_map, List.getElem?_map, Array.toList_range, List.getElem?_range (show k < c * sz by omega), Option.map_some, Option.some.injEq] at hv
    exact hv.symm
  rw [List.size_toArray, hz] at hv'
  rw [List.getElem?_eq_getElem (show k % sz < zs.length by omega)] at ha
  simp only [Option.map_some, Option.some.injEq] at ha
  rw [← ha, hv']
  have : zs.toArray[k % sz]! = zs[k % sz]'(by omega) := by
    rw [getElem!_pos zs.toArray (k % sz) (by simp; omega)]
    simp
  rw [this]
  exact .lit _

theorem amakeSlice_sound [Cfg] (hW : WRel G S w B) {d : Option Tmp} {t : TypeId} {l c : AV} {lv cv : Value} {y : AR} (h : amakeSlice P S d t l c = some y) (hl : VRel G l lv) (hc : VRel G c cv) :
    ArOk P G S w B ((do pure (.value (← Instr.makeSlice t lv cv)) : Sem Next).run P w) y := by
  unfold amakeSlice at h
  split at h
  case h_2 => cases h
  rename_i e d kl li kc ci ht
  split at h
  case h_2 => cases h
  rename_i i hi
  split at h
  case h_2 => cases h
  rename_i z hz
  split at h
  case isFalse => cases h
  rename_i hcnd
  obtain ⟨hzs, hpos, h0, hlc, hc1, hcb⟩ := hcnd
  rw [hl.lit_inv, hc.lit_inv]
  have hbytes : (i.bytes : Int) * ci ≤ 281474976710656 := by rw [Int.mul_comm]; omega
  have hr := run_make (P := P) w t e i z ht hi hz kl kc li ci h0 hlc hbytes (by omega)
  have hr' : ((do pure (.value (← Instr.makeSlice t (.int kl li) (.int kc ci))) : Sem Next).run P w) = .ok (.value (.slice (some ⟨w.heap.size, 0, none⟩) li.toNat ci.toNat)) (w.alloc (.cells (madeCells z.cells (ci.toNat * i.size)) e)) := by simp [hr]
  have hmax : ci.toNat ≤ maxLen := by simp only [maxLen]; omega
  have harr : w.alloc (.cells (madeCells z.cells (ci.toNat * i.size)) e) = w.alloc (.cells (madeCells z.cells (ci.toNat * i.size)).toList.toArray e) := by rw [Array.toArray_toList]
  rw [harr] at hr'
  split at h
  · rename_i hl0
    obtain ⟨hl0, _⟩ := hl0
    cases h
    obtain ⟨G', k1, k2, k3, k4⟩ := hW.newTok (p := S.here d) (g := S.fresh (S.here d)) (n := 0) (sz := i.size) (cap := ci.toNat) (e := e) [] (madeCells z.cells (ci.toNat * i.size)).toList (Nat.le_refl _) (hW.fresh_none _ _) (fun t ht => .inl (AS.fresh_lt ht))
      (by simp) (Nat.zero_le _) (by rw [List.nil_append, Array.length_toList, size_madeCells])
    rw [List.nil_append] at k3 k4
    refine ⟨G', _, _, .inl hr', ?_, k3, k4⟩
    have := VRel.of_flat (G := G') (sp := .own (S.here d) (S.fresh (S.here d))) (es := []) (sz := i.size) (b := w.heap.size) (off := 0) (cap := ci.toNat) (vs := []) (Nat.zero_le _) hmax (by simp) (CRel.nil G') (fun j u hj => by simp at hj) ⟨rfl, k1⟩
    rw [hl0]
    exact this
  · cases h
    have hsz : (madeCells z.cells (ci.toNat * i.size)).toList.length = ci.toNat * i.size := by rw [Array.length_toList, size_madeCells]
    have hlc' : li.toNat ≤ ci.toNat := by omega
    have hmade := made_rel G (zs := z.cells.toList) (sz := i.size) (l := li.toNat) (c := ci.toNat) (by simpa using hzs) hpos hlc'
    rw [Array.toArray_toList] at hmade
    obtain ⟨G', m1, m2, m3⟩ := newRowSlot hW d (cs := (List.replicate li.toNat (z.cells.toList.map AV.lit)).flatten) (vs := (madeCells z.cells (ci.toNat * i.size)).toList) (n := li.toNat) (sz := i.size) (cap := ci.toNat) e hlc' hmax
      (by rw [hmade.1, List.length_take, hsz]; have := Nat.mul_le_mul_right i.size hlc'; omega) hsz hmade
    exact ⟨G', _, _, .inl hr', m1, m2, m3⟩

/-- Of what is no row of cells nothing stays. -/
theorem WRel.imm_none [Cfg] (hW : WRel G S w B) {b : Nat} {x : Obj} (hx : w.heap[b]? = some x) (hn : ∀ vs t fr, x ≠ .cells vs t fr) (o : Nat) : G.imm b o = none := by
  cases hi : G.imm b o with
  | none => rfl
  | some v =>
    have := hW.imm b o v hi
    simp only [World.cell?, hx] at this
    cases x <;> simp at this
    exact absurd rfl (hn _ _ _)

theorem arange_sound [Cfg] (hW : WRel G S w B) {t : TypeId} {d : Tmp} {s : ByteArray} (ht : P.underlying t = some .string) {v : Value} (hv : VRel G (.lit (.string s)) v) :
    ArOk P G S w B ((do pure (.value (← Instr.range t v)) : Sem Next).run P w) (.chg (.ptr (S.here d) (S.fresh (S.here d)) 0 0) (S.here d) (.iter (S.fresh (S.here d)) s 0)) := by
  rw [hv.lit_inv]
  obtain ⟨G', k1, k2, k3⟩ := hW.newSlot (p := S.here d) (Nat.le_refl _) (.iter (S.fresh (S.here d)) s 0) rfl (.stringIter s 0) 0 rfl fun G' hle himm => heap_alloc_new w _
  exact ⟨G', _, _, .inl (by simp [run_range_string (P := P) w t s ht]; rfl), .ptr _ _ _ 0 _ _ k1, k2, k3⟩

theorem anext_sound [Cfg] (hW : WRel G S w B) {ty : TypeId} {it : AV} {v : Value} {y : AR} (h : anext S it = some y) (hv : VRel G it v) : ArOk P G S w B ((do pure (.value (← Instr.next v true ty)) : Sem Next).run P w) y := by
  unfold anext at h
  split at h
  case h_2 => cases h
  rename_i p g
  split at h
  case h_2 => cases h
  rename_i g' s pos hs
  split at h
  case isFalse => cases h
  rename_i hg
  subst hg
  cases hv with
  | ptr _ _ _ _ b c ho =>
    have hk : w.heap[b]? = some (.stringIter s pos) := hW.slot p (.iter g' s pos) hs rfl b c ho
    split at h
    · rename_i hpos
      cases h
      obtain ⟨G', k1, k2, k3⟩ := hW.setSlot (s := .iter g' s (pos + (Utf8.decode s pos).2)) (t := .iter g' s pos) (w' := w.iterAt b s (pos + (Utf8.decode s pos).2)) hs rfl ho rfl (Nat.le_refl _) (hW.imm_none hk (by simp)) rfl
        (fun x hx => Go.Lib.iterAt_other w b x s _ hx) (Go.Lib.iterAt_size ..) rfl rfl rfl fun G' hle himm => Go.Lib.iterAt_heap w b s pos _ hk
      refine ⟨G', _, .tuple #[.bool true, .int .i64 pos, .int .i32 (Utf8.decode s pos).1], .inl (by simp [Go.Lib.run_next_any_at (P := P) w b s pos ty hk hpos]), ?_, k2, k3⟩
      exact .tup _ [.bool true, .int .i64 pos, .int .i32 (Utf8.decode s pos).1] rfl (CRel.cons (.lit _) (CRel.cons (.lit _) (CRel.cons (.lit _) (CRel.nil G')))).2
    · rename_i hpos
      cases h
      refine opOk_same hW (by simp [Go.Lib.run_next_end_at (P := P) w b s pos ty hk hpos]; rfl) ?_
      exact .tup _ [.bool false] rfl (CRel.cons (.lit _) (CRel.nil G)).2

theorem bytes_rel : ∀ {es : List (List AV)} {vs : List Value} {bs : List UInt8}, bytesOf es = some bs → CRel G es.flatten vs → ∃ ns : List Int, vs = ns.map (Value.int .u8) ∧ ∀ acc : ByteArray, ns.foldl (fun r n => r.push (UInt8.ofNat n.toNat)) acc = acc ++ ⟨bs.toArray⟩
  | [], vs, bs, h, hc => by
    simp only [bytesOf, Option.some.injEq] at h
    have : vs = [] := List.eq_nil_of_length_eq_zero (by simpa using hc.1.symm)
    subst this h
    exact ⟨[], rfl, fun acc => by apply ByteArray.ext; simp⟩
  | e :: r, vs, bs, h, hc => by
    unfold bytesOf at h
    split at h
    · rename_i e; cases e
    · rename_i n r' e
      cases e
      obtain ⟨bs', hb, rfl⟩ := Option.map_eq_some_iff.1 h
      cases vs with
      | nil => have := hc.1; simp at this
      | cons v vs =>
        rw [List.flatten_cons, List.singleton_append] at hc
        have h0 := hc.head.lit_inv
        obtain ⟨ns, rfl, k⟩ := bytes_rel hb hc.tail
        refine ⟨n :: ns, by rw [h0]; rfl, fun acc => ?_⟩
        rw [List.foldl_cons, k]
        apply ByteArray.ext
        simp [ByteArray.push]
    · cases h

theorem aconvert_sound [Cfg] (hW : WRel G S w B) {src dst : TypeId} {x : AV} {v : Value} {y : AR} (h : aconvert P S src dst x = some y) (hv : VRel G x v) : ArOk P G S w B ((do pure (.value (← convert src dst v)) : Sem Next).run P w) y := by
  unfold aconvert at h
  split at h
  case h_2 => cases h
  rename_i e hs hd
  split at h
  case h_2 => cases h
  rename_i he
  have key : ∀ es, aelems S 1 x = some es → (∃ a n c, v = .slice (some a) n c) → ∀ bs, bytesOf es = some bs → ArOk P G S w B ((do pure (.value (← convert src dst v)) : Sem Next).run P w) (.val (.lit (.string ⟨bs.toArray⟩))) := by
    intro es hes ⟨a, n, c, hv'⟩ bs hb
    obtain ⟨vs, hc1, hvl, hl, hsrc⟩ := aelems_sound (P := P) hW hes hv (by decide)
    subst hv'
    have hn : n = es.length := by
      have := hsrc.len
      simpa [Builtin.lenOf] using this
    subst hn
    obtain ⟨ns, rfl, hf⟩ := bytes_rel hb hc1
    have hcells := hsrc.cells
    simp only [Builtin.firstCells, Nat.mul_one] at hcells
    have hr := run_bytesToString w a es.length c ns hcells
    rw [hf] at hr
    refine opOk_same hW (u := .string ⟨bs.toArray⟩) ?_ (.lit _)
    have he' : (ByteArray.empty ++ (⟨bs.toArray⟩ : ByteArray)) = ⟨bs.toArray⟩ := by
      apply ByteArray.ext; simp
    rw [he'] at hr
    simp [convert, run_underlying hs, run_underlying hd, run_underlying he, hr]
  split at h
  · split at h
    · rename_i es hes
      obtain ⟨bs, hb, rfl⟩ := Option.map_eq_some_iff.1 h
      refine key es hes ?_ bs hb
      cases hv
      exact ⟨_, _, _, rfl⟩
    · cases h
  · split at h
    · rename_i es hes
      obtain ⟨bs, hb, rfl⟩ := Option.map_eq_some_iff.1 h
      refine key es hes ?_ bs hb
      cases hv
      exact ⟨_, _, _, rfl⟩
    · cases h
  · cases h

theorem aconvPtr_sound [Cfg] (hW : WRel G S w B) {src dst : TypeId} {x : AV} {v : Value} {y : AR} (h : aconvPtr P S src dst x = some y) (hv : VRel G x v) : ArOk P G S w B ((do pure (.value (← convert src dst v)) : Sem Next).run P w) y := by
  unfold aconvPtr at h
  split at h
  · rename_i t p g off hs hd
    split at h
    · rename_i g' t' cs i hp hi
      split at h
      · rename_i hc
        obtain ⟨rfl, hoff, hsz⟩ := hc
        cases h
        cases hv with
        | ptr _ _ _ _ b c ho =>
          obtain ⟨_, vs, fr, hb, _, hcr⟩ := hW.slot p _ hp rfl b c ho
          have hsh : w.shape? b = some (t', vs.size) := by simp [World.shape?, hb]
          have hlt : ¬ vs.size ≤ off := by have := hcr.1; simp at this; omega
          refine opOk_same hW (u := .pointer (some ⟨b, off, none⟩)) ?_ (.ptr _ _ _ _ _ _ ho)
          simp [convert, Conv.unsafePointer, run_underlying hs, run_underlying hd, Conv.seenAt, viewAt, hsh, cellsIn, sizeOf, typeInfo, hi, hsz, hlt]
      · cases h
    · cases h
  · rename_i u p g off hs hd
    split at h
    · rename_i g' t' cs i hp hi
      split at h
      · rename_i hc
        obtain ⟨rfl, hlies⟩ := hc
        cases h
        cases hv with
        | ptr _ _ _ _ b c ho =>
          obtain ⟨_, vs, fr, hb, _, hcr⟩ := hW.slot p _ hp rfl b c ho
          have hsh : w.shape? b = some (t', vs.size) := by simp [World.shape?, hb]
          have hl : cs.length = vs.size := by have := hcr.1; simpa using this
          rw [hl] at hlies
          refine opOk_same hW (u := .pointer (some ⟨b, off, none⟩)) ?_ (.ptr _ _ _ _ _ _ ho)
          simp [convert, Conv.unsafePointer, run_underlying hs, run_underlying hd, Conv.seenAt, viewAt, hsh, variablesAt, hlies, sizeOf, typeInfo, hi]
      · cases h
    · cases h
  · cases h
end
end Go.Proofs.YtjdccpmbaobpdaaGreatDoor

namespace Go.Proofs.YtjdccpmbaobpdaaGreatDoor
open Go.RowKit

section
variable {P : Program} {G : Gh} {S : AS} {w : World} {B : Nat → Nat}

theorem evalPure_bind {α β : Type} : ∀ {s : Sem α} {f : α → Sem β} {r : β}, evalPure P (s >>= f) = some r → ∃ a, evalPure P s = some a ∧ evalPure P (f a) = some r := by
  intro s
  induction s with
  | pure a => exact fun h => ⟨a, rfl, h⟩
  | program k ih => exact fun h => ih P h
  | mark m k ih => exact fun h => ih h
  | _ => intro f r h; simp [bind, Sem.bind, evalPure] at h

def bareEntry (k : Value) : MapEntry := ⟨k, undef, 0⟩

theorem findNow_bare (d : TypeDesc) (k : Value) : ∀ (ents : List MapEntry) (i : Nat), Instr.findNow d k (ents.map fun e => bareEntry e.key) i = (Instr.findNow d k ents i).map (Option.map fun p => (p.1, undef))
  | [], _ => rfl
  | e :: r, i => by
    simp only [List.map_cons, Instr.findNow, bareEntry]
    cases h : Instr.sameNow d k e.key with
    | none => rfl
    | some b => cases b with
      | true => rfl
      | false => exact findNow_bare d k r (i + 1)
theorem findNow_at (d : TypeDesc) (k : Value) : ∀ (ents : List MapEntry) (i j : Nat) (v : Value), Instr.findNow d k ents i = some (some (j, v)) → i ≤ j ∧ ∃ e, ents[j - i]? = some e ∧ e.val = v
  | [], _, _, _, h => by simp [Instr.findNow] at h
  | e :: r, i, j, v, h => by
    unfold Instr.findNow at h
    split at h
    · cases h
      exact ⟨Nat.le_refl _, e, by simp, rfl⟩
    · obtain ⟨h1, e', h2, h3⟩ := findNow_at d k r (i + 1) j v h
      refine ⟨by omega, e', ?_, h3⟩
      rw [show j - i = (j - (i + 1)) + 1 by omega]
      simpa using h2
    · cases h

theorem findAsking_bare (kt : TypeId) (k : Value) (w : World) : ∀ (ents : List MapEntry) (i : Nat) (r : Option (Nat × Value)), evalPure P (Instr.findAsking kt k (ents.map fun e => bareEntry e.key) i) = some r →
    ∃ r', (Instr.findAsking kt k ents i).run P w = .ok r' w ∧ r = r'.map (fun p => (p.1, undef)) ∧ ∀ j v, r' = some (j, v) → i ≤ j ∧ ∃ e, ents[j - i]? = some e ∧ e.val = v
  | [], i, r, h => by
    simp only [List.map_nil, Instr.findAsking] at h
    cases h
    exact ⟨none, rfl, rfl, fun j v h => by cases h⟩
  | e :: t, i, r, h => by
    simp only [List.map_cons, Instr.findAsking] at h
    obtain ⟨b, hb, h⟩ := evalPure_bind h
    have hrun := evalPure_run hb w
    have hrun' : (Op.equal kt k e.key).run P w = .ok b w := hrun
    cases b with
    | true =>
      simp only [if_true] at h
      cases h
      refine ⟨some (i, e.val), by simp [Instr.findAsking, hrun'], rfl, fun j v hj => ?_⟩
      cases hj
      exact ⟨Nat.le_refl _, e, by simp, rfl⟩
    | false =>
      simp only [Bool.false_eq_true, if_false] at h
      obtain ⟨r', h1, h2, h3⟩ := findAsking_bare kt k w t (i + 1) r h
      refine ⟨r', by simp [Instr.findAsking, hrun', h1], h2, fun j v hj => ?_⟩
      obtain ⟨k1, e', k2, k3⟩ := h3 j v hj
      refine ⟨by omega, e', ?_, k3⟩
      rw [show j - i = (j - (i + 1)) + 1 by omega]
      simpa using k2

theorem afind_sound {kt : TypeId} {empty : Bool} {k : Value} {ks : List Value} {ri : Option Nat} {ents : List MapEntry} (h : afind P kt empty k ks = some ri) (hk : ks = ents.map (·.key)) (w : World) :
    (Instr.checkKey empty 10000 kt k).run P w = .ok () w ∧ ∃ r', (Instr.findKey kt k ents).run P w = .ok r' w ∧ ri = r'.map Prod.fst ∧ ∀ j v, r' = some (j, v) → ∃ e, ents[j]? = some e ∧ e.val = v := by
  unfold afind at h
  split at h
  · rename_i r hc hf
    cases h
    refine ⟨evalPure_run hc w, ?_⟩
    have hmap : (ks.map fun x => (⟨x, undef, 0⟩ : MapEntry)) = ents.map fun e => bareEntry e.key := by rw [hk, List.map_map]; rfl
    rw [hmap] at hf
    unfold Instr.findKey at hf
    obtain ⟨d, hd, hf⟩ := evalPure_bind hf
    have hdr : (underlying kt).run P w = .ok d w := evalPure_run hd w
    rw [findNow_bare] at hf
    cases hn : Instr.findNow d k ents 0 with
    | some r0 =>
      simp only [hn, Option.map_some] at hf
      cases hf
      refine ⟨r0, by simp [Instr.findKey, hdr, hn], by cases r0 <;> rfl, fun j v hj => ?_⟩
      subst hj
      obtain ⟨_, e, h1, h2⟩ := findNow_at d k ents 0 j v hn
      exact ⟨e, by simpa using h1, h2⟩
    | none =>
      simp only [hn, Option.map_none] at hf
      obtain ⟨r', h1, h2, h3⟩ := findAsking_bare kt k w ents 0 r hf
      refine ⟨r', by simp [Instr.findKey, hdr, hn, h1], by rw [h2]; cases r' <;> rfl, fun j v hj => ?_⟩
      obtain ⟨_, e, k1, k2⟩ := h3 j v hj
      exact ⟨e, by simpa using k1, k2⟩
  · cases h

theorem ERel.keys {G : Gh} : ∀ {xs : List AEntry} {es : List MapEntry}, ERel G xs es → xs.map (·.key) = es.map (·.key)
  | [], [], _ => rfl
  | a :: r, e :: t, h => by simp [h.1, ERel.keys h.2.2.2]
  | [], _ :: _, h => h.elim
  | _ :: _, [], h => h.elim
theorem ERel.get {G : Gh} : ∀ {xs : List AEntry} {es : List MapEntry} {i : Nat} {a : AEntry}, ERel G xs es → xs[i]? = some a → ∃ e, es[i]? = some e ∧ a.key = e.key ∧ a.born = e.born ∧ VRel G a.val e.val
  | [], [], _, _, _, h => by simp at h
  | x :: r, e :: t, 0, a, h, ha => by
    simp at ha
    subst ha
    exact ⟨e, rfl, h.1, h.2.1, h.2.2.1⟩
  | x :: r, e :: t, i + 1, a, h, ha => by
    obtain ⟨e', h1, h2⟩ := ERel.get h.2.2.2 (show r[i]? = some a by simpa using ha)
    exact ⟨e', by simpa using h1, h2⟩
  | [], _ :: _, _, _, h, _ => h.elim
  | _ :: _, [], _, _, h, _ => h.elim
theorem ERel.set {G : Gh} : ∀ {xs : List AEntry} {es : List MapEntry} {i : Nat} {a : AEntry} {e : MapEntry}, ERel G xs es → a.key = e.key → a.born = e.born → VRel G a.val e.val → ERel G (xs.set i a) (es.set i e)
  | [], [], _, _, _, _, _, _, _ => trivial
  | x :: r, y :: t, 0, a, e, h, h1, h2, h3 => ⟨h1, h2, h3, h.2.2.2⟩
  | x :: r, y :: t, i + 1, a, e, h, h1, h2, h3 => ⟨h.1, h.2.1, h.2.2.1, ERel.set h.2.2.2 h1 h2 h3⟩
  | [], _ :: _, _, _, _, h, _, _, _ => h.elim
  | _ :: _, [], _, _, _, h, _, _, _ => h.elim
theorem ERel.push {G : Gh} {a : AEntry} {e : MapEntry} (h1 : a.key = e.key) (h2 : a.born = e.born) (h3 : VRel G a.val e.val) : ∀ {xs : List AEntry} {es : List MapEntry}, ERel G xs es → ERel G (xs ++ [a]) (es ++ [e])
  | [], [], _ => ⟨h1, h2, h3, trivial⟩
  | x :: r, y :: t, h => ⟨h.1, h.2.1, h.2.2.1, ERel.push h1 h2 h3 h.2.2.2⟩
  | [], _ :: _, h => h.elim
  | _ :: _, [], h => h.elim
theorem ERel.lvs {G : Gh} {l : Nat} (hG : ∀ p g n x, G.own p g n = some x → p.l ≤ l) : ∀ {xs : List AEntry} {es : List MapEntry}, ERel G xs es → xs.all (fun e => e.val.lv l) = true
  | [], [], _ => rfl
  | a :: r, e :: t, h => by simp [h.2.2.1.lvs hG, ERel.lvs hG h.2.2.2]
  | [], _ :: _, h => h.elim
  | _ :: _, [], h => h.elim

theorem modify_set {ents : Array MapEntry} {i : Nat} {e : MapEntry} (h : ents[i]? = some e) (f : MapEntry → MapEntry) : ((ents.modify i f).toList) = ents.toList.set i (f e) := by
  obtain ⟨hi, he⟩ := Array.getElem?_eq_some_iff.1 h
  rw [Array.toList_modify]
  apply List.ext_getElem?
  intro j
  rw [List.getElem?_modify, List.getElem?_set]
  by_cases hj : i = j
  · subst hj
    simp [hi, he]
  · simp [hj]

/-- A map's slot. -/
theorem WRel.mapAt [Cfg] (hW : WRel G S w B) {p : Loc} {g b c : Nat} {es : List AEntry} {ck : Nat} (hs : S.get p = some (.map g es ck)) (ho : G.own p g 0 = some (b, c)) : ∃ ents, w.heap[b]? = some (.map ents ck) ∧ ERel G es ents.toList :=
  hW.slot p (.map g es ck) hs rfl b c ho

/-- A map is laid anew. -/
theorem WRel.setMap [Cfg] (hW : WRel G S w B) {p : Loc} {g b c : Nat} {es es' : List AEntry} {ck ck' : Nat} {ents' : Array MapEntry} (hs : S.get p = some (.map g es ck)) (ho : G.own p g 0 = some (b, c)) (he : ERel G es' ents'.toList) :
    ∃ G', WRel G' (S.set p (.map g es' ck')) { w with heap := w.heap.setIfInBounds b (.map ents' ck') } B ∧ Mod G S w G' (S.set p (.map g es' ck')) { w with heap := w.heap.setIfInBounds b (.map ents' ck') } := by
  obtain ⟨ents, hb, _⟩ := hW.mapAt hs ho
  have hlt : b < w.heap.size := (Array.getElem?_eq_some_iff.1 hb).1
  obtain ⟨G', _, k2, k3⟩ := hW.setSlot (s := .map g es' ck') (t := .map g es ck) (w' := { w with heap := w.heap.setIfInBounds b (.map ents' ck') }) hs rfl ho rfl (Nat.le_refl _) (hW.imm_none hb (by simp)) (he.lvs hW.own_lvl)
    (fun x hx => by simp [Ne.symm hx]) (by simp) rfl rfl rfl fun G' hle himm => ⟨ents', by simp [hlt], he.mono hle⟩
  exact ⟨G', k2, k3⟩

theorem amakeMap_sound [Cfg] (hW : WRel G S w B) (t : TypeId) (d : Tmp) : ArOk P G S w B ((do pure (.value (← Instr.makeMap t none)) : Sem Next).run P w) (.chg (.mref (S.here d) (S.fresh (S.here d))) (S.here d) (.map (S.fresh (S.here d)) [] 0)) := by
  obtain ⟨G', k1, k2, k3⟩ := hW.newSlot (p := S.here d) (Nat.le_refl _) (.map (S.fresh (S.here d)) [] 0) rfl (.map #[] 0) 0 rfl fun G' hle himm => ⟨#[], heap_alloc_new w _, trivial⟩
  exact ⟨G', _, _, .inl (by simp [run_makeMap]), .mref _ _ _ _ k1, k2, k3⟩

theorem alookup_sound [Cfg] (hW : WRel G S w B) {t : TypeId} {m k y : AV} {mv kv : Value} {ok : Bool} (h : alookup P S t m k ok = some y) (hm : VRel G m mv) (hk : VRel G k kv) : ∃ z, (Instr.lookup t mv kv ok).run P w = .ok z w ∧ VRel G y z := by
  unfold alookup at h
  split at h
  case h_2 => cases h
  rename_i kt vt k' ht hkv
  have hkk := hk.toV hkv
  subst hkk
  split at h
  case h_2 => cases h
  rename_i es hes
  have key : ∀ (ents : Array MapEntry), ERel G es ents.toList →
      ∃ z, VRel G y z ∧ (Instr.checkKey ents.isEmpty 10000 kt kv).run P w = .ok () w ∧
        ((∃ i v, (Instr.findKey kt kv ents.toList).run P w = .ok (some (i, v)) w ∧ z = if ok then .tuple #[v, .bool true] else v) ∨
         (∃ v, (Instr.findKey kt kv ents.toList).run P w = .ok none w ∧ (zeroValue vt).run P w = .ok v w ∧ z = if ok then .tuple #[v, .bool false] else v)) := by
    intro ents he
    split at h
    case h_2 => cases h
    rename_i r z hf hz
    have hemp : es.isEmpty = ents.isEmpty := by
      have h1 : es.isEmpty = ents.toList.isEmpty := by
        have := he.length
        cases es <;> cases hx : ents.toList <;> simp_all
      rw [h1]
      cases ents
      simp
    rw [hemp] at hf
    obtain ⟨h1, r', h2, h3, h4⟩ := afind_sound hf he.keys w
    have hzero := run_zero (P := P) hz w
    cases r' with
    | none =>
      subst h3
      simp only [Option.map_none] at h
      cases h
      refine ⟨if ok then .tuple #[z, .bool false] else z, ?_, h1, .inr ⟨z, h2, hzero, rfl⟩⟩
      cases ok
      · exact ofV1_rel G z
      · exact .tup _ [z, .bool false] rfl (CRel.cons (ofV1_rel G z) (CRel.cons (.lit _) (CRel.nil G))).2
    | some jv =>
      obtain ⟨j, v⟩ := jv
      subst h3
      simp only [Option.map_some] at h
      obtain ⟨e, he', rfl⟩ := Option.map_eq_some_iff.1 h
      obtain ⟨e2, k1, k2, k3, k4⟩ := he.get he'
      obtain ⟨e3, m1, m2⟩ := h4 j v rfl
      rw [k1] at m1
      cases m1
      subst m2
      refine ⟨if ok then .tuple #[e2.val, .bool true] else e2.val, ?_, h1, .inl ⟨j, _, h2, rfl⟩⟩
      cases ok
      · exact k4
      · exact .tup _ [e2.val, .bool true] rfl (CRel.cons k4 (CRel.cons (.lit _) (CRel.nil G))).2
  split at hes
  · cases hes
    rw [hm.lit_inv]
    obtain ⟨z, h1, h2, h3⟩ := key #[] trivial
    refine ⟨z, ?_, h1⟩
    rcases h3 with ⟨i, v, k1, rfl⟩ | ⟨v, k1, k2, rfl⟩
    · simp at h2 k1
      simp [Instr.lookup, run_underlying ht, h2, k1]
    · simp at h2 k1
      simp [Instr.lookup, run_underlying ht, h2, k1, k2]
  · rename_i p g
    cases hm with
    | mref _ _ b c ho =>
      split at hes
      · rename_i g' es' ck hs
        split at hes
        · rename_i hg
          subst hg
          cases hes
          obtain ⟨ents, hb, he⟩ := hW.mapAt hs ho
          obtain ⟨z, h1, h2, h3⟩ := key ents he
          refine ⟨z, ?_, h1⟩
          rcases h3 with ⟨i, v, k1, rfl⟩ | ⟨v, k1, k2, rfl⟩
          · simp [Instr.lookup, run_underlying ht, getMap hb, h2, k1]
          · simp [Instr.lookup, run_underlying ht, getMap hb, h2, k1, k2]
        · cases hes
      · cases hes
  · cases hes

theorem stays_run {old new : Value} (h : Instr.sameBits 10000 old new = true) (w : World) : (Instr.keyThatStays old new).run P w = .ok new w := by
  unfold Instr.keyThatStays
  rw [if_pos h]
  rfl

theorem amapUpdate_sound [Cfg] (hW : WRel G S w B) {t : TypeId} {m k x : AV} {mv kv xv : Value} {y : AR} (h : amapUpdate P S t m k x = some y) (hm : VRel G m mv) (hk : VRel G k kv) (hx : VRel G x xv) {r : Result Next}
    (hr : ∀ w', (Instr.mapUpdate t mv kv xv).run P w = .ok () w' → r = .ok .skip w') : ArOk P G S w B r y := by
  unfold amapUpdate at h
  split at h
  case h_2 => cases h
  rename_i kt vt p g k' ht hkv
  have hkk := hk.toV hkv
  subst hkk
  cases hm with
  | mref _ _ b c ho =>
    split at h
    case h_2 => cases h
    rename_i g' es ck hs
    split at h
    case isFalse => cases h
    rename_i hg
    subst hg
    obtain ⟨ents, hb, he⟩ := hW.mapAt hs ho
    split at h
    · rename_i i hf
      obtain ⟨h1, r', h2, h3, h4⟩ := afind_sound hf he.keys w
      cases r' with
      | none => cases h3
      | some jv =>
        obtain ⟨j, v⟩ := jv
        obtain rfl : i = j := by simpa using h3
        split at h
        · rename_i e hei
          split at h
          · rename_i hsame
            cases h
            obtain ⟨e2, k1, k2, k3, k4⟩ := he.get hei
            have k1' : ents[i]? = some e2 := by simpa using k1
            have he' : ERel G (es.set i ⟨kv, x, e.born⟩) (ents.modify i fun e => { e with key := kv, val := xv }).toList := by
              rw [modify_set k1']
              exact he.set rfl k3 hx
            obtain ⟨G', m1, m2⟩ := hW.setMap (ck' := ck) hs ho he'
            refine ⟨G', _, undef, .inr ⟨hr _ ?_, rfl⟩, .lit _, m1, m2⟩
            rw [k2] at hsame
            simp [Instr.mapUpdate, run_underlying ht, getMap hb, h1, h2, k1', stays_run hsame, setMap hb]
          · cases h
        · cases h
    · rename_i hf
      obtain ⟨h1, r', h2, h3, h4⟩ := afind_sound hf he.keys w
      cases r' with
      | some jv => cases h3
      | none =>
        cases h
        have he' : ERel G (es ++ [⟨kv, x, ck⟩]) (ents.push { key := kv, val := xv, born := ck }).toList := by
          rw [Array.toList_push]
          exact ERel.push rfl rfl hx he
        obtain ⟨G', m1, m2⟩ := hW.setMap (ck' := ck + 1) hs ho he'
        refine ⟨G', _, undef, .inr ⟨hr _ ?_, rfl⟩, .lit _, m1, m2⟩
        simp [Instr.mapUpdate, run_underlying ht, getMap hb, h1, h2, setMap hb]
    · cases h

theorem amapEntry_sound [Cfg] (hW : WRel G S w B) {t : TypeId} {m k : AV} {mv kv : Value} {y : AR} (h : amapEntry P S t m k = some y) (hm : VRel G m mv) (hk : VRel G k kv) {r : Result Next}
    (hr : ∀ z w', (Instr.mapEntry t mv kv).run P w = .ok z w' → r = .ok (.value z) w') : ArOk P G S w B r y := by
  unfold amapEntry at h
  split at h
  case h_2 => cases h
  rename_i kt vt p g k' ht hkv
  have hkk := hk.toV hkv
  subst hkk
  cases hm with
  | mref _ _ b c ho =>
    split at h
    case h_2 => cases h
    rename_i g' es ck z hs hz
    split at h
    case isFalse => cases h
    rename_i hg
    subst hg
    obtain ⟨ents, hb, he⟩ := hW.mapAt hs ho
    split at h
    · rename_i i hf
      obtain ⟨h1, r', h2, h3, h4⟩ := afind_sound hf he.keys w
      cases r' with
      | none => cases h3
      | some jv =>
        obtain ⟨j, v⟩ := jv
        obtain rfl : i = j := by simpa using h3
        split at h
        · rename_i e hei
          split at h
          · rename_i hsame
            split at h
            case isFalse => cases h
            cases h
            obtain ⟨e2, k1, k2, k3, k4⟩ := he.get hei
            obtain ⟨e3, q1, q2⟩ := h4 i v rfl
            rw [k1] at q1
            cases q1
            subst q2
            have k1' : ents[i]? = some e2 := by simpa using k1
            have he' : ERel G (es.set i ⟨kv, e.val, e.born⟩) (ents.modify i fun e => { e with key := kv }).toList := by
              rw [modify_set k1']
              exact he.set rfl k3 k4
            obtain ⟨G', m1, m2⟩ := hW.setMap (ck' := ck) hs ho he'
            refine ⟨G', _, .tuple #[e2.val, goInt e2.born], .inl (hr _ _ ?_), ?_, m1, m2⟩
            · rw [k2] at hsame
              simp [Instr.mapEntry, run_underlying ht, getMap hb, h1, h2, k1', stays_run hsame, setMap hb]
            · rw [k3]
              exact .tup _ [e2.val, goInt e2.born] rfl (CRel.cons (k4.mono m2.le) (CRel.cons (.lit _) (CRel.nil G'))).2
          · cases h
        · cases h
    · rename_i hf
      obtain ⟨h1, r', h2, h3, h4⟩ := afind_sound hf he.keys w
      cases r' with
      | some jv => cases h3
      | none =>
        split at h
        case isFalse => cases h
        cases h
        have he' : ERel G (es ++ [⟨kv, AV.ofV1 z, ck⟩]) (ents.push { key := kv, val := z, born := ck }).toList := by
          rw [Array.toList_push]
          exact ERel.push rfl rfl (ofV1_rel G z) he
        obtain ⟨G', m1, m2⟩ := hW.setMap (ck' := ck + 1) hs ho he'
        refine ⟨G', _, .tuple #[z, goInt ck], .inl (hr _ _ ?_), ?_, m1, m2⟩
        · simp [Instr.mapEntry, run_underlying ht, getMap hb, h1, h2, setMap hb, run_zero hz]
        · exact .tup _ [z, goInt ck] rfl (CRel.cons (ofV1_rel G' z) (CRel.cons (.lit _) (CRel.nil G'))).2
    · cases h

theorem ERel.findBorn {G : Gh} (b : Int) : ∀ {xs : List AEntry} {es : List MapEntry}, ERel G xs es → xs.findIdx? (fun e => (e.born : Int) == b) = es.findIdx? (fun e => (e.born : Int) == b)
  | [], [], _ => rfl
  | a :: r, e :: t, h => by
    rw [List.findIdx?_cons, List.findIdx?_cons, h.2.1, ERel.findBorn b h.2.2.2]
  | [], _ :: _, h => h.elim
  | _ :: _, [], h => h.elim

theorem aentryStore_sound [Cfg] (hW : WRel G S w B) {t : TypeId} {m st x : AV} {mv sv xv : Value} {y : AR} (h : aentryStore S m st x = some y) (hm : VRel G m mv) (hst : VRel G st sv) (hx : VRel G x xv) {r : Result Next}
    (hr : ∀ w', (Instr.entryStore t mv sv xv).run P w = .ok () w' → r = .ok .skip w') : ArOk P G S w B r y := by
  unfold aentryStore at h
  split at h
  case h_2 => cases h
  rename_i p g kk bb
  rw [hst.lit_inv] at hr
  cases hm with
  | mref _ _ b c ho =>
    split at h
    case h_2 => cases h
    rename_i g' es ck hs
    split at h
    case isFalse => cases h
    rename_i hg
    subst hg
    obtain ⟨ents, hb, he⟩ := hW.mapAt hs ho
    split at h
    · rename_i i hi
      split at h
      · rename_i e hei
        cases h
        obtain ⟨e2, k1, k2, k3, k4⟩ := he.get hei
        have k1' : ents[i]? = some e2 := by simpa using k1
        have he' : ERel G (es.set i ⟨e.key, x, e.born⟩) (ents.modify i fun e => { e with val := xv }).toList := by
          rw [modify_set k1']
          exact he.set k2 k3 hx
        obtain ⟨G', m1, m2⟩ := hW.setMap (ck' := ck) hs ho he'
        refine ⟨G', _, undef, .inr ⟨hr _ ?_, rfl⟩, .lit _, m1, m2⟩
        rw [he.findBorn] at hi
        have hi' : ents.findIdx? (fun e => (e.born : Int) == bb) = some i := by
          rw [← hi]
          cases ents
          simp
        simp [Instr.entryStore, getMap hb, asInt, asIntOf, hi', setMap hb]
      · cases h
    · cases h
end
end Go.Proofs.YtjdccpmbaobpdaaGreatDoor

namespace Go.Proofs.YtjdccpmbaobpdaaGreatDoor
open Go.RowKit

/-- What the choices promise. -/
structure CfgOk [Cfg] (P : Program) : Prop where
  same : ∀ f, Cfg.same f = true → ∀ v w, (callFunc f #[v]).run P w = .ok (.value v) w

section
variable {P : Program} {G : Gh} {S : AS} {w : World} {B : Nat → Nat}

theorem valOk [Cfg] (hW : WRel G S w B) {s : Sem Value} {y : AV} (h : ∃ z, s.run P w = .ok z w ∧ VRel G y z) : OpOk G S w B ((do pure (.value (← s)) : Sem Next).run P w) y S := by
  obtain ⟨z, h1, h2⟩ := h
  exact opOk_same hW (by simp [h1]) h2

theorem map_val {r : Option AV} {x : AR} (h : r.map AR.val = some x) : ∃ y, r = some y ∧ x = .val y := by
  obtain ⟨y, h1, h2⟩ := Option.map_eq_some_iff.1 h
  exact ⟨y, h1, h2.symm⟩

theorem CRel.map_eval {T : TM} {a : Act} (hT : TRel G S T a) (l : List Operand) : CRel G (l.map (aev T)) (l.map a.eval) := by
  refine ⟨by simp, fun i x y hx hy => ?_⟩
  rw [List.getElem?_map] at hx hy
  cases hl : l[i]? with
  | none => simp [hl] at hx
  | some o =>
    simp [hl] at hx hy
    rw [← hx, ← hy]
    exact hT.eval o

theorem map_arr {α β : Type} (l : Array α) (f : α → β) : (l.toList.map f).toArray = l.map f := by apply Array.ext'; simp

theorem box_sound [Cfg] (hW : WRel G S w B) {d : Tmp} {cs : List AV} {vs : List Value} {e : TypeId} (hc : CRel G cs vs) {r : Result Next} (hr : r = .ok (.value (.pointer (some ⟨w.heap.size, 0, none⟩))) (w.alloc (.cells vs.toArray e))) :
    OpOk G S w B r (.ptr (S.here d) (S.fresh (S.here d)) 0 0) (S.set (S.here d) (.obj (S.fresh (S.here d)) e cs)) := by
  obtain ⟨G', h1, h2, h3⟩ := hW.newSlot (p := S.here d) (Nat.le_refl _) (.obj (S.fresh (S.here d)) e cs) rfl (.cells vs.toArray e) 0 (hc.lvs hW.own_lvl) fun G' hle himm => ⟨himm, vs.toArray, (0, 0), heap_alloc_new w _, (fun o _ _ h => by simp at h), hc.mono hle⟩
  exact ⟨G', _, _, .inl hr, .ptr _ _ 0 0 _ _ h1, h2, h3⟩

theorem callee_sound {T : TM} {a : Act} (hT : TRel G S T a) {f : Operand} {g : FuncId} {cs : List AV} (h : acallee (aev T f) = some (g, cs)) (args : Array Operand) :
    ∃ cap vs, (Deferred.ofValue (a.eval f) (args.map a.eval)) = pure { target := .fn (.func g) cap, args := args.map a.eval } ∧ vs = args.toList.map a.eval ++ cap.toList ∧ CRel G (args.toList.map (aev T) ++ cs) vs ∧ (args.map a.eval ++ cap) = vs.toArray := by
  have hfv := hT.eval f
  unfold acallee at h
  split at h
  · rename_i g' first cap hg
    split at h
    · rename_i hz
      cases h
      rw [hg] at hfv
      have hb := hfv.lit_inv
      have e1 : first = #[] := Array.eq_empty_of_size_eq_zero hz.1
      have e2 : cap = #[] := Array.eq_empty_of_size_eq_zero hz.2
      subst e1 e2
      refine ⟨#[], args.toList.map a.eval, by simp [hb, Deferred.ofValue], by simp, by simpa using CRel.map_eval hT args.toList, ?_⟩
      rw [map_arr]; simp
    · cases h
  · rename_i g' xs hg
    cases h
    rw [hg] at hfv
    generalize hv : a.eval f = fv at hfv
    cases hfv with
    | fn _ _ vs hl hr =>
      refine ⟨vs.toArray, args.toList.map a.eval ++ vs, by simp [Deferred.ofValue], by simp, (CRel.map_eval hT args.toList).append ⟨hl, hr⟩, ?_⟩
      rw [← List.append_toArray, map_arr]
  · cases h

set_option maxHeartbeats 1000000 in
theorem aop_sound [Cfg] (hC : CfgOk P) (hW : WRel G S w B) {T : TM} {a : Act} (hT : TRel G S T a) {o : Oper} {x : AR} (h : aop P S (aev T) o = some x) : ArOk P G S w B ((execOp a.eval o).run P w) x := by
  unfold aop at h
  split at h
  case h_1 x' ho => cases h; exact opOk_same hW (by simp only [execOp, ho]; rfl) (hT.eval x')
  case h_2 x' ho => cases h; exact opOk_same hW (by simp only [execOp, ho]; rfl) (hT.eval x')
  case h_3 c x1 x2 ho =>
    split at h
    · rename_i t hc
      cases h
      have := hT.eval c
      rw [hc] at this
      have hb := this.lit_inv
      cases t
      · exact opOk_same hW (by simp only [execOp, ho, hb, asBool]; rfl) (hT.eval x2)
      · exact opOk_same hW (by simp only [execOp, ho, hb, asBool]; rfl) (hT.eval x1)
    · cases h
  case h_4 elem ho =>
    split at h
    · rename_i d z hd hz
      cases h
      refine box_sound hW (CRel.lits G z.cells.toList) (e := elem) ?_
      simp [execOp, ho, Instr.alloc, run_zero hz, newVar, newRow]
    · cases h
  case h_5 elem x' ho =>
    split at h
    · rename_i d hd
      cases h
      refine box_sound hW (hT.eval x').cells (e := elem) ?_
      simp [execOp, ho, Instr.box, newVar, newRow]
    · cases h
  case h_6 t parts ho =>
    obtain ⟨y, hy, rfl⟩ := map_val h
    have hp := parts_rel hT parts.toList
    have := abuild_sound hy hp.1 hp.2 w
    rw [map_arr] at this
    simp only [execOp, ho]
    exact valOk hW this
  case h_7 t len parts ho =>
    have hp := parts_rel hT parts.toList
    have e : (parts.toList.map fun (i, x) => (i, a.eval x)).toArray = parts.map fun (i, x) => (i, a.eval x) := by
      apply Array.ext'; simp
    refine abuildSlice_sound hW h hp.1 hp.2 fun u w' hu => ?_
    rw [e] at hu
    simp [execOp, ho, hu]
  case h_8 t x' ho =>
    obtain ⟨y, hy, rfl⟩ := map_val h
    simp only [execOp, ho]
    exact valOk hW (aload_sound hW hy (hT.eval x'))
  case h_9 t x' v ho =>
    obtain ⟨y, hy, rfl⟩ := Option.map_eq_some_iff.1 h
    obtain ⟨G', w', h1, h2, h3⟩ := astore_sound (P := P) hW hy (hT.eval x') (hT.eval v)
    exact ⟨G', w', undef, .inr ⟨by simp [execOp, ho, h1], rfl⟩, .lit _, h2, h3⟩
  case h_10 x' ho =>
    refine orPure_sound hW hT h fun y hy => ?_
    obtain ⟨z, hz, rfl⟩ := map_val hy
    exact anil_sound hW hT ho hz
  case h_11 op t x1 x2 yt ho =>
    refine orPure_sound hW hT h fun y hy => ?_
    obtain ⟨z, hz, rfl⟩ := map_val hy
    simp only [execOp, ho]
    exact valOk hW (acmp_sound hz (hT.eval x1) (hT.eval x2) x1 x2 w)
  case h_12 t x' ho =>
    split at h
    · rename_i d hd
      split at h
      · cases h
      · rename_i hi
        cases h
        simp only [execOp, ho]
        refine valOk hW ⟨.iface t (a.eval x'), ?_, .iface t _ _ (hT.eval x')⟩
        cases d <;> first | (simp [isIfaceD] at hi; done) | simp [Instr.makeInterface, run_underlying hd]
    · cases h
  case h_13 fn first cap ho =>
    split at h
    · rename_i f
      split at h
      · rename_i hf
        cases h
        simp only [execOp, ho]
        have hc := CRel.map_eval hT cap.toList
        refine valOk hW ⟨.func (.func f) #[] (cap.toList.map a.eval).toArray, ?_, .fn f _ _ hc.1 hc.2⟩
        have e1 : first = #[] := Array.eq_empty_of_size_eq_zero hf
        subst e1
        rw [map_arr]
        simp [Instr.makeFunc]
      · cases h
    · cases h
  case h_14 t r ho =>
    split at h
    · rename_i d hd
      cases h
      have := amakeMap_sound (P := P) hW t d
      simpa [execOp, ho] using this
    · cases h
  case h_15 t l c ho =>
    simp only [execOp, ho]
    exact amakeSlice_sound hW h (hT.eval l) (hT.eval c)
  case h_16 t x' lo hi mx ho =>
    refine orPure_sound hW hT h fun y hy => ?_
    obtain ⟨z, hz, rfl⟩ := map_val hy
    simp only [execOp, ho]
    refine valOk hW (aslice_sound hz (hT.eval x') ?_ ?_ ?_ ?_ ?_ ?_ w)
    · intro y hy; obtain ⟨q, rfl, rfl⟩ := Option.map_eq_some_iff.1 hy; exact ⟨_, rfl, hT.eval q⟩
    · intro e; rw [Option.map_eq_none_iff] at e; rw [e]; rfl
    · intro y hy; obtain ⟨q, rfl, rfl⟩ := Option.map_eq_some_iff.1 hy; exact ⟨_, rfl, hT.eval q⟩
    · intro e; rw [Option.map_eq_none_iff] at e; rw [e]; rfl
    · intro y hy; obtain ⟨q, rfl, rfl⟩ := Option.map_eq_some_iff.1 hy; exact ⟨_, rfl, hT.eval q⟩
    · intro e; rw [Option.map_eq_none_iff] at e; rw [e]; rfl
  case h_17 s x' f ho =>
    obtain ⟨y, hy, rfl⟩ := map_val h
    simp only [execOp, ho]
    exact valOk hW (afieldAddr_sound hy (hT.eval x') w)
  case h_18 s x' f ho =>
    obtain ⟨y, hy, rfl⟩ := map_val h
    simp only [execOp, ho]
    exact valOk hW (afield_sound hy (hT.eval x') w)
  case h_19 t x' i ho =>
    obtain ⟨y, hy, rfl⟩ := map_val h
    simp only [execOp, ho]
    exact valOk hW (aindexAddr_sound hy (hT.eval x') (hT.eval i) w)
  case h_20 t x' i ho =>
    refine orPure_sound hW hT h fun y hy => ?_
    obtain ⟨z, hz, rfl⟩ := map_val hy
    simp only [execOp, ho]
    exact valOk hW (aindex_sound hz (hT.eval x') (hT.eval i) w)
  case h_21 t m k ok ho =>
    obtain ⟨y, hy, rfl⟩ := map_val h
    simp only [execOp, ho]
    exact valOk hW (alookup_sound hW hy (hT.eval m) (hT.eval k))
  case h_22 t m k x' ho => exact amapUpdate_sound (P := P) hW h (hT.eval m) (hT.eval k) (hT.eval x') fun w' hw => by simp [execOp, ho, hw]
  case h_23 t m k x' ho => exact amapUpdate_sound (P := P) hW h (hT.eval m) (hT.eval k) (hT.eval x') fun w' hw => by simp [execOp, ho, hw]
  case h_24 t m k ho => exact amapEntry_sound (P := P) hW h (hT.eval m) (hT.eval k) fun z w' hw => by simp [execOp, ho, hw]
  case h_25 t m st x' ho => exact aentryStore_sound (P := P) (t := t) hW h (hT.eval m) (hT.eval st) (hT.eval x') fun w' hw => by simp [execOp, ho, hw]
  case h_26 t x' ho =>
    split at h
    · rename_i s d ht hx hd
      cases h
      have hv := hT.eval x'
      rw [hx] at hv
      have := arange_sound (P := P) (d := d) hW ht hv
      simpa only [execOp, ho] using this
    · cases h
  case h_27 it isS ho =>
    split at h
    · rename_i hs
      subst hs
      have := anext_sound (P := P) (ty := o.type) hW h (hT.eval it)
      simpa only [execOp, ho] using this
    · cases h
  case h_28 x' xt asserted ok ho =>
    refine orPure_sound hW hT h fun y hy => ?_
    obtain ⟨z, hz, rfl⟩ := map_val hy
    simp only [execOp, ho]
    exact valOk hW (aassert_sound hz (hT.eval x') w)
  case h_29 t i ho =>
    split at h
    · rename_i cs hcs
      obtain ⟨y, hy, rfl⟩ := map_val h
      have := hT.eval t
      rw [hcs] at this
      obtain ⟨vs, hv, hc⟩ := this.tup_inv
      obtain ⟨u, hu, hr⟩ := hc.get hy
      simp only [execOp, ho]
      refine valOk hW ⟨u, ?_, hr⟩
      simp [Instr.extract, hv, hu]
    · cases h
  case h_30 src dst x' ho =>
    refine orPure_sound hW hT h fun y hy => ?_
    have : ArOk P G S w B ((do pure (.value (← convert src dst (a.eval x'))) : Sem Next).run P w) y := by
      cases hcv : aconvert P S src dst (aev T x') with
      | some z => rw [hcv] at hy; cases hy; exact aconvert_sound (P := P) hW hcv (hT.eval x')
      | none => rw [hcv] at hy; exact aconvPtr_sound (P := P) hW hy (hT.eval x')
    simpa only [execOp, ho] using this
  case h_31 => exact pureOp_sound hW hT h
  case h_32 x' ho =>
    split at h
    · rename_i t b hb
      cases h
      have hv := hT.eval x'
      rw [hb] at hv
      refine ⟨a.eval x', hv, ?_⟩
      generalize he : a.eval x' = u at hv
      cases hv with
      | iface _ _ u' hu => simp [execOp, ho, he, Instr.panic, goPanic]
    · cases h
  case h_33 c ho =>
    split at h
    · rename_i f hcal
      split at h
      · rename_i g cs hg
        cases h
        obtain ⟨cap, vs, h1, h2, h3, h4⟩ := callee_sound hT hg c.args
        refine ⟨{ target := .fn (.func g) cap, args := c.args.map a.eval }, ?_, cap, rfl, ?_⟩
        · simp [execOp, ho, resolve, hcal, h1]
        · rw [h4]; exact h3
      · cases h
    · cases h
  case h_34 c ho =>
    split at h
    · rename_i hcal
      unfold aappendC at h
      split at h
      · rename_i s x' t u hargs htys
        obtain ⟨s', l1, e0, hs', hl1⟩ := List.map_eq_cons_iff.1 hargs
        obtain ⟨x'', l2, e0', hx', hl2⟩ := List.map_eq_cons_iff.1 hl1
        have hl3 : l2 = [] := List.map_eq_nil_iff.1 hl2
        subst hl3
        subst e0'
        subst hs'
        subst hx'
        have e1 : c.args = #[s', x''] := by apply Array.ext'; simpa using e0
        have e2 : c.argTypes = #[t, u] := by apply Array.ext'; simpa using htys
        split at h
        · rename_i hu
          have := aappend_sound (P := P) (ty := o.type) hW hu rfl h (hT.eval s') (hT.eval x'')
          simpa [execOp, ho, resolve, hcal, e1, e2, invoke, builtin] using this
        · rename_i hu
          have := aappend_sound (P := P) (ty := o.type) hW hu rfl h (hT.eval s') (hT.eval x'')
          simpa [execOp, ho, resolve, hcal, e1, e2, invoke, builtin] using this
        · cases h
      · cases h
    · rename_i hcal
      refine orPure_sound hW hT h fun y hy => ?_
      unfold alenC at hy
      split at hy
      · rename_i x' t hargs htys
        obtain ⟨z, hz, rfl⟩ := map_val hy
        obtain ⟨s', l1, e0, hs', hl1⟩ := List.map_eq_cons_iff.1 hargs
        have hl3 : l1 = [] := List.map_eq_nil_iff.1 hl1
        subst hl3
        subst hs'
        have e1 : c.args = #[s'] := by apply Array.ext'; simpa using e0
        have e2 : c.argTypes = #[t] := by apply Array.ext'; simpa using htys
        have := valOk hW (alen_sound (P := P) (ty := o.type) hW hz (hT.eval s'))
        show OpOk G S w B _ z S
        simpa [execOp, ho, resolve, hcal, e1, e2, invoke, builtin] using this
      · cases hy
    · rename_i hcal
      have hh := h
      unfold acopyC at h
      split at h
      · rename_i s x' t tl hargs htys
        obtain ⟨s', l1, e0, hs', hl1⟩ := List.map_eq_cons_iff.1 hargs
        obtain ⟨x'', l2, e0', hx', hl2⟩ := List.map_eq_cons_iff.1 hl1
        have hl3 : l2 = [] := List.map_eq_nil_iff.1 hl2
        subst hl3
        subst e0'
        subst hs'
        subst hx'
        have e1 : c.args = #[s', x''] := by apply Array.ext'; simpa using e0
        rw [hargs, htys] at hh
        have := acopy_sound (P := P) (ty := o.type) hW hh (hT.eval s') (hT.eval x'')
        have e2 : c.argTypes = (t :: tl).toArray := by apply Array.ext'; simpa using htys
        simpa [execOp, ho, resolve, hcal, e1, e2, invoke, builtin] using this
      · cases h
    · exact pureOp_sound hW hT h
    · exact pureOp_sound hW hT h
    · rename_i f hcal
      split at h
      · rename_i g cs hg
        obtain ⟨cap, vs, h1, h2, h3, h4⟩ := callee_sound hT hg c.args
        have hrun : (execOp a.eval o).run P w = (callFunc g vs.toArray).run P w := by simp [execOp, ho, resolve, hcal, h1, invoke, h4]
        split at h
        · rename_i fn hfn
          split at h
          · split at h
            · rename_i hsame
              split at h
              · rename_i b hb
                cases h
                rw [hb] at h3
                obtain ⟨v, rfl⟩ : ∃ v, vs = [v] := by
                  have := h3.1
                  match vs, this with
                  | [v], _ => exact ⟨v, rfl⟩
                rw [hrun, show ([v] : List Value).toArray = #[v] from rfl, hC.same g hsame v w]
                exact opOk_same hW rfl h3.head
              · cases h
            · exact pureOp_sound hW hT h
          · cases h
            exact ⟨vs, h3, hrun⟩
        · cases h
      · cases h
    · cases h
  case h_35 => cases h
end
end Go.Proofs.YtjdccpmbaobpdaaGreatDoor

namespace Go.Proofs.YtjdccpmbaobpdaaGreatDoor
open Go.RowKit

mutual
theorem AV.lv_mono {l m : Nat} (h : l ≤ m) : ∀ {a : AV}, a.lv l = true → a.lv m = true
  | .lit _, _ => rfl
  | .agg cs, k => AV.lvL_mono h (xs := cs) k
  | .tup cs, k => AV.lvL_mono h (xs := cs) k
  | .ptr p _ _ _, k => by simp only [AV.lv, decide_eq_true_eq] at k ⊢; omega
  | .cref cs, k => AV.lvL_mono h (xs := cs) k
  | .list sp _ es, k => by
    simp only [AV.lv, Bool.and_eq_true] at k ⊢
    refine ⟨?_, AV.lvLL_mono h k.2⟩
    cases sp with
    | own p g => simp only [Spare.lv, decide_eq_true_eq] at k ⊢; omega
    | _ => rfl
  | .row _ p _ _ _ _ _, k => by simp only [AV.lv, decide_eq_true_eq] at k ⊢; omega
  | .mref p _, k => by simp only [AV.lv, decide_eq_true_eq] at k ⊢; omega
  | .iface _ a, k => AV.lv_mono h (a := a) k
  | .fn _ cs, k => AV.lvL_mono h (xs := cs) k
theorem AV.lvL_mono {l m : Nat} (h : l ≤ m) : ∀ {xs : List AV}, AV.lvL l xs = true → AV.lvL m xs = true
  | [], _ => rfl
  | a :: r, k => by
    simp only [AV.lvL, Bool.and_eq_true] at k ⊢
    exact ⟨AV.lv_mono h k.1, AV.lvL_mono h k.2⟩
theorem AV.lvLL_mono {l m : Nat} (h : l ≤ m) : ∀ {es : List (List AV)}, AV.lvLL l es = true → AV.lvLL m es = true
  | [], _ => rfl
  | a :: r, k => by
    simp only [AV.lvLL, Bool.and_eq_true] at k ⊢
    exact ⟨AV.lvL_mono h k.1, AV.lvLL_mono h k.2⟩
end
theorem ASlot.lv_mono {l m : Nat} (h : l ≤ m) : ∀ {s : ASlot}, s.lv l = true → s.lv m = true
  | .obj _ _ _, k => AV.lvL_mono h k
  | .row _ _ _ _ _, k => AV.lvL_mono h k
  | .map _ es _, k => by
    simp only [ASlot.lv, List.all_eq_true] at k ⊢
    exact fun e he => AV.lv_mono h (k e he)
  | .tok _ _ _ _, _ => rfl
  | .iter _ _ _, _ => rfl
  | .dead _ _, _ => rfl

section
variable {P : Program} {G : Gh} {S : AS} {w : World} {B : Nat → Nat}

def under (S : AS) (w : World) (B : Nat → Nat) : Nat → Nat := fun l => if l = S.lvl + 1 then w.heap.size else B l

theorem WRel.push [Cfg] (h : WRel G S w B) (f : FuncId) : WRel G (S.enter f) w (under S w B) := by
  refine ⟨h.imm, h.slot, fun p s hp => ASlot.lv_mono (Nat.le_succ _) (h.lvs p s hp), h.apart, fun p g n x ho => ?_, fun p g n b c ho => ?_, fun l m hl hm => ?_, fun l hl => ?_, ?_⟩
  · obtain ⟨h1, h2⟩ := h.dom p g n x ho
    exact ⟨Nat.le_succ_of_le h1, h2⟩
  · obtain ⟨h1, h2⟩ := h.base p g n b c ho
    have h3 := (h.dom p g n _ ho).1
    refine ⟨?_, h2⟩
    unfold under
    rw [if_neg (by omega)]
    exact h1
  · simp only [AS.enter] at hm
    unfold under
    split
    · rw [if_pos (by omega)]
      exact Nat.le_refl _
    · split
      · exact h.fits l (by omega)
      · exact h.mono l m hl (by omega)
  · simp only [AS.enter] at hl
    unfold under
    split
    · exact Nat.le_refl _
    · exact h.fits l (by omega)
  · refine ⟨?_, h.far.2⟩
    unfold under
    rw [if_neg (by omega)]
    exact h.far.1

theorem mem_mergeLog : ∀ {lg l : List Loc} {p : Loc}, p ∈ mergeLog l lg ↔ p ∈ l ∨ p ∈ lg
  | [], l, p => by simp [mergeLog]
  | x :: r, l, p => by
    unfold mergeLog
    rw [mem_mergeLog (lg := r), mem_logPut, List.mem_cons, or_assoc]

/-! ### Frozen -/
/-- Whether a block is one of the call's own. -/
def Mine (G : Gh) (S' : AS) (l b : Nat) : Prop := ∃ p s c, S'.get p = some s ∧ s.live = true ∧ l < p.l ∧ G.own p s.gen s.ext = some (b, c)
open Classical in
noncomputable def Gh.frozen (G : Gh) (S' : AS) (w : World) (l : Nat) : Gh :=
  { own := fun p g n => if p.l ≤ l then G.own p g n else none, imm := fun b o => if Mine G S' l b then w.cell? ⟨b, o, none⟩ else G.imm b o, far := G.far }

theorem Gh.frozen_cut [Cfg] (hW : WRel G S w B) (l : Nat) : (G.cut l).le (G.frozen S w l) := ⟨fun p g n x h => h, fun b o v h => by
  unfold Gh.frozen
  dsimp only
  split
  · exact hW.imm b o v h
  · exact h, rfl⟩

mutual
theorem frz_lv {l : Nat} {S : AS} : ∀ {n : Nat} {a x : AV}, frz l S n a = some x → x.lv l = true
  | 0, a, x, h => by simp [frz] at h
  | n + 1, a, x, h => by
    unfold frz at h
    split at h
    · rename_i hl; cases h; exact hl
    · split at h
      case h_1 => obtain ⟨y, hy, rfl⟩ := Option.map_eq_some_iff.1 h; exact frzL_lv hy
      case h_2 => obtain ⟨y, hy, rfl⟩ := Option.map_eq_some_iff.1 h; exact frzL_lv hy
      case h_3 => obtain ⟨y, hy, rfl⟩ := Option.map_eq_some_iff.1 h; exact frzL_lv hy
      case h_4 => obtain ⟨y, hy, rfl⟩ := Option.map_eq_some_iff.1 h; exact frzL_lv hy
      case h_5 =>
        obtain ⟨y, hy, rfl⟩ := Option.map_eq_some_iff.1 h
        have := frz_lv hy
        simpa only [AV.lv] using this
      case h_6 =>
        obtain ⟨y, hy, rfl⟩ := Option.map_eq_some_iff.1 h
        have := frzLL_lv hy
        simp only [AV.lv, Bool.and_eq_true]
        refine ⟨?_, this⟩
        split
        · rename_i hs; exact hs
        · rfl
      case h_7 =>
        split at h
        · obtain ⟨y, hy, rfl⟩ := Option.map_eq_some_iff.1 h
          exact frzL_lv hy
        · cases h
      case h_8 =>
        split at h
        · obtain ⟨y, hy, rfl⟩ := Option.map_eq_some_iff.1 h
          have := frzLL_lv hy
          simp only [AV.lv, Bool.and_eq_true]
          exact ⟨rfl, this⟩
        · cases h
      case h_9 => cases h
theorem frzL_lv {l : Nat} {S : AS} : ∀ {n : Nat} {xs ys : List AV}, frzL l S n xs = some ys → AV.lvL l ys = true
  | 0, xs, ys, h => by simp [frzL] at h
  | n + 1, [], ys, h => by simp [frzL] at h; rw [h]; rfl
  | n + 1, a :: r, ys, h => by
    unfold frzL at h
    split at h
    · rename_i x y h1 h2
      cases h
      simp only [AV.lvL, Bool.and_eq_true]
      exact ⟨frz_lv h1, frzL_lv h2⟩
    · cases h
theorem frzLL_lv {l : Nat} {S : AS} : ∀ {n : Nat} {xs ys : List (List AV)}, frzLL l S n xs = some ys → AV.lvLL l ys = true
  | 0, xs, ys, h => by simp [frzLL] at h
  | n + 1, [], ys, h => by simp [frzLL] at h; rw [h]; rfl
  | n + 1, a :: r, ys, h => by
    unfold frzLL at h
    split at h
    · rename_i hl; cases h; exact hl
    split at h
    · rename_i x y h1 h2
      cases h
      simp only [AV.lvLL, Bool.and_eq_true]
      exact ⟨frzL_lv h1, frzLL_lv h2⟩
    · cases h
end

theorem cells_frozen [Cfg] (hW : WRel G S w B) {l : Nat} {p : Loc} {g k b c : Nat} {cs : List AV} (hcs : S.cellsAt p g k = some cs) (ho : G.own p g k = some (b, c)) (hp : l < p.l) :
    ∃ val : Nat → Value, (∀ j, j < cs.length → (G.frozen S w l).imm b j = some (val j)) ∧ ∀ (j : Nat) a, cs[j]? = some a → VRel G a (val j) := by
  obtain ⟨s, vs, t, fr, h1, h2, h3, h4, _, h6, _, h8, h9, _⟩ := hW.cellsAt hcs ho
  have hmine : Mine G S l b := ⟨p, s, c, h1, h2, hp, by rw [h3, h4]; exact ho⟩
  refine ⟨fun j => vs.getD j undef, fun j hj => ?_, fun j a ha => ?_⟩
  · unfold Gh.frozen
    dsimp only
    rw [if_pos hmine]
    simp only [World.cell?, h6]
    have hlt : j < vs.size := by omega
    simp [hlt]
  · have hj := (List.getElem?_eq_some_iff.1 ha).1
    obtain ⟨v, hv, hr⟩ := h8.get ha
    rw [List.getElem?_take, if_pos hj] at hv
    have : vs.getD j undef = v := by
      rw [Array.getD_eq_getD_getElem?]
      rw [Array.getElem?_toList] at hv
      rw [hv]; rfl
    show VRel G a (vs.getD j undef)
    rw [this]
    exact hr

theorem chunks_get (sz : Nat) : ∀ (n : Nat) (cs : List AV) (i : Nat) (e : List AV), (chunks sz n cs)[i]? = some e → e = (cs.drop (i * sz)).take sz
  | 0, cs, i, e, h => by simp [chunks] at h
  | n + 1, cs, 0, e, h => by
    simp [chunks] at h
    rw [← h]; simp
  | n + 1, cs, i + 1, e, h => by
    simp only [chunks, List.getElem?_cons_succ] at h
    rw [chunks_get sz n (cs.drop sz) i e h, List.drop_drop]
    congr 2
    rw [Nat.add_mul]
    omega

mutual
theorem frz_sound [Cfg] (hW : WRel G S w B) {l : Nat} : ∀ {n : Nat} {a x : AV} {v : Value}, frz l S n a = some x → VRel G a v → VRel (G.frozen S w l) x v
  | 0, a, x, v, h, _ => by simp [frz] at h
  | n + 1, a, x, v, h, hv => by
    unfold frz at h
    split at h
    · rename_i hl; cases h; exact (hv.cut hl).mono (Gh.frozen_cut hW l)
    · rename_i hl
      split at h
      case h_1 =>
        obtain ⟨y, hy, rfl⟩ := Option.map_eq_some_iff.1 h
        obtain ⟨vs, rfl, hc⟩ := hv.agg_inv
        exact VRel.agg_iff (frzC_sound hW hy hc)
      case h_2 =>
        obtain ⟨y, hy, rfl⟩ := Option.map_eq_some_iff.1 h
        obtain ⟨vs, rfl, hc⟩ := hv.tup_inv
        have := frzC_sound hW hy hc
        exact .tup _ _ this.1 this.2
      case h_3 =>
        obtain ⟨y, hy, rfl⟩ := Option.map_eq_some_iff.1 h
        cases hv with
        | cref _ b off val h1 h2 =>
          obtain ⟨k1, k2⟩ := frzL_sound hW hy h2
          exact .cref _ b off val (fun i hi => (Gh.frozen_cut hW l).imm _ _ _ (h1 i (by omega))) k2
      case h_4 =>
        obtain ⟨y, hy, rfl⟩ := Option.map_eq_some_iff.1 h
        cases hv with
        | fn f _ vs hl hr =>
          have := frzC_sound hW hy ⟨hl, hr⟩
          exact .fn _ _ _ this.1 this.2
      case h_5 =>
        obtain ⟨y, hy, rfl⟩ := Option.map_eq_some_iff.1 h
        cases hv with
        | iface _ _ v hv => exact .iface _ _ _ (frz_sound hW hy hv)
      case h_6 sp sz es =>
        obtain ⟨y, hy, rfl⟩ := Option.map_eq_some_iff.1 h
        cases hv with
        | list _ _ _ b off cap val hn hm hsz h1 h2 hs =>
          obtain ⟨k1, k2, k3⟩ := frzLL_sound hW hy h2
          rw [← k1]
          refine .list _ sz y b off cap val (by omega) hm (fun e he => ?_) (fun i j hi hj => (Gh.frozen_cut hW l).imm _ _ _ (h1 i j (by omega) hj)) k3 ?_
          · obtain ⟨i, hi⟩ := List.getElem?_of_mem he
            obtain ⟨e', he', hel⟩ := k2 i e hi
            rw [hel]
            exact hsz e' (List.mem_of_getElem? he')
          · rw [k1]
            split
            · rename_i hsl
              cases sp with
              | no => trivial
              | full => exact hs
              | own p g =>
                refine ⟨hs.1, (Gh.frozen_cut hW l).own _ _ _ _ ?_⟩
                simp only [Gh.cut]
                rw [if_pos (by simpa [Spare.lv] using hsl)]
                exact hs.2
            · trivial
      case h_7 p g k off =>
        split at h
        · rename_i cs hcs
          obtain ⟨y, hy, rfl⟩ := Option.map_eq_some_iff.1 h
          cases hv with
          | ptr _ _ _ _ b c ho =>
            obtain ⟨val, h1, h2⟩ := cells_frozen hW hcs ho (l := l) (by simpa [AV.lv] using hl)
            obtain ⟨k1, k2⟩ := frzL_sound hW hy (val := fun j => val (off + j)) fun j a ha => h2 _ a (by simpa [List.getElem?_drop] using ha)
            exact .cref _ b off (fun j => val (off + j)) (fun i hi => h1 _ (by simp at k1; omega)) k2
        · cases h
      case h_8 sp p g k off len sz =>
        split at h
        · rename_i es hes
          obtain ⟨y, hy, rfl⟩ := Option.map_eq_some_iff.1 h
          cases hv with
          | row _ _ _ _ _ _ _ b c o cap ho hoff hn hm hs =>
            unfold aelems at hes
            simp only at hes
            split at hes
            · rename_i cs hcs
              split at hes
              · rename_i hc
                cases hes
                obtain ⟨_, hfit⟩ := hc
                obtain ⟨val, h1, h2⟩ := cells_frozen hW hcs ho (l := l) (by simpa [AV.lv] using hl)
                have hcl := chunks_len sz len (cs.drop off)
                have hfl := (chunks_flat sz len (cs.drop off) (by simp; omega)).2
                obtain ⟨k1, k2, k3⟩ := frzLL_sound hW hy (val := fun i j => val (off + (i * sz + j))) fun i j e a he ha => h2 _ a (by
                  have := chunks_get sz len _ i e he
                  rw [this, List.getElem?_take] at ha
                  split at ha
                  · rw [List.drop_drop, List.getElem?_drop] at ha
                    rw [← ha]; congr 1; omega
                  · cases ha)
                rw [hcl] at k1
                rw [← k1]
                rcases Nat.eq_zero_or_pos len with h0 | hpos
                · have : y = [] := List.eq_nil_of_length_eq_zero (by omega)
                  subst this
                  exact .list .no sz [] b o cap (fun _ _ => undef) (Nat.zero_le _) hm (by simp) (fun i j hi _ => by simp at hi) (fun i j e a he _ => by simp at he) trivial
                · rw [hoff hpos]
                  refine .list .no sz y b off cap (fun i j => val (off + (i * sz + j))) (by omega) hm (fun e he => ?_) (fun i j hi hj => h1 _ ?_) k3 trivial
                  · obtain ⟨i, hi⟩ := List.getElem?_of_mem he
                    obtain ⟨e', he', hel⟩ := k2 i e hi
                    rw [hel]
                    exact hfl e' (List.mem_of_getElem? he')
                  · have : (i + 1) * sz ≤ len * sz := Nat.mul_le_mul_right _ (by omega)
                    rw [Nat.add_mul] at this
                    omega
              · cases hes
            · cases hes
        · cases h
      case h_9 => cases h
theorem frzL_sound [Cfg] (hW : WRel G S w B) {l : Nat} : ∀ {n : Nat} {xs ys : List AV} {val : Nat → Value}, frzL l S n xs = some ys → (∀ (j : Nat) a, xs[j]? = some a → VRel G a (val j)) → ys.length = xs.length ∧ ∀ (j : Nat) a, ys[j]? = some a → VRel (G.frozen S w l) a (val j)
  | 0, xs, ys, val, h, _ => by simp [frzL] at h
  | n + 1, [], ys, val, h, _ => by simp [frzL] at h; subst h; exact ⟨rfl, fun j a ha => by simp at ha⟩
  | n + 1, a :: r, ys, val, h, hv => by
    unfold frzL at h
    split at h
    · rename_i x y h1 h2
      cases h
      have k0 := frz_sound hW h1 (hv 0 a rfl)
      obtain ⟨k1, k2⟩ := frzL_sound hW h2 (val := fun j => val (j + 1)) fun j a ha => hv (j + 1) a (by simpa using ha)
      refine ⟨by simp [k1], fun j a ha => ?_⟩
      cases j with
      | zero => simp at ha; subst ha; exact k0
      | succ j => exact k2 j a (by simpa using ha)
    · cases h
theorem frzLL_sound [Cfg] (hW : WRel G S w B) {l : Nat} : ∀ {n : Nat} {xs ys : List (List AV)} {val : Nat → Nat → Value}, frzLL l S n xs = some ys → (∀ (i j : Nat) e a, xs[i]? = some e → e[j]? = some a → VRel G a (val i j)) →
    ys.length = xs.length ∧ (∀ (i : Nat) e, ys[i]? = some e → ∃ e', xs[i]? = some e' ∧ e.length = e'.length) ∧ ∀ (i j : Nat) e a, ys[i]? = some e → e[j]? = some a → VRel (G.frozen S w l) a (val i j)
  | 0, xs, ys, val, h, _ => by simp [frzLL] at h
  | n + 1, [], ys, val, h, _ => by simp [frzLL] at h; subst h; exact ⟨rfl, (fun i e he => by simp at he), fun i j e a he => by simp at he⟩
  | n + 1, e0 :: r, ys, val, h, hv => by
    unfold frzLL at h
    split at h
    · rename_i hl
      cases h
      exact ⟨rfl, fun i e he => ⟨e, he, rfl⟩, fun i j e a he ha => ((hv i j e a he ha).cut (AV.lvL_get (AV.lvLL_get hl he) ha)).mono (Gh.frozen_cut hW l)⟩
    split at h
    · rename_i x y h1 h2
      cases h
      obtain ⟨m1, m2⟩ := frzL_sound hW h1 (val := val 0) fun j a ha => hv 0 j e0 a rfl ha
      obtain ⟨k1, k2, k3⟩ := frzLL_sound hW h2 (val := fun i => val (i + 1)) fun i j e a he ha => hv (i + 1) j e a (by simpa using he) ha
      refine ⟨by simp [k1], fun i e he => ?_, fun i j e a he ha => ?_⟩
      · cases i with
        | zero => simp at he; subst he; exact ⟨e0, rfl, m1⟩
        | succ i =>
          obtain ⟨e', q1, q2⟩ := k2 i e (by simpa using he)
          exact ⟨e', by simpa using q1, q2⟩
      · cases i with
        | zero => simp at he; subst he; exact m2 j a ha
        | succ i => exact k3 i j e a (by simpa using he) ha
    · cases h
theorem frzC_sound [Cfg] (hW : WRel G S w B) {l : Nat} : ∀ {n : Nat} {xs ys : List AV} {vs : List Value}, frzL l S n xs = some ys → CRel G xs vs → CRel (G.frozen S w l) ys vs
  | n, xs, ys, vs, h, hc => by
    obtain ⟨k1, k2⟩ := frzL_sound hW h (val := fun j => vs.getD j undef) fun j a ha => by
      obtain ⟨v, hv, hr⟩ := hc.get ha
      rw [List.getD_eq_getElem?_getD, hv]
      exact hr
    refine ⟨by rw [k1, hc.1], fun j a v ha hv => ?_⟩
    have := k2 j a ha
    rw [List.getD_eq_getElem?_getD, hv] at this
    exact this
end
end
end Go.Proofs.YtjdccpmbaobpdaaGreatDoor

namespace Go.Proofs.YtjdccpmbaobpdaaGreatDoor
open Go.RowKit

theorem turnAll_get {f : Loc → ASlot → Option ASlot} {S' : AS} : ∀ {ps : List Loc} {t t' : Tab}, turnAll f S' ps t = some t' → ∀ p, (p ∉ ps → t'.get p = t.get p) ∧ (p ∈ ps → ∃ s s', S'.get p = some s ∧ f p s = some s' ∧ t'.get p = some s')
  | [], t, t', h, p => by simp [turnAll] at h; subst h; simp
  | p0 :: r, t, t', h, p => by
    unfold turnAll at h
    split at h
    · rename_i s0 hs0
      split at h
      · rename_i s0' hf
        obtain ⟨i1, i2⟩ := turnAll_get h p
        by_cases hr : p ∈ r
        · exact ⟨fun hn => absurd (List.mem_cons_of_mem _ hr) hn, fun _ => i2 hr⟩
        · by_cases hp : p = p0
          · subst hp
            exact ⟨fun hn => absurd (List.mem_cons_self ..) hn, fun _ => ⟨s0, s0', hs0, hf, by rw [i1 hr]; exact Tab.get_put_same _ _ _⟩⟩
          · refine ⟨fun _ => by rw [i1 hr]; exact Tab.get_put_ne t s0' hp, fun hm => ?_⟩
            rcases List.mem_cons.1 hm with e | e
            · exact absurd e hp
            · exact absurd e hr
      · cases h
    · cases h

theorem frzE_sound [Cfg] {G : Gh} {S : AS} {w : World} {B : Nat → Nat} (hW : WRel G S w B) {l n : Nat} : ∀ {es es' : List AEntry} {ents : List MapEntry}, frzE l S n es = some es' → ERel G es ents → ERel (G.frozen S w l) es' ents
  | [], es', ents, h, he => by
    simp [frzE] at h; subst h
    cases ents with
    | nil => trivial
    | cons _ _ => exact he.elim
  | e :: r, es', ents, h, he => by
    unfold frzE at h
    split at h
    · rename_i x y h1 h2
      cases h
      cases ents with
      | nil => exact he.elim
      | cons d t => exact ⟨he.1, he.2.1, frz_sound hW h1 he.2.2.1, frzE_sound hW h2 he.2.2.2⟩
    · cases h
theorem frzE_lv {S : AS} {l n : Nat} : ∀ {es es' : List AEntry}, frzE l S n es = some es' → es'.all (fun e => e.val.lv l) = true
  | [], es', h => by simp [frzE] at h; subst h; rfl
  | e :: r, es', h => by
    unfold frzE at h
    split at h
    · rename_i x y h1 h2
      cases h
      simp [frz_lv h1, frzE_lv h2]
    · cases h

theorem frzS_kind {S : AS} {l n : Nat} {s s' : ASlot} (h : frzS l S n s = some s') : s'.gen = s.gen ∧ s'.ext = s.ext ∧ s'.live = s.live ∧ s'.lv l = true := by
  cases s <;> simp only [frzS] at h
  case obj g t cs =>
    obtain ⟨y, hy, rfl⟩ := Option.map_eq_some_iff.1 h
    exact ⟨rfl, rfl, rfl, frzL_lv hy⟩
  case row g k sz e cs =>
    obtain ⟨y, hy, rfl⟩ := Option.map_eq_some_iff.1 h
    exact ⟨rfl, rfl, rfl, frzL_lv hy⟩
  case map g es ck =>
    obtain ⟨y, hy, rfl⟩ := Option.map_eq_some_iff.1 h
    exact ⟨rfl, rfl, rfl, frzE_lv hy⟩
  all_goals (cases h; exact ⟨rfl, rfl, rfl, rfl⟩)

theorem frzS_sound [Cfg] {G : Gh} {S : AS} {w : World} {B : Nat → Nat} (hW : WRel G S w B) {l n b c : Nat} {s s' : ASlot} (h : frzS l S n s = some s') (hi : ∀ o, (G.frozen S w l).imm b o = G.imm b o) (hs : SlotAt G w b c s) : SlotAt (G.frozen S w l) w b c s' := by
  cases s <;> simp only [frzS] at h
  case obj g t cs =>
    obtain ⟨y, hy, rfl⟩ := Option.map_eq_some_iff.1 h
    obtain ⟨h1, vs, fr, h2, h3, h4⟩ := hs
    exact ⟨fun o => (hi o).trans (h1 o), vs, fr, h2, h3, frzC_sound hW hy h4⟩
  case row g k sz e cs =>
    obtain ⟨y, hy, rfl⟩ := Option.map_eq_some_iff.1 h
    obtain ⟨h1, vs, fr, h2, h3, h4, h5, h6, h7⟩ := hs
    have := frzC_sound hW hy h7
    refine ⟨fun o => (hi o).trans (h1 o), vs, fr, h2, h3, h4, ?_, h6, this⟩
    rw [this.1, ← h7.1, h5]
  case map g es ck =>
    obtain ⟨y, hy, rfl⟩ := Option.map_eq_some_iff.1 h
    obtain ⟨ents, h1, h2⟩ := hs
    exact ⟨ents, h1, frzE_sound hW hy h2⟩
  case tok g k sz e =>
    cases h
    obtain ⟨h1, vs, fr, h2⟩ := hs
    exact ⟨fun o ho => (hi o).trans (h1 o ho), vs, fr, h2⟩
  case iter g s pos => cases h; exact hs
  case dead g k => cases h; exact hs

/-- A slot whose contents name nothing deeper. -/
theorem SlotAt.frozen [Cfg] {G : Gh} {S : AS} {w : World} {B : Nat → Nat} (hW : WRel G S w B) {l b c : Nat} {s : ASlot} (hl : s.lv l = true) (hi : ∀ o, (G.frozen S w l).imm b o = G.imm b o) (hs : SlotAt G w b c s) : SlotAt (G.frozen S w l) w b c s := by
  have hcl := Gh.frozen_cut hW l
  have hcr : ∀ {xs : List AV} {vs : List Value}, AV.lvL l xs = true → CRel G xs vs → CRel (G.frozen S w l) xs vs := fun hx hc => ⟨hc.1, fun i a v ha hv => ((hc.2 i a v ha hv).cut (AV.lvL_get hx ha)).mono hcl⟩
  cases s with
  | obj g t cs =>
    obtain ⟨h1, vs, fr, h2, h3, h4⟩ := hs
    exact ⟨fun o => (hi o).trans (h1 o), vs, fr, h2, h3, hcr hl h4⟩
  | row g k sz e cs =>
    obtain ⟨h1, vs, fr, h2, h3, h4, h5, h6, h7⟩ := hs
    exact ⟨fun o => (hi o).trans (h1 o), vs, fr, h2, h3, h4, h5, h6, hcr hl h7⟩
  | map g es ck =>
    obtain ⟨ents, h1, h2⟩ := hs
    refine ⟨ents, h1, ?_⟩
    simp only [ASlot.lv, List.all_eq_true] at hl
    generalize ents.toList = ds at h2
    induction es generalizing ds with
    | nil =>
      cases ds with
      | nil => trivial
      | cons _ _ => exact h2.elim
    | cons e r ih =>
      cases ds with
      | nil => exact h2.elim
      | cons d t => exact ⟨h2.1, h2.2.1, (h2.2.2.1.cut (hl e (List.mem_cons_self ..))).mono hcl, ih (fun x hx => hl x (List.mem_cons_of_mem _ hx)) t h2.2.2.2⟩
  | tok g k sz e =>
    obtain ⟨h1, vs, fr, h2⟩ := hs
    exact ⟨fun o ho => (hi o).trans (h1 o ho), vs, fr, h2⟩
  | iter g s pos => exact hs
  | dead g k => exact hs

theorem Froze.imm_mono {G H : Gh} (hfar : H.far = G.far) (h : ∀ b o v, G.imm b o = some v → H.imm b o = some v) {x y : Option Obj} {b : Nat} (k : Froze G x y b) : Froze H x y b := by
  obtain ⟨vs, t, fr, fr', h1, h2, ⟨o, v, h3⟩, hf, h4⟩ := k
  exact ⟨vs, t, fr, fr', h1, h2, ⟨o, v, h _ _ _ h3⟩, by rw [hfar]; exact hf, fun o ho => (h4 o ho).imp id fun ⟨o', v, k1, k2⟩ => ⟨o', v, k1, h _ _ _ k2⟩⟩

theorem mem_outs {l : Nat} {S' : AS} {p : Loc} : p ∈ S'.outs l ↔ p ∈ S'.log ∧ p.l ≤ l := by simp [AS.outs]

/-- A call ends. -/
theorem WRel.popFrozen [Cfg] {G G' : Gh} {S S' S2 : AS} {w w' : World} {B : Nat → Nat} {f : FuncId} {n : Nat} (h : WRel G S w B) (h' : WRel G' S' w' (under S w B)) (hm : Mod G (S.enter f) w G' S' w') (hlvl : S2.lvl = S.lvl) (hfn : S2.fn = S.fn)
    (hin : ∀ p, p ∈ S'.outs S.lvl → ∀ s, S'.get p = some s → ∃ s', frzS S.lvl S' n s = some s' ∧ S2.get p = some s') (hout : ∀ p, p.l ≤ S.lvl → (p ∉ S'.outs S.lvl ∨ S'.get p = none) → S2.get p = S'.get p)
    (hlv : ∀ p s, S2.get p = some s → s.lv S.lvl = true) (hlog : ∀ p, p ∈ S2.log ↔ p ∈ S.log ∨ p ∈ S'.outs S.lvl) :
    WRel (G'.frozen S' w' S.lvl) S2 w' B ∧ Mod G S w (G'.frozen S' w' S.lvl) S2 w' := by
  obtain ⟨nl, e1, b1, s1, i1⟩ := hm.log
  have hl' : S'.lvl = S.lvl + 1 := hm.lvl
  have elog : ∀ p, p ∈ S'.log ↔ nl p := fun p => by rw [e1]; simp [AS.enter]
  have hown : ∀ {p g k x}, (G'.frozen S' w' S.lvl).own p g k = some x → p.l ≤ S.lvl ∧ G'.own p g k = some x := fun {p g k x} ho => by
    simp only [Gh.frozen] at ho
    split at ho
    · rename_i hp; exact ⟨hp, ho⟩
    · cases ho
  have hown' : ∀ {p g k}, p.l ≤ S.lvl → (G'.frozen S' w' S.lvl).own p g k = G'.own p g k := fun {p g k} hp => by
    simp only [Gh.frozen]
    rw [if_pos hp]
  have himm : ∀ {b o v}, G'.imm b o = some v → (G'.frozen S' w' S.lvl).imm b o = some v := fun {b o v} hi => (Gh.frozen_cut h' S.lvl).imm b o v hi
  have hmine : ∀ {b}, Mine G' S' S.lvl b → w.heap.size ≤ b := fun {b} ⟨p, s, c, hp, hl, hlt, ho⟩ => by
    have h1 := (h'.dom _ _ _ _ ho).1
    have h2 := (h'.base _ _ _ _ _ ho).1
    unfold under at h2
    rw [if_pos (by omega)] at h2
    exact h2
  have hsame : ∀ {p s b c}, S'.get p = some s → s.live = true → p.l ≤ S.lvl → G'.own p s.gen s.ext = some (b, c) → ∀ o, (G'.frozen S' w' S.lvl).imm b o = G'.imm b o := fun {p s b c} hp hl hpl ho o => by
    simp only [Gh.frozen]
    rw [if_neg]
    rintro ⟨q, t, d, hq, hlt, hql, ho'⟩
    have := h'.apart p q s t hp hq hl hlt b c d ho ho'
    subst this
    omega
  -- what stands behind a slot
  have back : ∀ p s, p.l ≤ S.lvl → S2.get p = some s → ∃ s0, S'.get p = some s0 ∧ s.gen = s0.gen ∧ s.ext = s0.ext ∧ s.live = s0.live ∧ (s = s0 ∨ frzS S.lvl S' n s0 = some s) := by
    intro p s hpl hp
    by_cases hin' : p ∈ S'.outs S.lvl
    · cases hs0 : S'.get p with
      | none => rw [hout p hpl (.inr hs0), hs0] at hp; cases hp
      | some s0 =>
        obtain ⟨s', k1, k2⟩ := hin p hin' s0 hs0
        rw [hp] at k2
        cases k2
        obtain ⟨m1, m2, m3, _⟩ := frzS_kind k1
        exact ⟨s0, rfl, m1, m2, m3, .inr k1⟩
    · rw [hout p hpl (.inl hin')] at hp
      exact ⟨s, hp, rfl, rfl, rfl, .inl rfl⟩
  have front : ∀ p s0, p.l ≤ S.lvl → S'.get p = some s0 → ∃ s, S2.get p = some s ∧ s.gen = s0.gen ∧ s.ext = s0.ext := by
    intro p s0 hpl hp
    by_cases hin' : p ∈ S'.outs S.lvl
    · obtain ⟨s', k1, k2⟩ := hin p hin' s0 hp
      obtain ⟨m1, m2, _, _⟩ := frzS_kind k1
      exact ⟨s', k2, m1, m2⟩
    · exact ⟨s0, (hout p hpl (.inl hin')).trans hp, rfl, rfl⟩
  refine ⟨⟨fun b o v hi => ?_, fun p s hp hl b c ho => ?_, fun p s hp => by rw [hlvl]; exact hlv p s hp, fun p q s t hp hq hs ht b c d ho ho' => ?_, fun p g k x ho => ?_, fun p g k b c ho => ?_,
      fun l m hl hm' => h.mono l m hl (by rw [hlvl] at hm'; exact hm'), fun l hl => Nat.le_trans (h.fits l (by rw [hlvl] at hl; exact hl)) hm.size, by rw [show (G'.frozen S' w' S.lvl).far = G.far from hm.le.far]; exact h.far.1, fun x hx => himm (hm.le.imm _ _ _ (h.far.2 x hx))⟩,
    ⟨⟨fun p g k x ho => ?_, fun b o v hi => himm (hm.le.imm b o v hi), hm.le.far⟩, hlvl, hfn, ⟨fun p => p ∈ S'.outs S.lvl, hlog, fun b hb => ?_, fun p hp hnl => ?_, fun b o v hi => ?_⟩, hm.os, hm.tape, hm.output, hm.size⟩⟩
  · by_cases hmi : Mine G' S' S.lvl b
    · simp only [Gh.frozen] at hi
      rw [if_pos hmi] at hi
      exact hi
    · simp only [Gh.frozen] at hi
      rw [if_neg hmi] at hi
      exact h'.imm b o v hi
  · obtain ⟨hpl, ho⟩ := hown ho
    obtain ⟨s0, k1, k2, k3, k4, k5⟩ := back p s hpl hp
    rw [k2, k3] at ho
    have hl0 : s0.live = true := by rw [← k4]; exact hl
    have hsl := h'.slot p s0 k1 hl0 b c ho
    have hi := hsame k1 hl0 hpl ho
    rcases k5 with rfl | k5
    · exact hsl.frozen h' (hlv p s hp) hi
    · exact frzS_sound h' k5 hi hsl
  · obtain ⟨hpl, ho⟩ := hown ho
    obtain ⟨hql, ho'⟩ := hown ho'
    obtain ⟨s0, k1, k2, k3, k4, _⟩ := back p s hpl hp
    obtain ⟨t0, m1, m2, m3, m4, _⟩ := back q t hql hq
    rw [k2, k3] at ho
    rw [m2, m3] at ho'
    exact h'.apart p q s0 t0 k1 m1 (by rw [← k4]; exact hs) (by rw [← m4]; exact ht) b c d ho ho'
  · obtain ⟨hpl, ho⟩ := hown ho
    obtain ⟨_, s0, hs0, hlt⟩ := h'.dom p g k x ho
    obtain ⟨s, k1, k2, k3⟩ := front p s0 hpl hs0
    exact ⟨by rw [hlvl]; exact hpl, s, k1, by rw [k2, k3]; exact hlt⟩
  · obtain ⟨hpl, ho⟩ := hown ho
    obtain ⟨h3, h4⟩ := h'.base p g k b c ho
    refine ⟨?_, h4⟩
    unfold under at h3
    rw [if_neg (by omega)] at h3
    exact h3
  · have hp := (h.dom p g k x ho).1
    rw [hown' hp]
    exact hm.le.own _ _ _ _ ho
  · rcases b1 b hb with hb1 | hb1 | ⟨p, hp, g, k, c, ho⟩
    · exact .inl hb1
    · exact .inr (.inl (hb1.imm_mono (G := G') (H := G'.frozen S' w' S.lvl) rfl fun b o v hi => himm hi))
    · by_cases hpl : p.l ≤ S.lvl
      · exact .inr (.inr ⟨p, mem_outs.2 ⟨(elog p).2 hp, hpl⟩, g, k, c, by rw [hown' hpl]; exact ho⟩)
      · have h1 := (h'.dom _ _ _ _ ho).1
        have h2 := (h'.base _ _ _ _ _ ho).1
        unfold under at h2
        rw [if_pos (by omega)] at h2
        omega
  · have hn : ¬ nl p := fun e => hnl (mem_outs.2 ⟨(elog p).2 e, hp⟩)
    obtain ⟨k1, k2⟩ := s1 p (Nat.le_succ_of_le hp) hn
    refine ⟨(hout p hp (.inl hnl)).trans k1, fun g k => ?_⟩
    rw [hown' hp]
    exact k2 g k
  · by_cases hmi : Mine G' S' S.lvl b
    · exact .inr (.inl (hmine hmi))
    · simp only [Gh.frozen] at hi
      rw [if_neg hmi] at hi
      rcases i1 b o v hi with k | k | ⟨p, hp, g, j, c, ho⟩
      · exact .inl k
      · exact .inr (.inl k)
      · by_cases hpl : p.l ≤ S.lvl
        · exact .inr (.inr ⟨p, mem_outs.2 ⟨(elog p).2 hp, hpl⟩, g, j, c, by rw [hown' hpl]; exact ho⟩)
        · have h1 := (h'.dom _ _ _ _ ho).1
          have h2 := (h'.base _ _ _ _ _ ho).1
          unfold under at h2
          rw [if_pos (by omega)] at h2
          exact .inr (.inl h2)

theorem handUp_frozen [Cfg] {G G' : Gh} {S S' : AS} {w w' : World} {B : Nat → Nat} {f : FuncId} {v x : AV} {u : Value} {r : Upd} (hup : Cfg.up f S.fn = false) (h : WRel G S w B) (h' : WRel G' S' w' (under S w B)) (hm : Mod G (S.enter f) w G' S' w') (hv : VRel G' v u)
    (hh : handUp f S S' v = some (x, r)) : ∃ G2, VRel G2 x u ∧ WRel G2 (S.after r) w' B ∧ Mod G S w G2 (S.after r) w' := by
  unfold handUp at hh
  simp only [hup, Bool.false_eq_true, if_false] at hh
  obtain ⟨nl, e1, b1, s1, i1⟩ := hm.log
  have elog : ∀ p, p ∈ S'.log ↔ nl p := fun p => by rw [e1]; simp [AS.enter]
  have hun : ∀ p, p.l ≤ S.lvl → p ∉ S'.outs S.lvl → S'.get p = S.get p := fun p hp hno =>
    (s1 p (Nat.le_succ_of_le hp) fun e => hno (mem_outs.2 ⟨(elog p).2 e, hp⟩)).1
  split at hh
  case h_2 => cases hh
  rename_i v' hv'
  have hvr := frz_sound h' hv' hv
  split at hh
  · rename_i ho
    cases hh
    have hno : ∀ p, p ∉ S'.outs S.lvl := fun p => by rw [ho]; simp
    obtain ⟨k1, k2⟩ := h.popFrozen (S2 := S) (n := 0) h' hm rfl rfl (fun p hp => absurd hp (hno p)) (fun p hp _ => (hun p hp (hno p)).symm) h.lvs (fun p => ⟨.inl, fun e => e.elim id fun e => absurd e (hno p)⟩)
    exact ⟨_, hvr, k1, k2⟩
  · split at hh
    case h_2 => cases hh
    rename_i t ht
    cases hh
    have hget := turnAll_get ht
    refine ⟨_, hvr, h.popFrozen (S2 := S.after (some (t, S'.outs S.lvl))) (n := 100000) h' hm rfl rfl (fun p hp s hs => ?_) (fun p hp hc => ?_) (fun p s hp => ?_) (fun p => mem_mergeLog)⟩
    · obtain ⟨s0, s', h0, hs', hg⟩ := (hget p).2 hp
      rw [hs] at h0; cases h0
      exact ⟨s', hs', hg⟩
    · show t.get p = _
      by_cases hin : p ∈ S'.outs S.lvl
      · obtain ⟨s0, s', h0, _⟩ := (hget p).2 hin
        rcases hc with hc | hc
        · exact absurd hin hc
        · rw [hc] at h0; cases h0
      · rw [(hget p).1 hin]
        exact (hun p hp hin).symm
    · have hp' : t.get p = some s := hp
      by_cases hin : p ∈ S'.outs S.lvl
      · obtain ⟨s0, s', h0, hs', hg⟩ := (hget p).2 hin
        rw [hp'] at hg; cases hg
        exact (frzS_kind hs').2.2.2
      · rw [(hget p).1 hin] at hp'
        exact h.lvs p s hp'
end Go.Proofs.YtjdccpmbaobpdaaGreatDoor

namespace Go.Proofs.YtjdccpmbaobpdaaGreatDoor
open Go.RowKit

theorem Names.get_mem : ∀ {N : Names} {p q : Loc} {g : Nat}, N.get p = some (q, g) → (p, q, g) ∈ N
  | [], _, _, _, h => by simp [Names.get] at h
  | (a, r) :: t, p, q, g, h => by
    unfold Names.get at h
    split at h
    · rename_i e
      subst e
      cases h
      exact List.mem_cons_self ..
    · exact List.mem_cons_of_mem _ (Names.get_mem h)

theorem nodupB_iff : ∀ {l : List Loc}, nodupB l = true → l.Nodup
  | [], _ => List.nodup_nil
  | p :: r, h => by
    simp only [nodupB, Bool.and_eq_true] at h
    exact List.nodup_cons.2 ⟨by simpa using h.1, nodupB_iff h.2⟩

/-- What is known of names that were checked. -/
structure NamesAt (l : Nat) (S' : AS) (N : Names) : Prop where
  deep : ∀ p q g, (p, q, g) ∈ N → l < p.l
  lvl : ∀ p q g, (p, q, g) ∈ N → q.l = l
  new : ∀ p q g, (p, q, g) ∈ N → S'.get q = none
  gen : ∀ p q g, (p, q, g) ∈ N → g = 0
  slot : ∀ p q g, (p, q, g) ∈ N → ∃ s, S'.get p = some s ∧ s.live = true
  fst : ∀ p q q' g g', (p, q, g) ∈ N → (p, q', g') ∈ N → q = q' ∧ g = g'
  snd : ∀ p p' q g g', (p, q, g) ∈ N → (p', q, g') ∈ N → p = p' ∧ g = g'

theorem nodup_fst {α β : Type} : ∀ {l : List (α × β)}, (l.map (·.1)).Nodup → ∀ a b c, (a, b) ∈ l → (a, c) ∈ l → b = c
  | [], _, _, _, _, h, _ => by cases h
  | x :: r, hn, a, b, c, h1, h2 => by
    rw [List.map_cons, List.nodup_cons] at hn
    rcases List.mem_cons.1 h1 with e1 | h1 <;> rcases List.mem_cons.1 h2 with e2 | h2
    · rw [← e1] at e2; cases e2; rfl
    · exact absurd (List.mem_map.2 ⟨_, h2, by rw [← e1]⟩) hn.1
    · exact absurd (List.mem_map.2 ⟨_, h1, by rw [← e2]⟩) hn.1
    · exact nodup_fst hn.2 a b c h1 h2

theorem namesAt_of {l : Nat} {S' : AS} {N : Names} (h : namesOk l S' N = true) : NamesAt l S' N := by
  simp only [namesOk, Bool.and_eq_true, List.all_eq_true] at h
  obtain ⟨⟨h1, h2⟩, h3⟩ := h
  have n1 := nodupB_iff h2
  have n2 := nodupB_iff h3
  have key : ∀ p q g, (p, q, g) ∈ N → l < p.l ∧ q.l = l ∧ S'.get q = none ∧ g = 0 ∧ ∃ s, S'.get p = some s ∧ s.live = true := fun p q g hm => by
    obtain ⟨⟨⟨⟨k1, k2⟩, k3⟩, k4⟩, k5⟩ := h1 _ hm
    refine ⟨by simpa using k1, by simpa using k2, by simpa using k3, by simpa using k4, ?_⟩
    dsimp only at k5
    split at k5
    · rename_i s hs; exact ⟨s, hs, k5⟩
    · cases k5
  have hsnd : ∀ p p' q g g', (p, q, g) ∈ N → (p', q, g') ∈ N → p = p' := fun p p' q g g' m1 m2 => by
    have := nodup_fst (l := N.map fun x => (x.2.1, x.1)) (by simpa [List.map_map, Function.comp_def] using n2) q p p' (List.mem_map.2 ⟨_, m1, rfl⟩) (List.mem_map.2 ⟨_, m2, rfl⟩)
    exact this
  refine ⟨fun p q g m => (key p q g m).1, fun p q g m => (key p q g m).2.1, fun p q g m => (key p q g m).2.2.1, fun p q g m => (key p q g m).2.2.2.1, fun p q g m => (key p q g m).2.2.2.2, fun p q q' g g' m1 m2 => ?_, fun p p' q g g' m1 m2 => ?_⟩
  · have := nodup_fst n1 p (q, g) (q', g') m1 m2
    cases this
    exact ⟨rfl, rfl⟩
  · exact ⟨hsnd p p' q g g' m1 m2, by rw [(key _ _ _ m1).2.2.2.1, (key _ _ _ m2).2.2.2.1]⟩

section
variable {P : Program} {G : Gh} {S : AS} {w : World} {B : Nat → Nat}

open Classical in
/-- The ghost, the names handed up. -/
noncomputable def Gh.raised (G : Gh) (S' : AS) (l : Nat) (N : Names) : Gh :=
  { own := fun p g n => if p.l ≤ l then (if h : ∃ p0 g0, (p0, p, g0) ∈ N then (match S'.get h.choose with
      | some s => if g = 0 ∧ n = s.ext then G.own h.choose s.gen s.ext else none
      | none => none) else G.own p g n) else none, imm := G.imm, far := G.far }

theorem raised_old [Cfg] (hW : WRel G S w B) {l : Nat} {N : Names} (hN : NamesAt l S N) {p : Loc} (hp : p.l ≤ l) {g n : Nat} {x : Nat × Nat} (ho : G.own p g n = some x) : (G.raised S l N).own p g n = some x := by
  obtain ⟨_, s, hs, _⟩ := hW.dom _ _ _ _ ho
  unfold Gh.raised
  dsimp only
  rw [if_pos hp, dif_neg]
  · exact ho
  · rintro ⟨p0, g0, hm⟩
    rw [hN.new _ _ _ hm] at hs
    cases hs

theorem raised_new {l : Nat} {N : Names} (hN : NamesAt l S N) {p q : Loc} {h : Nat} (hm : (p, q, h) ∈ N) {s : ASlot} (hs : S.get p = some s) : (G.raised S l N).own q h s.ext = G.own p s.gen s.ext := by
  have hex : ∃ p0 g0, (p0, q, g0) ∈ N := ⟨p, h, hm⟩
  obtain ⟨g0, hc⟩ := hex.choose_spec
  have hpe := (hN.snd _ _ _ _ _ hc hm).1
  unfold Gh.raised
  dsimp only
  rw [if_pos (by rw [hN.lvl _ _ _ hm]; exact Nat.le_refl _), dif_pos hex, hpe, hs]
  simp only
  rw [if_pos ⟨hN.gen _ _ _ hm, by trivial⟩]

mutual
theorem ren_sound [Cfg] (hW : WRel G S w B) {l : Nat} {N : Names} (hN : NamesAt l S N) : ∀ {a x : AV} {v : Value}, ren l S N a = some x → VRel G a v → VRel (G.raised S l N) x v
  | .lit u, x, v, h, hv => by
    simp only [ren, Option.some.injEq] at h
    subst h
    rw [hv.lit_inv]
    exact .lit _
  | .agg cs, x, v, h, hv => by
    obtain ⟨y, hy, rfl⟩ := Option.map_eq_some_iff.1 h
    obtain ⟨vs, rfl, hc⟩ := hv.agg_inv
    exact VRel.agg_iff (renC_sound hW hN hy hc)
  | .tup cs, x, v, h, hv => by
    obtain ⟨y, hy, rfl⟩ := Option.map_eq_some_iff.1 h
    obtain ⟨vs, rfl, hc⟩ := hv.tup_inv
    have := renC_sound hW hN hy hc
    exact .tup _ _ this.1 this.2
  | .cref cs, x, v, h, hv => by
    obtain ⟨y, hy, rfl⟩ := Option.map_eq_some_iff.1 h
    cases hv with
    | cref _ b off val h1 h2 =>
      obtain ⟨k1, k2⟩ := renL_sound hW hN hy h2
      exact .cref _ b off val (fun i hi => h1 i (by omega)) k2
  | .fn f cs, x, v, h, hv => by
    obtain ⟨y, hy, rfl⟩ := Option.map_eq_some_iff.1 h
    cases hv with
    | fn _ _ vs hl hr =>
      have := renC_sound hW hN hy ⟨hl, hr⟩
      exact .fn _ _ _ this.1 this.2
  | .iface t a, x, v, h, hv => by
    obtain ⟨y, hy, rfl⟩ := Option.map_eq_some_iff.1 h
    cases hv with
    | iface _ _ v hv => exact .iface _ _ _ (ren_sound hW hN hy hv)
  | .list sp sz es, x, v, h, hv => by
    obtain ⟨y, hy, rfl⟩ := Option.map_eq_some_iff.1 h
    cases hv with
    | list _ _ _ b off cap val hn hm hsz h1 h2 hs =>
      obtain ⟨k1, k2, k3⟩ := renLL_sound hW hN hy h2
      rw [← k1]
      refine .list _ sz y b off cap val (by omega) hm (fun e he => ?_) (fun i j hi hj => h1 i j (by omega) hj) k3 ?_
      · obtain ⟨i, hi⟩ := List.getElem?_of_mem he
        obtain ⟨e', he', hel⟩ := k2 i e hi
        rw [hel]
        exact hsz e' (List.mem_of_getElem? he')
      · rw [k1]
        cases sp with
        | no => trivial
        | full => exact hs
        | own p g =>
          dsimp only
          split
          · rename_i hp
            exact ⟨hs.1, raised_old hW hN hp hs.2⟩
          · split
            · rename_i q g0 g' n sz' e' hq hs'
              split
              · rename_i hc
                obtain ⟨rfl, rfl⟩ := hc
                have := raised_new (G := G) hN (Names.get_mem hq) hs'
                exact ⟨hs.1, this.trans hs.2⟩
              · trivial
            · trivial
  | .ptr p g k off, x, v, h, hv => by
    cases hv with
    | ptr _ _ _ _ b c ho =>
      unfold ren at h
      split at h
      · rename_i hp
        cases h
        exact .ptr _ _ _ _ b c (raised_old hW hN hp ho)
      · split at h
        · rename_i q g0 s hq hs
          split at h
          · rename_i hc
            simp only [Bool.and_eq_true, beq_iff_eq] at hc
            obtain ⟨⟨_, rfl⟩, rfl⟩ := hc
            cases h
            exact .ptr _ _ _ _ b c ((raised_new hN (Names.get_mem hq) hs).trans ho)
          · cases h
        · cases h
  | .row sp p g k off len sz, x, v, h, hv => by
    cases hv with
    | row _ _ _ _ _ _ _ b c o cap ho hoff hn hm hs =>
      unfold ren at h
      split at h
      · rename_i hp
        cases h
        exact .row _ _ _ _ _ _ _ b c o cap (raised_old hW hN hp ho) hoff hn hm hs
      · split at h
        · rename_i q g0 s hq hs'
          split at h
          · rename_i hc
            simp only [Bool.and_eq_true, beq_iff_eq] at hc
            obtain ⟨⟨_, rfl⟩, rfl⟩ := hc
            cases h
            exact .row _ _ _ _ _ _ _ b c o cap ((raised_new hN (Names.get_mem hq) hs').trans ho) hoff hn hm hs
          · cases h
        · cases h
  | .mref p g, x, v, h, hv => by
    cases hv with
    | mref _ _ b c ho =>
      unfold ren at h
      split at h
      · rename_i hp
        cases h
        exact .mref _ _ b c (raised_old hW hN hp ho)
      · split at h
        · rename_i q g0 s hq hs
          split at h
          · rename_i hc
            simp only [Bool.and_eq_true, beq_iff_eq] at hc
            obtain ⟨⟨_, rfl⟩, he⟩ := hc
            cases h
            have := raised_new (G := G) hN (Names.get_mem hq) hs
            rw [he] at this
            exact .mref _ _ b c (this.trans ho)
          · cases h
        · cases h
theorem renL_sound [Cfg] (hW : WRel G S w B) {l : Nat} {N : Names} (hN : NamesAt l S N) : ∀ {xs ys : List AV} {val : Nat → Value}, renL l S N xs = some ys → (∀ (j : Nat) a, xs[j]? = some a → VRel G a (val j)) → ys.length = xs.length ∧ ∀ (j : Nat) a, ys[j]? = some a → VRel (G.raised S l N) a (val j)
  | [], ys, val, h, _ => by simp [renL] at h; subst h; exact ⟨rfl, fun j a ha => by simp at ha⟩
  | a :: r, ys, val, h, hv => by
    unfold renL at h
    split at h
    · rename_i x y h1 h2
      cases h
      have k0 := ren_sound hW hN h1 (hv 0 a rfl)
      obtain ⟨k1, k2⟩ := renL_sound hW hN h2 (val := fun j => val (j + 1)) fun j a ha => hv (j + 1) a (by simpa using ha)
      refine ⟨by simp [k1], fun j a ha => ?_⟩
      cases j with
      | zero => simp at ha; subst ha; exact k0
      | succ j => exact k2 j a (by simpa using ha)
    · cases h
theorem renLL_sound [Cfg] (hW : WRel G S w B) {l : Nat} {N : Names} (hN : NamesAt l S N) : ∀ {xs ys : List (List AV)} {val : Nat → Nat → Value}, renLL l S N xs = some ys → (∀ (i j : Nat) e a, xs[i]? = some e → e[j]? = some a → VRel G a (val i j)) →
    ys.length = xs.length ∧ (∀ (i : Nat) e, ys[i]? = some e → ∃ e', xs[i]? = some e' ∧ e.length = e'.length) ∧ ∀ (i j : Nat) e a, ys[i]? = some e → e[j]? = some a → VRel (G.raised S l N) a (val i j)
  | [], ys, val, h, _ => by simp [renLL] at h; subst h; exact ⟨rfl, (fun i e he => by simp at he), fun i j e a he => by simp at he⟩
  | e0 :: r, ys, val, h, hv => by
    unfold renLL at h
    split at h
    · rename_i x y h1 h2
      cases h
      obtain ⟨m1, m2⟩ := renL_sound hW hN h1 (val := val 0) fun j a ha => hv 0 j e0 a rfl ha
      obtain ⟨k1, k2, k3⟩ := renLL_sound hW hN h2 (val := fun i => val (i + 1)) fun i j e a he ha => hv (i + 1) j e a (by simpa using he) ha
      refine ⟨by simp [k1], fun i e he => ?_, fun i j e a he ha => ?_⟩
      · cases i with
        | zero => simp at he; subst he; exact ⟨e0, rfl, m1⟩
        | succ i =>
          obtain ⟨e', q1, q2⟩ := k2 i e (by simpa using he)
          exact ⟨e', by simpa using q1, q2⟩
      · cases i with
        | zero => simp at he; subst he; exact m2 j a ha
        | succ i => exact k3 i j e a (by simpa using he) ha
    · cases h
theorem renC_sound [Cfg] (hW : WRel G S w B) {l : Nat} {N : Names} (hN : NamesAt l S N) : ∀ {xs ys : List AV} {vs : List Value}, renL l S N xs = some ys → CRel G xs vs → CRel (G.raised S l N) ys vs
  | xs, ys, vs, h, hc => by
    obtain ⟨k1, k2⟩ := renL_sound hW hN h (val := fun j => vs.getD j undef) fun j a ha => by
      obtain ⟨v, hv, hr⟩ := hc.get ha
      rw [List.getD_eq_getElem?_getD, hv]
      exact hr
    refine ⟨by rw [k1, hc.1], fun j a v ha hv => ?_⟩
    have := k2 j a ha
    rw [List.getD_eq_getElem?_getD, hv] at this
    exact this
end
end
end Go.Proofs.YtjdccpmbaobpdaaGreatDoor

namespace Go.Proofs.YtjdccpmbaobpdaaGreatDoor
open Go.RowKit

section
variable {G : Gh} {S : AS} {w : World} {B : Nat → Nat}

theorem renE_sound [Cfg] (hW : WRel G S w B) {l : Nat} {N : Names} (hN : NamesAt l S N) : ∀ {es es' : List AEntry} {ents : List MapEntry}, renE l S N es = some es' → ERel G es ents → ERel (G.raised S l N) es' ents
  | [], es', ents, h, he => by
    simp [renE] at h; subst h
    cases ents with
    | nil => trivial
    | cons _ _ => exact he.elim
  | e :: r, es', ents, h, he => by
    unfold renE at h
    split at h
    · rename_i x y h1 h2
      cases h
      cases ents with
      | nil => exact he.elim
      | cons d t => exact ⟨he.1, he.2.1, ren_sound hW hN h1 he.2.2.1, renE_sound hW hN h2 he.2.2.2⟩
    · cases h

theorem renS_kind {l : Nat} {N : Names} {g : Nat} {s s' : ASlot} (h : renS l S N g s = some s') : s'.gen = g ∧ s'.ext = s.ext ∧ s'.live = s.live := by
  cases s <;> simp only [renS] at h
  case obj g t cs => obtain ⟨y, hy, rfl⟩ := Option.map_eq_some_iff.1 h; exact ⟨rfl, rfl, rfl⟩
  case row g k sz e cs => obtain ⟨y, hy, rfl⟩ := Option.map_eq_some_iff.1 h; exact ⟨rfl, rfl, rfl⟩
  case map g es ck => obtain ⟨y, hy, rfl⟩ := Option.map_eq_some_iff.1 h; exact ⟨rfl, rfl, rfl⟩
  all_goals first | (cases h; done) | (cases h; exact ⟨rfl, rfl, rfl⟩)

theorem renS_sound [Cfg] (hW : WRel G S w B) {l : Nat} {N : Names} (hN : NamesAt l S N) {g b c : Nat} {s s' : ASlot} (h : renS l S N g s = some s') (hs : SlotAt G w b c s) : SlotAt (G.raised S l N) w b c s' := by
  cases s <;> simp only [renS] at h
  case obj g t cs =>
    obtain ⟨y, hy, rfl⟩ := Option.map_eq_some_iff.1 h
    obtain ⟨h1, vs, fr, h2, h3, h4⟩ := hs
    exact ⟨h1, vs, fr, h2, h3, renC_sound hW hN hy h4⟩
  case row g k sz e cs =>
    obtain ⟨y, hy, rfl⟩ := Option.map_eq_some_iff.1 h
    obtain ⟨h1, vs, fr, h2, h3, h4, h5, h6, h7⟩ := hs
    have := renC_sound hW hN hy h7
    refine ⟨h1, vs, fr, h2, h3, h4, ?_, h6, this⟩
    rw [this.1, ← h7.1, h5]
  case map g es ck =>
    obtain ⟨y, hy, rfl⟩ := Option.map_eq_some_iff.1 h
    obtain ⟨ents, h1, h2⟩ := hs
    exact ⟨ents, h1, renE_sound hW hN hy h2⟩
  case tok g k sz e =>
    cases h
    obtain ⟨h1, vs, fr, h2⟩ := hs
    exact ⟨h1, vs, fr, h2⟩
  case iter g s pos => cases h; exact hs
  case dead g k => cases h

mutual
theorem ren_lv {l : Nat} {N : Names} (hN : NamesAt l S N) : ∀ {a x : AV}, ren l S N a = some x → x.lv l = true
  | .lit u, x, h => by simp only [ren, Option.some.injEq] at h; subst h; rfl
  | .agg cs, x, h => by obtain ⟨y, hy, rfl⟩ := Option.map_eq_some_iff.1 h; exact renL_lv hN hy
  | .tup cs, x, h => by obtain ⟨y, hy, rfl⟩ := Option.map_eq_some_iff.1 h; exact renL_lv hN hy
  | .cref cs, x, h => by obtain ⟨y, hy, rfl⟩ := Option.map_eq_some_iff.1 h; exact renL_lv hN hy
  | .fn f cs, x, h => by obtain ⟨y, hy, rfl⟩ := Option.map_eq_some_iff.1 h; exact renL_lv hN hy
  | .iface t a, x, h => by
    obtain ⟨y, hy, rfl⟩ := Option.map_eq_some_iff.1 h
    have := ren_lv hN hy
    simpa only [AV.lv] using this
  | .list sp sz es, x, h => by
    obtain ⟨y, hy, rfl⟩ := Option.map_eq_some_iff.1 h
    have := renLL_lv hN hy
    simp only [AV.lv, Bool.and_eq_true]
    refine ⟨?_, this⟩
    cases sp with
    | no => rfl
    | full => rfl
    | own p g =>
      dsimp only
      split
      · rename_i hp; exact decide_eq_true hp
      · split
        · rename_i q g0 g' n sz' e' hq hs'
          split
          · exact decide_eq_true (by rw [hN.lvl _ _ _ (Names.get_mem hq)]; exact Nat.le_refl _)
          · rfl
        · rfl
  | .ptr p g k off, x, h => by
    unfold ren at h
    split at h
    · rename_i hp; cases h; exact decide_eq_true hp
    · split at h
      · rename_i q g0 s hq hs
        split at h
        · cases h; exact decide_eq_true (by rw [hN.lvl _ _ _ (Names.get_mem hq)]; exact Nat.le_refl _)
        · cases h
      · cases h
  | .row sp p g k off len sz, x, h => by
    unfold ren at h
    split at h
    · rename_i hp; cases h; exact decide_eq_true hp
    · split at h
      · rename_i q g0 s hq hs
        split at h
        · cases h; exact decide_eq_true (by rw [hN.lvl _ _ _ (Names.get_mem hq)]; exact Nat.le_refl _)
        · cases h
      · cases h
  | .mref p g, x, h => by
    unfold ren at h
    split at h
    · rename_i hp; cases h; exact decide_eq_true hp
    · split at h
      · rename_i q g0 s hq hs
        split at h
        · cases h; exact decide_eq_true (by rw [hN.lvl _ _ _ (Names.get_mem hq)]; exact Nat.le_refl _)
        · cases h
      · cases h
theorem renL_lv {l : Nat} {N : Names} (hN : NamesAt l S N) : ∀ {xs ys : List AV}, renL l S N xs = some ys → AV.lvL l ys = true
  | [], ys, h => by simp [renL] at h; subst h; rfl
  | a :: r, ys, h => by
    unfold renL at h
    split at h
    · rename_i x y h1 h2
      cases h
      simp only [AV.lvL, Bool.and_eq_true]
      exact ⟨ren_lv hN h1, renL_lv hN h2⟩
    · cases h
theorem renLL_lv {l : Nat} {N : Names} (hN : NamesAt l S N) : ∀ {xs ys : List (List AV)}, renLL l S N xs = some ys → AV.lvLL l ys = true
  | [], ys, h => by simp [renLL] at h; subst h; rfl
  | a :: r, ys, h => by
    unfold renLL at h
    split at h
    · rename_i x y h1 h2
      cases h
      simp only [AV.lvLL, Bool.and_eq_true]
      exact ⟨renL_lv hN h1, renLL_lv hN h2⟩
    · cases h
end
theorem renE_lv {l : Nat} {N : Names} (hN : NamesAt l S N) : ∀ {es es' : List AEntry}, renE l S N es = some es' → es'.all (fun e => e.val.lv l) = true
  | [], es', h => by simp [renE] at h; subst h; rfl
  | e :: r, es', h => by
    unfold renE at h
    split at h
    · rename_i x y h1 h2
      cases h
      simp [ren_lv hN h1, renE_lv hN h2]
    · cases h
theorem renS_lv {l : Nat} {N : Names} (hN : NamesAt l S N) {g : Nat} {s s' : ASlot} (h : renS l S N g s = some s') : s'.lv l = true := by
  cases s <;> simp only [renS] at h
  case obj g t cs => obtain ⟨y, hy, rfl⟩ := Option.map_eq_some_iff.1 h; exact renL_lv hN hy
  case row g k sz e cs => obtain ⟨y, hy, rfl⟩ := Option.map_eq_some_iff.1 h; exact renL_lv hN hy
  case map g es ck => obtain ⟨y, hy, rfl⟩ := Option.map_eq_some_iff.1 h; exact renE_lv hN hy
  all_goals first | (cases h; done) | (cases h; rfl)
end
end Go.Proofs.YtjdccpmbaobpdaaGreatDoor

namespace Go.Proofs.YtjdccpmbaobpdaaGreatDoor
open Go.RowKit

theorem raised_plain {G : Gh} {S' : AS} {l : Nat} {N : Names} {p : Loc} (hp : p.l ≤ l) (hno : ∀ p0 g0, (p0, p, g0) ∉ N) (g n : Nat) : (G.raised S' l N).own p g n = G.own p g n := by
  unfold Gh.raised
  dsimp only
  rw [if_pos hp, dif_neg]
  rintro ⟨p0, g0, hm⟩
  exact hno p0 g0 hm

theorem raised_some {G : Gh} {S' : AS} {l : Nat} {N : Names} (hN : NamesAt l S' N) {p : Loc} {g n : Nat} {x : Nat × Nat} (ho : (G.raised S' l N).own p g n = some x) :
    p.l ≤ l ∧ (((∀ p0 g0, (p0, p, g0) ∉ N) ∧ G.own p g n = some x) ∨ ∃ p0 s0, (p0, p, g) ∈ N ∧ g = 0 ∧ S'.get p0 = some s0 ∧ n = s0.ext ∧ G.own p0 s0.gen s0.ext = some x) := by
  by_cases hp : p.l ≤ l
  · refine ⟨hp, ?_⟩
    by_cases hex : ∃ p0 g0, (p0, p, g0) ∈ N
    · obtain ⟨p0, g0, hm⟩ := hex
      obtain ⟨s0, hs0, _⟩ := hN.slot _ _ _ hm
      have hg0 := hN.gen _ _ _ hm
      subst hg0
      have hex : ∃ p0 g0, (p0, p, g0) ∈ N := ⟨p0, 0, hm⟩
      obtain ⟨g1, hc⟩ := hex.choose_spec
      have hpe := (hN.snd _ _ _ _ _ hc hm).1
      unfold Gh.raised at ho
      dsimp only at ho
      rw [if_pos hp, dif_pos hex, hpe, hs0] at ho
      simp only at ho
      split at ho
      · rename_i hc2
        obtain ⟨rfl, rfl⟩ := hc2
        exact .inr ⟨p0, s0, hm, rfl, hs0, rfl, ho⟩
      · cases ho
    · have hno : ∀ p0 g0, (p0, p, g0) ∉ N := fun p0 g0 hm => hex ⟨p0, g0, hm⟩
      rw [raised_plain hp hno] at ho
      exact .inl ⟨hno, ho⟩
  · unfold Gh.raised at ho
    dsimp only at ho
    rw [if_neg hp] at ho
    cases ho

theorem WRel.popRaised [Cfg] {G G' : Gh} {S S' S2 : AS} {w w' : World} {B : Nat → Nat} {f : FuncId} {N : Names} (h : WRel G S w B) (h' : WRel G' S' w' (under S w B)) (hm : Mod G (S.enter f) w G' S' w') (hN : NamesAt S.lvl S' N) (hlvl : S2.lvl = S.lvl) (hfn : S2.fn = S.fn)
    (hin : ∀ p, p ∈ S'.outs S.lvl → ∀ s, S'.get p = some s → ∃ s', renS S.lvl S' N s.gen s = some s' ∧ S2.get p = some s')
    (hnew : ∀ p q g, (p, q, g) ∈ N → ∀ s, S'.get p = some s → ∃ s', renS S.lvl S' N g s = some s' ∧ S2.get q = some s')
    (hout : ∀ p, p.l ≤ S.lvl → (∀ p0 g0, (p0, p, g0) ∉ N) → (p ∉ S'.outs S.lvl ∨ S'.get p = none) → S2.get p = S'.get p)
    (hlv : ∀ p s, S2.get p = some s → s.lv S.lvl = true) (hlog : ∀ p, p ∈ S2.log ↔ p ∈ S.log ∨ (p ∈ S'.outs S.lvl ∨ ∃ p0 g0, (p0, p, g0) ∈ N)) :
    WRel (G'.raised S' S.lvl N) S2 w' B ∧ Mod G S w (G'.raised S' S.lvl N) S2 w' := by
  obtain ⟨nl, e1, b1, s1, i1⟩ := hm.log
  have hl' : S'.lvl = S.lvl + 1 := hm.lvl
  have elog : ∀ p, p ∈ S'.log ↔ nl p := fun p => by rw [e1]; simp [AS.enter]
  have old : ∀ {p g k x}, p.l ≤ S.lvl → G'.own p g k = some x → (G'.raised S' S.lvl N).own p g k = some x := fun hp ho => raised_old h' hN hp ho
  have notq : ∀ {p s}, S'.get p = some s → ∀ p0 g0, (p0, p, g0) ∉ N := fun hs p0 g0 hm => by rw [hN.new _ _ _ hm] at hs; cases hs
  -- what stands behind a slot
  have back : ∀ p s, p.l ≤ S.lvl → S2.get p = some s → ∃ p' s0, S'.get p' = some s0 ∧ s.live = s0.live ∧ (∀ x, (G'.raised S' S.lvl N).own p s.gen s.ext = some x → G'.own p' s0.gen s0.ext = some x) ∧
      (p' = p ∨ (S.lvl < p'.l ∧ ∃ g0, (p', p, g0) ∈ N)) ∧ ∀ b c, SlotAt G' w' b c s0 → SlotAt (G'.raised S' S.lvl N) w' b c s := by
    intro p s hpl hp
    by_cases hex : ∃ p0 g0, (p0, p, g0) ∈ N
    · obtain ⟨p0, g0, hm0⟩ := hex
      obtain ⟨s0, hs0, _⟩ := hN.slot _ _ _ hm0
      obtain ⟨s', k1, k2⟩ := hnew p0 p g0 hm0 s0 hs0
      rw [hp] at k2
      cases k2
      obtain ⟨m1, m2, m3⟩ := renS_kind k1
      refine ⟨p0, s0, hs0, m3, fun x ho => ?_, .inr ⟨hN.deep _ _ _ hm0, g0, hm0⟩, fun b c hsl => renS_sound h' hN k1 hsl⟩
      rw [m1, m2, raised_new (G := G') hN hm0 hs0] at ho
      exact ho
    · have hno : ∀ p0 g0, (p0, p, g0) ∉ N := fun p0 g0 hm => hex ⟨p0, g0, hm⟩
      by_cases hin' : p ∈ S'.outs S.lvl
      · cases hs0 : S'.get p with
        | none => rw [hout p hpl hno (.inr hs0), hs0] at hp; cases hp
        | some s0 =>
          obtain ⟨s', k1, k2⟩ := hin p hin' s0 hs0
          rw [hp] at k2
          cases k2
          obtain ⟨m1, m2, m3⟩ := renS_kind k1
          refine ⟨p, s0, hs0, m3, fun x ho => ?_, .inl rfl, fun b c hsl => renS_sound h' hN k1 hsl⟩
          rw [m1, m2, raised_plain hpl hno] at ho
          exact ho
      · rw [hout p hpl hno (.inl hin')] at hp
        refine ⟨p, s, hp, rfl, fun x ho => ?_, .inl rfl, fun b c hsl => ?_⟩
        · rw [raised_plain hpl hno] at ho
          exact ho
        · have hlvs := hlv p s ((hout p hpl hno (.inl hin')).trans hp)
          have hcl : (G'.cut S.lvl).le (G'.raised S' S.lvl N) := ⟨(fun q g k x ho => by
            simp only [Gh.cut] at ho
            split at ho
            · rename_i hq; exact old hq ho
            · cases ho), fun b o v hi => hi, rfl⟩
          have hcr : ∀ {xs : List AV} {vs : List Value}, AV.lvL S.lvl xs = true → CRel G' xs vs → CRel (G'.raised S' S.lvl N) xs vs := fun hx hc => ⟨hc.1, fun i a v ha hv => ((hc.2 i a v ha hv).cut (AV.lvL_get hx ha)).mono hcl⟩
          cases s with
          | obj g t cs =>
            obtain ⟨h1, vs, fr, h2, h3, h4⟩ := hsl
            exact ⟨h1, vs, fr, h2, h3, hcr hlvs h4⟩
          | row g k sz e cs =>
            obtain ⟨h1, vs, fr, h2, h3, h4, h5, h6, h7⟩ := hsl
            exact ⟨h1, vs, fr, h2, h3, h4, h5, h6, hcr hlvs h7⟩
          | map g es ck =>
            obtain ⟨ents, h1, h2⟩ := hsl
            refine ⟨ents, h1, ?_⟩
            simp only [ASlot.lv, List.all_eq_true] at hlvs
            clear h1 hp
            generalize ents.toList = ds at h2
            induction es generalizing ds with
            | nil =>
              cases ds with
              | nil => trivial
              | cons _ _ => exact h2.elim
            | cons e r ih =>
              cases ds with
              | nil => exact h2.elim
              | cons d t => exact ⟨h2.1, h2.2.1, (h2.2.2.1.cut (hlvs e (List.mem_cons_self ..))).mono hcl, ih (fun x hx => hlvs x (List.mem_cons_of_mem _ hx)) t h2.2.2.2⟩
          | tok g k sz e => exact hsl
          | iter g s pos => exact hsl
          | dead g k => exact hsl
  refine ⟨⟨h'.imm, fun p s hp hl b c ho => ?_, fun p s hp => by rw [hlvl]; exact hlv p s hp, fun p q s t hp hq hs ht b c d ho ho' => ?_, fun p g k x ho => ?_, fun p g k b c ho => ?_,
      fun l m hl hm' => h.mono l m hl (by rw [hlvl] at hm'; exact hm'), fun l hl => Nat.le_trans (h.fits l (by rw [hlvl] at hl; exact hl)) hm.size, by rw [show (G'.raised S' S.lvl N).far = G.far from hm.le.far]; exact h.far.1, fun x hx => hm.le.imm _ _ _ (h.far.2 x hx)⟩,
    ⟨⟨fun p g k x ho => ?_, fun b o v hi => hm.le.imm b o v hi, hm.le.far⟩, hlvl, hfn, ⟨fun p => p ∈ S'.outs S.lvl ∨ ∃ p0 g0, (p0, p, g0) ∈ N, hlog, fun b hb => ?_, fun p hp hnl => ?_, fun b o v hi => ?_⟩, hm.os, hm.tape, hm.output, hm.size⟩⟩
  · have hpl := (raised_some hN ho).1
    obtain ⟨p', s0, k1, k2, k3, _, k5⟩ := back p s hpl hp
    exact k5 b c (h'.slot p' s0 k1 (by rw [← k2]; exact hl) b c (k3 _ ho))
  · have hpl := (raised_some hN ho).1
    have hql := (raised_some hN ho').1
    obtain ⟨p', s0, k1, k2, k3, k4, _⟩ := back p s hpl hp
    obtain ⟨q', t0, m1, m2, m3, m4, _⟩ := back q t hql hq
    have e := h'.apart p' q' s0 t0 k1 m1 (by rw [← k2]; exact hs) (by rw [← m2]; exact ht) b c d (k3 _ ho) (m3 _ ho')
    subst e
    rcases k4 with rfl | ⟨k4, g0, k6⟩ <;> rcases m4 with m4 | ⟨m4, g1, m6⟩
    · exact m4
    · omega
    · subst m4; omega
    · exact (hN.fst _ _ _ _ _ k6 m6).1
  · obtain ⟨hpl, hc⟩ := raised_some hN ho
    refine ⟨by rw [hlvl]; exact hpl, ?_⟩
    rcases hc with ⟨hno, ho⟩ | ⟨p0, s0, hm0, rfl, hs0, rfl, _⟩
    · obtain ⟨_, s0, hs0, hlt⟩ := h'.dom p g k x ho
      by_cases hin' : p ∈ S'.outs S.lvl
      · obtain ⟨s', k1, k2⟩ := hin p hin' s0 hs0
        obtain ⟨m1, m2, _⟩ := renS_kind k1
        exact ⟨s', k2, by rw [m1, m2]; exact hlt⟩
      · exact ⟨s0, (hout p hpl hno (.inl hin')).trans hs0, hlt⟩
    · obtain ⟨s', k1, k2⟩ := hnew p0 p 0 hm0 s0 hs0
      obtain ⟨m1, m2, _⟩ := renS_kind k1
      exact ⟨s', k2, .inr ⟨m1.symm, by rw [m2]; exact Nat.le_refl _⟩⟩
  · obtain ⟨hpl, hc⟩ := raised_some hN ho
    rcases hc with ⟨hno, ho⟩ | ⟨p0, s0, hm0, rfl, hs0, rfl, ho0⟩
    · obtain ⟨h3, h4⟩ := h'.base p g k b c ho
      refine ⟨?_, h4⟩
      unfold under at h3
      rw [if_neg (by omega)] at h3
      exact h3
    · obtain ⟨h3, h4⟩ := h'.base _ _ _ _ _ ho0
      refine ⟨?_, h4⟩
      have h1 := (h'.dom _ _ _ _ ho0).1
      have h2 := hN.deep _ _ _ hm0
      unfold under at h3
      rw [if_pos (by omega)] at h3
      rw [hN.lvl _ _ _ hm0]
      exact Nat.le_trans (h.fits _ (Nat.le_refl _)) h3
  · exact old (h.dom p g k x ho).1 (hm.le.own _ _ _ _ ho)
  · rcases b1 b hb with hb1 | hb1 | ⟨p, hp, g, k, c, ho⟩
    · exact .inl hb1
    · exact .inr (.inl (hb1.imm_mono (G := G') (H := G'.raised S' S.lvl N) rfl fun b o v hi => hi))
    · by_cases hpl : p.l ≤ S.lvl
      · exact .inr (.inr ⟨p, .inl (mem_outs.2 ⟨(elog p).2 hp, hpl⟩), g, k, c, old hpl ho⟩)
      · have h1 := (h'.dom _ _ _ _ ho).1
        have h2 := (h'.base _ _ _ _ _ ho).1
        unfold under at h2
        rw [if_pos (by omega)] at h2
        omega
  · have hno : ∀ p0 g0, (p0, p, g0) ∉ N := fun p0 g0 hm => hnl (.inr ⟨p0, g0, hm⟩)
    have hn : ¬ nl p := fun e => hnl (.inl (mem_outs.2 ⟨(elog p).2 e, hp⟩))
    obtain ⟨k1, k2⟩ := s1 p (Nat.le_succ_of_le hp) hn
    refine ⟨(hout p hp hno (.inl fun e => hnl (.inl e))).trans k1, fun g k => ?_⟩
    rw [raised_plain hp hno]
    exact k2 g k
  · rcases i1 b o v hi with k | k | ⟨p, hp, g, j, c, ho⟩
    · exact .inl k
    · exact .inr (.inl k)
    · by_cases hpl : p.l ≤ S.lvl
      · exact .inr (.inr ⟨p, .inl (mem_outs.2 ⟨(elog p).2 hp, hpl⟩), g, j, c, old hpl ho⟩)
      · have h1 := (h'.dom _ _ _ _ ho).1
        have h2 := (h'.base _ _ _ _ _ ho).1
        unfold under at h2
        rw [if_pos (by omega)] at h2
        exact .inr (.inl h2)
end Go.Proofs.YtjdccpmbaobpdaaGreatDoor

namespace Go.Proofs.YtjdccpmbaobpdaaGreatDoor
open Go.RowKit

theorem raiseAll_get {l : Nat} {S' : AS} {N : Names} : ∀ {M : Names} {t t' : Tab}, raiseAll l S' N M t = some t' → (M.map (·.2.1)).Nodup → (∀ p, (∀ p0 g0, (p0, p, g0) ∉ M) → t'.get p = t.get p) ∧
    ∀ p q g, (p, q, g) ∈ M → ∀ s, S'.get p = some s → ∃ s', renS l S' N g s = some s' ∧ t'.get q = some s'
  | [], t, t', h, _ => by
    simp [raiseAll] at h; subst h
    exact ⟨fun _ _ => rfl, fun p q g hm => by cases hm⟩
  | (p1, q1, g1) :: r, t, t', h, hn => by
    simp only [List.map_cons, List.nodup_cons] at hn
    unfold raiseAll at h
    split at h
    · rename_i s1 hs1
      split at h
      · rename_i s1' hr
        obtain ⟨k1, k2⟩ := raiseAll_get h hn.2
        have hq1 : t'.get q1 = some s1' := by
          rw [k1 q1 fun p0 g0 hm => hn.1 (List.mem_map.2 ⟨_, hm, rfl⟩)]
          exact Tab.get_put_same _ _ _
        refine ⟨fun p hno => ?_, fun p q g hm s hs => ?_⟩
        · rw [k1 p fun p0 g0 hm => hno p0 g0 (List.mem_cons_of_mem _ hm)]
          exact Tab.get_put_ne _ _ fun e => hno p1 g1 (by rw [e]; exact List.mem_cons_self ..)
        · rcases List.mem_cons.1 hm with e | hm
          · cases e
            rw [hs1] at hs; cases hs
            exact ⟨s1', hr, hq1⟩
          · exact k2 p q g hm s hs
      · cases h
    · cases h

theorem handUp_raised [Cfg] {G G' : Gh} {S S' : AS} {w w' : World} {B : Nat → Nat} {f : FuncId} {v x : AV} {u : Value} {r : Upd} (hup : Cfg.up f S.fn = true) (h : WRel G S w B) (h' : WRel G' S' w' (under S w B)) (hm : Mod G (S.enter f) w G' S' w') (hv : VRel G' v u)
    (hh : handUp f S S' v = some (x, r)) : ∃ G2, VRel G2 x u ∧ WRel G2 (S.after r) w' B ∧ Mod G S w G2 (S.after r) w' := by
  unfold handUp at hh
  simp only [hup, if_true] at hh
  generalize nameAll S.lvl _ _ = N at hh
  split at hh
  case isTrue => cases hh
  rename_i hok
  have hok : namesOk S.lvl S' N = true := by simpa using hok
  have hN := namesAt_of hok
  have hnd : (N.map (·.2.1)).Nodup := by
    simp only [namesOk, Bool.and_eq_true] at hok
    exact nodupB_iff hok.2
  obtain ⟨nl, e1, b1, s1, i1⟩ := hm.log
  have elog : ∀ p, p ∈ S'.log ↔ nl p := fun p => by rw [e1]; simp [AS.enter]
  have hun : ∀ p, p.l ≤ S.lvl → p ∉ S'.outs S.lvl → S'.get p = S.get p := fun p hp hno =>
    (s1 p (Nat.le_succ_of_le hp) fun e => hno (mem_outs.2 ⟨(elog p).2 e, hp⟩)).1
  split at hh
  case h_2 => cases hh
  rename_i v' hv'
  have hvr := ren_sound h' hN hv' hv
  have two : (S'.outs S.lvl = [] ∧ N = [] ∧ x = v' ∧ r = none) ∨ (∃ t t2, turnAll (fun _ s => renS S.lvl S' N s.gen s) S' (S'.outs S.lvl) S.tab = some t ∧ raiseAll S.lvl S' N N t = some t2 ∧ x = v' ∧ r = some (t2, S'.outs S.lvl ++ N.map fun x => x.2.1)) := by
    cases ho : S'.outs S.lvl with
    | nil =>
      cases N with
      | nil =>
        rw [ho] at hh
        simp only [Option.some.injEq, Prod.mk.injEq] at hh
        exact .inl ⟨rfl, rfl, hh.1.symm, hh.2.symm⟩
      | cons n N =>
        rw [ho] at hh
        simp only at hh
        split at hh
        · rename_i t ht
          split at hh
          · rename_i t2 ht2
            simp only [Option.some.injEq, Prod.mk.injEq] at hh
            exact .inr ⟨t, t2, ht, ht2, hh.1.symm, hh.2.symm⟩
          · cases hh
        · cases hh
    | cons o os =>
      rw [ho] at hh
      simp only at hh
      split at hh
      · rename_i t ht
        split at hh
        · rename_i t2 ht2
          simp only [Option.some.injEq, Prod.mk.injEq] at hh
          exact .inr ⟨t, t2, ht, ht2, hh.1.symm, hh.2.symm⟩
        · cases hh
      · cases hh
  rcases two with ⟨ho, rfl, rfl, rfl⟩ | ⟨t, t2, ht, ht2, rfl, rfl⟩
  · have hno : ∀ p, p ∉ S'.outs S.lvl := fun p => by rw [ho]; simp
    refine ⟨_, hvr, h.popRaised (S2 := S) h' hm hN rfl rfl (fun p hp => absurd hp (hno p)) (fun p q g hm => by cases hm) (fun p hp _ _ => (hun p hp (hno p)).symm) h.lvs (fun p => ⟨.inl, fun e => e.elim id fun e => e.elim (fun e => absurd e (hno p)) fun ⟨_, _, e⟩ => by cases e⟩)⟩
  ·
    have hget := turnAll_get ht
    obtain ⟨r1, r2⟩ := raiseAll_get ht2 hnd
    have hq : ∀ {p s}, S'.get p = some s → ∀ p0 g0, (p0, p, g0) ∉ N := fun hs p0 g0 hm => by rw [hN.new _ _ _ hm] at hs; cases hs
    refine ⟨_, hvr, h.popRaised (S2 := S.after (some (t2, S'.outs S.lvl ++ N.map fun x => x.2.1))) h' hm hN rfl rfl (fun p hp s hs => ?_) (fun p q g hm s hs => r2 p q g hm s hs) (fun p hp hno hc => ?_) (fun p s hp => ?_) (fun p => ?_)⟩
    · obtain ⟨s0, s', h0, hs', hg⟩ := (hget p).2 hp
      rw [hs] at h0; cases h0
      refine ⟨s', hs', ?_⟩
      show t2.get p = _
      rw [r1 p (hq hs)]
      exact hg
    · show t2.get p = _
      rw [r1 p hno]
      by_cases hin : p ∈ S'.outs S.lvl
      · obtain ⟨s0, s', h0, _⟩ := (hget p).2 hin
        rcases hc with hc | hc
        · exact absurd hin hc
        · rw [hc] at h0; cases h0
      · rw [(hget p).1 hin]
        exact (hun p hp hin).symm
    · have hp' : t2.get p = some s := hp
      by_cases hex : ∃ p0 g0, (p0, p, g0) ∈ N
      · obtain ⟨p0, g0, hm0⟩ := hex
        obtain ⟨s0, hs0, _⟩ := hN.slot _ _ _ hm0
        obtain ⟨s', k1, k2⟩ := r2 p0 p g0 hm0 s0 hs0
        rw [hp'] at k2
        cases k2
        exact renS_lv hN k1
      · rw [r1 p fun p0 g0 hm => hex ⟨p0, g0, hm⟩] at hp'
        by_cases hin : p ∈ S'.outs S.lvl
        · obtain ⟨s0, s', h0, hs', hg⟩ := (hget p).2 hin
          rw [hp'] at hg; cases hg
          exact renS_lv hN hs'
        · rw [(hget p).1 hin] at hp'
          exact h.lvs p s hp'
    · show p ∈ mergeLog _ _ ↔ _
      rw [mem_mergeLog, List.mem_append]
      refine or_congr Iff.rfl (or_congr Iff.rfl ?_)
      rw [List.mem_map]
      exact ⟨fun ⟨⟨p0, q, g0⟩, hm, e⟩ => ⟨p0, g0, by rw [← e]; exact hm⟩, fun ⟨p0, g0, hm⟩ => ⟨(p0, p, g0), hm, rfl⟩⟩

theorem handUp_sound [Cfg] {G G' : Gh} {S S' : AS} {w w' : World} {B : Nat → Nat} {f : FuncId} {v x : AV} {u : Value} {r : Upd} (h : WRel G S w B) (h' : WRel G' S' w' (under S w B)) (hm : Mod G (S.enter f) w G' S' w') (hv : VRel G' v u)
    (hh : handUp f S S' v = some (x, r)) : ∃ G2, VRel G2 x u ∧ WRel G2 (S.after r) w' B ∧ Mod G S w G2 (S.after r) w' := by
  cases hup : Cfg.up f S.fn with
  | true => exact handUp_raised hup h h' hm hv hh
  | false => exact handUp_frozen hup h h' hm hv hh

/-- What is not told of stays. -/
theorem handUp_local [Cfg] {S S' : AS} {f : FuncId} {v x : AV} {t : Tab} {l : List Loc} (hh : handUp f S S' v = some (x, some (t, l))) : ∀ p, p ∉ l → t.get p = S.tab.get p := by
  unfold handUp at hh
  simp only at hh
  split at hh
  · generalize nameAll S.lvl _ _ = N at hh
    split at hh
    case isTrue => cases hh
    rename_i hok
    have hok : namesOk S.lvl S' N = true := by simpa using hok
    have hnd : (N.map (·.2.1)).Nodup := by
      simp only [namesOk, Bool.and_eq_true] at hok
      exact nodupB_iff hok.2
    split at hh
    case h_2 => cases hh
    have fin : ∀ t1 t2, turnAll (fun _ s => renS S.lvl S' N s.gen s) S' (S'.outs S.lvl) S.tab = some t1 → raiseAll S.lvl S' N N t1 = some t2 → ∀ p, p ∉ (S'.outs S.lvl ++ N.map fun x => x.2.1) → t2.get p = S.tab.get p := by
      intro t1 t2 h1 h2 p hp
      rw [List.mem_append, not_or] at hp
      rw [(raiseAll_get h2 hnd).1 p fun p0 g0 hm => hp.2 (List.mem_map.2 ⟨_, hm, rfl⟩), ((turnAll_get h1) p).1 hp.1]
    cases ho : S'.outs S.lvl with
    | nil =>
      rw [ho] at fin
      cases N with
      | nil =>
        rw [ho] at hh
        simp at hh
      | cons n N =>
        rw [ho] at hh
        simp only at hh
        split at hh
        · rename_i t1 ht
          split at hh
          · rename_i t2 ht2
            simp only [Option.some.injEq, Prod.mk.injEq] at hh
            obtain ⟨_, rfl, rfl⟩ := hh
            exact fin _ _ ht ht2
          · cases hh
        · cases hh
    | cons o os =>
      rw [ho] at fin hh
      simp only at hh
      split at hh
      · rename_i t1 ht
        split at hh
        · rename_i t2 ht2
          simp only [Option.some.injEq, Prod.mk.injEq] at hh
          obtain ⟨_, rfl, rfl⟩ := hh
          exact fin _ _ ht ht2
        · cases hh
      · cases hh
  · split at hh
    case h_2 => cases hh
    split at hh
    · cases hh
    · split at hh
      case h_2 => cases hh
      rename_i t1 ht
      cases hh
      exact fun p hp => ((turnAll_get ht) p).1 hp
end Go.Proofs.YtjdccpmbaobpdaaGreatDoor

namespace Go.Proofs.YtjdccpmbaobpdaaGreatDoor
open Go.RowKit

section
variable {P : Program} {G : Gh} {S : AS} {w : World} {B : Nat → Nat}

def AE.rel (G : Gh) : AE → Ending → Prop
  | .ret v, e => ∃ u, e = .returned u ∧ VRel G v u
  | .pan v, e => ∃ u, e = .panicked [{ v := u, recovered := false }] ∧ VRel G v u

/-- What is asked of whatever answers calls. -/
def Sound [Cfg] (P : Program) (Δ : Oracle) : Prop := ∀ f args S x r, Δ f args S = some (x, r) → (∀ args' w, (callFunc f args').run P w = .ok (.enter f args') w) ∧
  ∀ G w B args', WRel G S w B → CRel G args args' → Calls P f args'.toArray w fun e w' => ∃ G', AE.rel G' x e ∧ WRel G' (S.after r) w' B ∧ Mod G S w G' (S.after r) w'

def Gh.bare (G : Gh) : Gh := { own := fun _ _ _ => none, imm := G.imm, far := G.far }
def Gh.over (G G' : Gh) : Gh := { own := G.own, imm := G'.imm, far := G'.far }

theorem WRel.bare [Cfg] (h : WRel G S w B) : WRel G.bare .bare w (fun _ => G.far) := by
  refine ⟨h.imm, fun p s hp => ?_, fun p s hp => ?_, fun p q s t hp => ?_, fun p g n x ho => ?_, fun p g n b c ho => ?_, fun l m _ _ => Nat.le_refl _, fun l _ => Nat.le_trans h.far.1 (h.fits 0 (Nat.zero_le _)), Nat.le_refl _, h.far.2⟩
  · cases hp
  · cases hp
  · cases hp
  · cases ho
  · cases ho

/-- A call that names nothing of the store leaves it as it is. -/
theorem WRel.frame [Cfg] {G' : Gh} {w' : World} {C : Nat → Nat} (h : WRel G S w B) (h' : WRel G' .bare w' C) (hm : Mod G.bare .bare w G' .bare w') :
    G'.le (G.over G') ∧ WRel (G.over G') S w' B ∧ Mod G S w (G.over G') S w' := by
  have hno : ∀ p g n x, G'.own p g n ≠ some x := fun p g n x ho => by
    obtain ⟨_, s, hs, _⟩ := h'.dom p g n x ho
    cases hs
  have himm : ∀ b o v, G.imm b o = some v → G'.imm b o = some v := fun b o v hi => hm.le.imm b o v hi
  have hle : G.le (G.over G') := ⟨fun _ _ _ _ e => e, himm, hm.le.far⟩
  obtain ⟨nl, _, b1, _, i1⟩ := hm.log
  have hold : ∀ b o v, G'.imm b o = some v → b < w.heap.size → G.imm b o = some v := fun b o v hi hb => by
    rcases i1 b o v hi with k | k | ⟨p, _, g, n, c, ho⟩
    · exact k
    · omega
    · exact absurd ho (hno p g n _)
  have hheap : ∀ b, b < w.heap.size → w'.heap[b]? = w.heap[b]? ∨ Froze G' w.heap[b]? w'.heap[b]? b := fun b hb => by
    rcases b1 b hb with k | k | ⟨p, _, g, n, c, ho⟩
    · exact .inl k
    · exact .inr k
    · exact absurd ho (hno p g n _)
  have hnone : ∀ b o, b < w.heap.size → G.imm b o = none → G'.imm b o = none := fun b o hb hn => by
    cases hi : G'.imm b o with
    | none => rfl
    | some v => rw [hold b o v hi hb] at hn; cases hn
  refine ⟨⟨fun p g n x ho => absurd ho (hno p g n x), fun _ _ _ e => e, rfl⟩, ⟨h'.imm, fun p s hp hl b c ho => ?_, h.lvs, h.apart, h.dom, fun p g n b c ho => ?_, h.mono, fun l hl => Nat.le_trans (h.fits l hl) hm.size, by rw [show (G.over G').far = G.far from hm.le.far]; exact h.far.1, fun x hx => himm _ _ _ (h.far.2 x hx)⟩,
    ⟨hle, rfl, rfl, ⟨fun _ => False, fun p => by simp, fun b hb => ?_, fun p _ _ => ⟨rfl, fun _ _ => rfl⟩, fun b o v hi => ?_⟩, hm.os, hm.tape, hm.output, hm.size⟩⟩
  · have hb := (h.base p _ _ b c ho).2
    have hs := h.slot p s hp hl b c ho
    cases s with
    | obj g t cs =>
      obtain ⟨k1, vs, fr, k2, k3, k4⟩ := hs
      have hn := fun o => hnone b o hb (k1 o)
      rcases hheap b hb with e | ⟨_, _, _, _, _, _, ⟨o, v, e⟩, _, _⟩
      · exact ⟨hn, vs, fr, by rw [e]; exact k2, k3, k4.mono hle⟩
      · rw [hn o] at e; cases e
    | tok g n sz e =>
      obtain ⟨k1, vs, fr, k2, k3, k4, k5⟩ := hs
      have hn := fun o ho => hnone b o hb (k1 o ho)
      rcases hheap b hb with e' | ⟨vs', t', fr1, fr2, e1, e2, _, _, e4⟩
      · exact ⟨hn, vs, fr, by rw [e']; exact k2, k3, k4, k5⟩
      · rw [k2] at e1
        cases e1
        refine ⟨hn, vs, fr2, e2, k3, k4, Nat.le_of_not_lt fun hgt => ?_⟩
        rcases e4 (n * sz) hgt with m1 | ⟨o', v, m1, m2⟩
        · omega
        · rw [hn o' m1] at m2; cases m2
    | row g n sz e cs =>
      obtain ⟨k1, vs, fr, k2, k3, k4, k5, k6, k7⟩ := hs
      have hn := fun o => hnone b o hb (k1 o)
      rcases hheap b hb with e' | ⟨_, _, _, _, _, _, ⟨o, v, e'⟩, _, _⟩
      · exact ⟨hn, vs, fr, by rw [e']; exact k2, k3, k4, k5, k6, k7.mono hle⟩
      · rw [hn o] at e'; cases e'
    | map g es ck =>
      obtain ⟨ents, k1, k2⟩ := hs
      rcases hheap b hb with e' | ⟨_, _, _, _, e', _⟩
      · exact ⟨ents, by rw [e']; exact k1, k2.mono hle⟩
      · rw [k1] at e'; cases e'
    | iter g s pos =>
      rcases hheap b hb with e' | ⟨_, _, _, _, e', _⟩
      · show w'.heap[b]? = _
        rw [e']; exact hs
      · rw [show w.heap[b]? = _ from hs] at e'; cases e'
    | dead g n => cases hl
  · obtain ⟨k1, k2⟩ := h.base p g n b c ho
    exact ⟨k1, Nat.lt_of_lt_of_le k2 hm.size⟩
  · rcases hheap b hb with k | k
    · exact .inl k
    · exact .inr (.inl k)
  · rcases Nat.lt_or_ge b w.heap.size with hb | hb
    · exact .inl (hold b o v hi hb)
    · exact .inr (.inl hb)

theorem AE.rel.mono {G H : Gh} (h : G.le H) {x : AE} {e : Ending} (k : x.rel G e) : x.rel H e := by
  cases x with
  | ret v => obtain ⟨u, h1, h2⟩ := k; exact ⟨u, h1, h2.mono h⟩
  | pan v => obtain ⟨u, h1, h2⟩ := k; exact ⟨u, h1, h2.mono h⟩

/-- A call at the empty store. -/
theorem Sound.closed [Cfg] {Δ : Oracle} (hΔ : Sound P Δ) {f : FuncId} {args : List AV} {x : AE} (h : Δ f args .bare = some (x, none)) (hc : AV.closedL args = true) (hW : WRel G S w B) {args' : List Value} (ha : CRel G args args') :
    Calls P f args'.toArray w fun e w' => ∃ G', AE.rel G' x e ∧ WRel G' S w' B ∧ Mod G S w G' S w' := by
  have ha' : CRel G.bare args args' := ⟨ha.1, fun i a v h1 h2 => (ha.2 i a v h1 h2).closed (G := G) (H := G.bare) (fun _ _ _ e => e) (AV.closedL_get hc h1)⟩
  refine ((hΔ f args .bare x none h).2 G.bare w _ args' hW.bare ha').mono ?_
  rintro e w' ⟨G', h1, h2, h3⟩
  obtain ⟨k1, k2, k3⟩ := hW.frame h2 h3
  exact ⟨_, h1.mono k1, k2, k3⟩

theorem AS.dfr_after (S : AS) (r : Upd) : (S.after r).dfr = S.dfr := by cases r <;> rfl

theorem astep_sound [Cfg] (hC : CfgOk P) {Δ : Oracle} (hΔ : Sound P Δ) {ops : Array Oper} {o : Oper} {T T' : TM} {S' : AS} {f : Foot} {x : Option AV} {a : Act} (h : astep P Δ ops o T S = some (f, T', S', x)) (hW : WRel G S w B) (hT : TRel G S T a)
    {K : Act → World → Prop} {Q : Exit → Act → World → Prop} (hK : x = none → ∀ G' a' w', WRel G' S' w' B → TRel G' S' T' a' → Mod G S w G' S' w' → K a' w')
    (hQ : ∀ v, x = some v → ∀ G' a' w' u, VRel G' v u → WRel G' S' w' B → TRel G' S' T' a' → Mod G S w G' S' w' → Q (.panic [{ v := u, recovered := false }]) a' w') :
    if Region.wanted o (Go.yielded ops a.tmps) then o.wp P a w K Q else K (a.put o.dst undef) w := by
  unfold astep at h
  rw [hT.yielded]
  split at h
  · rename_i hw
    rw [if_pos hw]
    cases hx : aop P S (aev T) o with
    | none => simp [hx] at h
    | some y =>
      have hs := aop_sound hC hW hT hx
      unfold Oper.wp
      rw [hx] at h
      cases y with
      | val v =>
        simp only [Option.some.injEq, Prod.mk.injEq] at h
        obtain ⟨_, rfl, rfl, rfl⟩ := h
        obtain ⟨G', w', u, hr, hv, k1, k2⟩ := hs
        rcases hr with hr | ⟨hr, rfl⟩
        · rw [hr]; exact hK rfl G' _ w' k1 ((hT.mono k2.le rfl).put o.dst hv) k2
        · rw [hr]; exact hK rfl G' _ w' k1 ((hT.mono k2.le rfl).put o.dst hv) k2
      | chg v p s =>
        simp only [Option.ite_none_right_eq_some, Option.some.injEq, Prod.mk.injEq] at h
        obtain ⟨_, _, rfl, rfl, rfl⟩ := h
        obtain ⟨G', w', u, hr, hv, k1, k2⟩ := hs
        rcases hr with hr | ⟨hr, rfl⟩
        · rw [hr]; exact hK rfl G' _ w' k1 ((hT.mono k2.le (S' := S.set p s) rfl).put o.dst hv) k2
        · rw [hr]; exact hK rfl G' _ w' k1 ((hT.mono k2.le (S' := S.set p s) rfl).put o.dst hv) k2
      | pan v =>
        simp only [Option.some.injEq, Prod.mk.injEq] at h
        obtain ⟨_, rfl, rfl, rfl⟩ := h
        obtain ⟨u, hv, hr⟩ := hs
        rw [hr, Oper.upon_panic]
        exact hQ v rfl G a w u hv hW hT (Mod.refl G S w)
      | dfr g args =>
        simp only [Option.ite_none_right_eq_some, Option.some.injEq, Prod.mk.injEq] at h
        obtain ⟨_, _, rfl, rfl, rfl⟩ := h
        obtain ⟨d, hr, cap, k1, k2⟩ := hs
        rw [hr, Oper.upon_defer]
        refine hK rfl G _ w ⟨hW.imm, hW.slot, hW.lvs, hW.apart, hW.dom, hW.base, hW.mono, hW.fits, hW.far⟩ (TRel.put (S := { S with dfr := (g, args) :: S.dfr }) (a := { a with defers := d :: a.defers }) ⟨hT.1, ⟨cap, k1, k2⟩, hT.2⟩ o.dst (.lit _))
          ⟨Gh.le.refl G, rfl, rfl, ⟨fun _ => False, fun _ => by simp, fun _ _ => .inl rfl, fun _ _ _ => ⟨rfl, fun _ _ => rfl⟩, fun _ _ _ h => .inl h⟩, rfl, rfl, rfl, Nat.le_refl _⟩
      | call g args =>
        obtain ⟨args', hargs, hr⟩ := hs
        simp only [Option.ite_none_right_eq_some] at h
        replace h := h.2
        rw [hr]
        have main : ∃ (y : AE) (S1 : AS), S1.dfr = S.dfr ∧ (∀ args' w, (callFunc g args').run P w = .ok (.enter g args') w) ∧ (Calls P g args'.toArray w fun e w' => ∃ G', AE.rel G' y e ∧ WRel G' S1 w' B ∧ Mod G S w G' S1 w') ∧
            S' = S1 ∧ (match y with | .ret v => T' = T.put o.dst v ∧ x = none | .pan v => T' = T ∧ x = some v) := by
          split at h
          · rename_i hc
            simp only [Bool.and_eq_true] at hc
            cases hd : Δ g args .bare with
            | none => simp [hd] at h
            | some z =>
              obtain ⟨y, r⟩ := z
              rw [hd] at h
              cases r with
              | some u => cases y <;> cases h
              | none =>
                refine ⟨y, S, rfl, (hΔ g args .bare y none hd).1, hΔ.closed hd hc.2 hW hargs, ?_⟩
                cases y with
                | ret v =>
                  simp only [Option.some.injEq, Prod.mk.injEq] at h
                  exact ⟨h.2.2.1.symm, h.2.1.symm, h.2.2.2.symm⟩
                | pan v =>
                  simp only [Option.some.injEq, Prod.mk.injEq] at h
                  exact ⟨h.2.2.1.symm, h.2.1.symm, h.2.2.2.symm⟩
          · cases hd : Δ g args S with
            | none => simp [hd] at h
            | some z =>
              obtain ⟨y, r⟩ := z
              rw [hd] at h
              refine ⟨y, S.after r, AS.dfr_after S r, (hΔ g args S y r hd).1, (hΔ g args S y r hd).2 G w B args' hW hargs, ?_⟩
              cases y with
              | ret v =>
                simp only [Option.some.injEq, Prod.mk.injEq] at h
                exact ⟨h.2.2.1.symm, h.2.1.symm, h.2.2.2.symm⟩
              | pan v =>
                simp only [Option.some.injEq, Prod.mk.injEq] at h
                exact ⟨h.2.2.1.symm, h.2.1.symm, h.2.2.2.symm⟩
        obtain ⟨y, S1, hdf, k1, k2, rfl, k3⟩ := main
        rw [k1]
        simp only [Oper.upon]
        refine k2.mono ?_
        rintro e w' ⟨G', hrel, m1, m2⟩
        cases y with
        | ret v =>
          obtain ⟨rfl, rfl⟩ := k3
          obtain ⟨u, rfl, hv⟩ := hrel
          exact hK rfl G' _ w' m1 ((hT.mono m2.le hdf).put o.dst hv) m2
        | pan v =>
          obtain ⟨rfl, rfl⟩ := k3
          obtain ⟨u, rfl, hv⟩ := hrel
          exact hQ v rfl G' _ w' u hv m1 (hT.mono m2.le hdf) m2
  · rename_i hw
    rw [if_neg hw]
    simp only [Option.some.injEq, Prod.mk.injEq] at h
    obtain ⟨_, rfl, rfl, rfl⟩ := h
    exact hK rfl G _ w hW (hT.put o.dst (.lit _)) (Mod.refl G S w)

/-- How code is left. -/
def XRel (G : Gh) : AX → Exit → Prop
  | .normal, .normal => True
  | .exit i, .exit j => i = j
  | .ret, .ret => True
  | .pan v, e => ∃ u, e = .panic [{ v := u, recovered := false }] ∧ VRel G v u
  | _, _ => False

/-- What is reached. -/
def Reached [Cfg] (G : Gh) (S : AS) (w : World) (B : Nat → Nat) (x : AX) (T' : TM) (S' : AS) (e : Exit) (a' : Act) (w' : World) : Prop :=
  ∃ G', XRel G' x e ∧ WRel G' S' w' B ∧ TRel G' S' T' a' ∧ Mod G S w G' S' w'

theorem Reached.trans [Cfg] {H : Gh} {T1 : AS} {v w' : World} {x : AX} {T' : TM} {S' : AS} {e : Exit} {a' : Act} (hm : Mod H T1 v G S w) (h : Reached G S w B x T' S' e a' w') : Reached H T1 v B x T' S' e a' w' := by
  obtain ⟨G', h1, h2, h3, h4⟩ := h
  exact ⟨G', h1, h2, h3, hm.trans h4⟩

def endOf : Option AV → AX
  | none => .normal
  | some v => .pan v

/-- Operations in whatever order. -/
theorem wpOps_of_steps [Cfg] (hC : CfgOk P) {Δ : Oracle} (hΔ : Sound P Δ) {ops : Array Oper} {Q : Exit → Act → World → Prop} : ∀ (l : List Oper) (pi : List Nat) (T T' : TM) (S S' : AS) (fs : List Foot) (x : Option AV) (G : Gh) (a : Act) (w : World), pi.map (ops[·]?) = l.map some →
    asteps P Δ ops l T S = some (fs, T', S', x) → WRel G S w B → TRel G S T a → (∀ e a' w', Reached G S w B (endOf x) T' S' e a' w' → Q e a' w') → wpOps P ops Q pi a w
  | [], [], T, T', S, S', fs, x, G, a, w, _, h, hW, hT, hQ => by
    simp only [asteps, Option.some.injEq, Prod.mk.injEq] at h
    obtain ⟨_, rfl, rfl, rfl⟩ := h
    exact hQ _ a w ⟨G, trivial, hW, hT, Mod.refl G S w⟩
  | o :: l, i :: pi, T, T', S, S', fs, x, G, a, w, hp, h, hW, hT, hQ => by
    simp only [List.map_cons, List.cons.injEq] at hp
    unfold asteps at h
    cases hs : astep P Δ ops o T S with
    | none => simp [hs] at h
    | some y =>
      obtain ⟨f, T1, S1, y⟩ := y
      rw [hs] at h
      have key : if Region.wanted o (Go.yielded ops a.tmps) then o.wp P a w (wpOps P ops Q pi) Q else wpOps P ops Q pi (a.put o.dst undef) w := by
        refine astep_sound hC hΔ hs hW hT ?_ ?_
        · rintro rfl G' a' w' h1 h2 h3
          simp only at h
          cases hr : asteps P Δ ops l T1 S1 with
          | none => simp [hr] at h
          | some z =>
            obtain ⟨fs', T2, S2, z⟩ := z
            simp only [hr, Option.some.injEq, Prod.mk.injEq] at h
            obtain ⟨_, rfl, rfl, rfl⟩ := h
            exact wpOps_of_steps hC hΔ l pi T1 T2 S1 S2 fs' z G' a' w' hp.2 hr h1 h2 fun e a'' w'' k => hQ e a'' w'' (k.trans h3)
        · rintro v rfl G' a' w' u hv h1 h2 h3
          simp only [Option.some.injEq, Prod.mk.injEq] at h
          obtain ⟨_, rfl, rfl, rfl⟩ := h
          exact hQ _ a' w' ⟨G', ⟨u, rfl, hv⟩, h1, h2, h3⟩
      unfold wpOps
      rw [hp.1]
      simp only
      split
      · rename_i hw; rw [if_pos hw] at key; exact .inl key
      · rename_i hw; rw [if_neg hw] at key; exact key
  | [], _ :: _, _, _, _, _, _, _, _, _, _, hp, _, _, _, _ => by simp at hp
  | _ :: _, [], _, _, _, _, _, _, _, _, _, hp, _, _, _, _ => by simp at hp
end
end Go.Proofs.YtjdccpmbaobpdaaGreatDoor

namespace Go.Proofs.YtjdccpmbaobpdaaGreatDoor
open Go.RowKit

section
variable {P : Program}

theorem pureOp_congr {ρ ρ' : Operand → AV} (o : Oper) (h : ∀ x ∈ o.op.operands, ρ x = ρ' x) : pureOp P ρ o = pureOp P ρ' o := by
  unfold pureOp
  have e1 : o.op.operands.all (fun x => (ρ x).toV.isSome) = o.op.operands.all (fun x => (ρ' x).toV.isSome) := by
    rw [Bool.eq_iff_iff, Array.all_eq_true_iff_forall_mem, Array.all_eq_true_iff_forall_mem]
    exact ⟨fun k x hx => by rw [← h x hx]; exact k x hx, fun k x hx => by rw [h x hx]; exact k x hx⟩
  rw [e1]
  split
  · rename_i hc
    simp only [Bool.and_eq_true] at hc
    rw [execOp_congr (ρ := fun x => ((ρ x).toV).getD undef) (ρ' := fun x => ((ρ' x).toV).getD undef) o (fun cs b e => by rw [e] at hc; simp [notSelect] at hc) fun x hx => by rw [h x hx]]
  · rfl

theorem orPure_congr {ρ ρ' : Operand → AV} {r r' : Option AR} (o : Oper) (h : ∀ x ∈ o.op.operands, ρ x = ρ' x) (hr : r = r') : orPure r P ρ o = orPure r' P ρ' o := by
  unfold orPure
  rw [hr, pureOp_congr o h]

set_option maxHeartbeats 4000000 in
theorem aop_congr [Cfg] {S : AS} {ρ ρ' : Operand → AV} (o : Oper) (h : ∀ x ∈ o.op.operands, ρ x = ρ' x) : aop P S ρ o = aop P S ρ' o ∧ afoot S ρ o = afoot S ρ' o := by
  have hp := pureOp_congr (P := P) o h
  have ho : ∀ {r r' : Option AR}, r = r' → orPure r P ρ o = orPure r' P ρ' o := fun e => orPure_congr o h e
  obtain ⟨dst, op, type, pos, after, guard⟩ := o
  have parts : ∀ ps : Array (Nat × Operand), (∀ x ∈ ps.map (·.2), ρ x = ρ' x) → (ps.toList.map fun (i, x) => (i, ρ x)) = (ps.toList.map fun (i, x) => (i, ρ' x)) := fun ps k =>
    List.map_congr_left fun p hm => by
      obtain ⟨i, x⟩ := p
      simp only [k x (Array.mem_map.2 ⟨(i, x), Array.mem_toList_iff.1 hm, rfl⟩)]
  cases op <;> simp only [Op.operands] at h <;> simp only [aop, afoot]
  case build t ps => exact ⟨by rw [parts ps fun x hx => h x (by simpa using hx)], trivial⟩
  case buildSlice t n ps => exact ⟨by rw [parts ps fun x hx => h x (by simpa using hx)], trivial⟩
  case makeFunc fn first captured =>
    refine ⟨?_, trivial⟩
    rw [List.map_congr_left (l := captured.toList) (f := ρ) (g := ρ') fun x hx => h x (by simp; exact .inr (Array.mem_toList_iff.1 hx))]
  case slice t x lo hi mx =>
    refine ⟨ho ?_, trivial⟩
    cases lo <;> cases hi <;> cases mx <;> simp_all
  case call c =>
    have hargs : ∀ x ∈ c.args.toList, ρ x = ρ' x := fun x hx => h x (by simp [Call.operands]; exact .inr (Array.mem_toList_iff.1 hx))
    cases hc : c.callee with
    | value f =>
      have hf : ρ f = ρ' f := h f (by simp [Call.operands, hc])
      simp only [hf, List.map_congr_left hargs]
      rw [hp]
      exact ⟨by first | rfl | trivial, by first | rfl | trivial⟩
    | invoke r m => exact ⟨by first | rfl | trivial, by first | rfl | trivial⟩
    | builtin b =>
      cases b
      case append => exact ⟨by simp only [List.map_congr_left hargs], by simp only [List.map_congr_left hargs]⟩
      case len => exact ⟨ho (by rw [List.map_congr_left hargs]), by simp only [List.map_congr_left hargs]⟩
      case copy => exact ⟨by simp only [List.map_congr_left hargs], rfl⟩
      all_goals first | exact ⟨hp, rfl⟩ | exact ⟨rfl, rfl⟩
  case defer c =>
    have hargs : ∀ x ∈ c.args.toList, ρ x = ρ' x := fun x hx => h x (by simp [Call.operands]; exact .inr (Array.mem_toList_iff.1 hx))
    cases hc : c.callee with
    | value f =>
      have hf : ρ f = ρ' f := h f (by simp [Call.operands, hc])
      simp only [hf, List.map_congr_left hargs]
      exact ⟨by first | rfl | trivial, by first | rfl | trivial⟩
    | invoke r m => exact ⟨by first | rfl | trivial, by first | rfl | trivial⟩
    | builtin b => exact ⟨by first | rfl | trivial, by first | rfl | trivial⟩
  case makeMap t r => exact ⟨by first | rfl | trivial, by first | rfl | trivial⟩
  all_goals first
    | exact ⟨rfl, rfl⟩
    | exact ⟨hp, rfl⟩
    | (refine ⟨?_, ?_⟩ <;> simp_all; done)
    | (refine ⟨ho ?_, ?_⟩ <;> simp_all; done)

def readsSame : FK → AS → AS → Prop
  | .none, _, _ => True
  | .slots L, S, S' => ∀ p ∈ L, S.get p = S'.get p
  | .all, S, S' => S' = S

theorem readsSame.with {S S' : AS} {a b : FK} (h : readsSame (a.with b) S S') : readsSame a S S' ∧ readsSame b S S' := by
  cases a with
  | none => cases b <;> exact ⟨trivial, h⟩
  | slots L => cases b with
    | none => exact ⟨h, trivial⟩
    | slots M => exact ⟨fun p hp => h p (List.mem_append_left _ hp), fun p hp => h p (List.mem_append_right _ hp)⟩
    | all => have h : S' = S := h; subst h; exact ⟨fun _ _ => rfl, rfl⟩
  | all => have h : S' = S := (by cases b <;> exact h); subst h; exact ⟨rfl, by cases b <;> simp [readsSame]⟩

section
variable {S S' : AS}
theorem cellsAt_store {p : Loc} (h : S.get p = S'.get p) (g n : Nat) : S.cellsAt p g n = S'.cellsAt p g n := by simp only [AS.cellsAt, h]
theorem aread_store {a : AV} (h : readsSame (ptrSlot a) S S') : aread S a = aread S' a := by
  cases a <;> first | rfl | skip
  simp only [aread, cellsAt_store (h _ (List.mem_singleton.2 rfl))]
theorem aelems_store {sz : Nat} {a : AV} (h : readsSame (ptrSlot a) S S') : aelems S sz a = aelems S' sz a := by
  cases a with
  | row sp p g n off len sz' => simp only [aelems, cellsAt_store (h _ (List.mem_singleton.2 rfl))]
  | lit v => cases v <;> first | rfl | (rename_i a n c; cases a <;> cases n <;> cases c <;> rfl)
  | _ => rfl
theorem write_store {p : Loc} (h : S.get p = S'.get p) (g n off : Nat) (ys : List AV) : S.write p g n off ys = S'.write p g n off ys := by simp only [AS.write, cellsAt_store h, h]
theorem fresh_store {p : Loc} (h : S.get p = S'.get p) : S.fresh p = S'.fresh p := by simp only [AS.fresh, h]
theorem here_store (hl : S.lvl = S'.lvl) (d : Tmp) : S.here d = S'.here d := by simp only [AS.here, hl]

theorem aappend_store [Cfg] (hl : S.lvl = S'.lvl) (hf : S.fn = S'.fn) {d : Option Tmp} {t : TypeId} {s x : AV} (h : readsSame (appSlot S d [s, x]) S S') : aappend P S d t s x = aappend P S' d t s x := by
  have hx : readsSame (ptrSlot x) S S' := by
    unfold appSlot at h
    split at h
    · rename_i e; cases e
      split at h
      · exact h.with.2
      · exact h.with.2
      · exact h.with.2
    · rename_i hn; exact absurd rfl (hn _ _)
  have hel : ∀ sz, aelems S sz x = aelems S' sz x := fun sz => aelems_store hx
  cases d with
  | none => unfold aappend; generalize P.underlying t = u; cases u with
    | none => rfl
    | some dd => cases dd <;> rfl
  | some d =>
    have hnew : readsSame (hereSlot S (some d)) S S' → ∀ e sz es, anewRow S d e sz es = anewRow S' d e sz es := fun k e sz es => by
      have k := fresh_store (k _ (List.mem_singleton.2 rfl))
      rw [here_store hl] at k
      simp only [anewRow, hf, here_store hl, k]
    have hs : (∀ sp sz es, s ≠ .list sp sz es) ∨ ∃ sp sz es, s = .list sp sz es := by
      cases s <;> first | exact .inr ⟨_, _, _, rfl⟩ | exact .inl (fun _ _ _ e => by cases e)
    unfold aappend
    cases P.underlying t with
    | none => rfl
    | some dd =>
      cases dd <;> first | rfl | skip
      rename_i e
      simp only
      cases P.info? e with
      | none => rfl
      | some i =>
        simp only
        cases i.zero with
        | none => rfl
        | some z =>
          simp only [hel]
          cases aelems S' i.size x with
          | none => rfl
          | some news =>
            simp only
            unfold appSlot at h
            simp only at h
            cases s with
            | list sp sz es =>
              cases sp with
              | own p g => simp only [h.with.1 p (List.mem_singleton.2 rfl)]
              | no => rfl
              | full => simp only [hnew h.with.1.with.1]
            | row sp p g n off len sz =>
              cases sp with
              | room => simp only [h.with.1 p (List.mem_singleton.2 rfl)]
              | no => rfl
              | full => simp only [hnew h.with.1.with.1, aelems_store h.with.1.with.2]
            | lit v => cases v <;> first | rfl | (rename_i a n c; cases a <;> cases n <;> cases c <;> first | rfl | simp only [hnew h.with.1.with.1])
            | _ => rfl

set_option maxHeartbeats 4000000 in
theorem aop_store [Cfg] {ρ : Operand → AV} (o : Oper) (hl : S.lvl = S'.lvl) (hf : S.fn = S'.fn) (hg : readsSame (afoot S ρ o) S S') : aop P S ρ o = aop P S' ρ o ∧ afoot S ρ o = afoot S' ρ o := by
  obtain ⟨dst, op, type, pos, after, guard⟩ := o
  have hhere : ∀ d, S.here d = S'.here d := here_store hl
  have hfr : ∀ d, dst = some d → readsSame (hereSlot S dst) S S' → S.fresh (S'.here d) = S'.fresh (S'.here d) := fun d hd k => by
    subst hd
    have := fresh_store (k _ (List.mem_singleton.2 rfl))
    rw [hhere] at this
    exact this
  have hhs : hereSlot S dst = hereSlot S' dst := by cases dst <;> simp only [hereSlot, hhere]
  cases op <;> simp only [afoot] at hg <;> simp only [aop, afoot] <;> first | exact ⟨trivial, trivial⟩ | skip
  case alloc elem =>
    refine ⟨?_, hhs⟩
    cases dst with
    | none => rfl
    | some d =>
      generalize (P.info? elem).bind _ = z
      cases z with
      | none => rfl
      | some z => simp only [hhere, hfr d rfl hg]
  case box elem x =>
    refine ⟨?_, hhs⟩
    cases dst with
    | none => rfl
    | some d => simp only [hhere, hfr d rfl hg]
  case buildSlice t n ps =>
    refine ⟨?_, hhs⟩
    cases dst with
    | none => unfold abuildSlice; generalize P.underlying t = u; cases u with
      | none => rfl
      | some dd => cases dd <;> rfl
    | some d => unfold abuildSlice; generalize P.underlying t = u; cases u with
      | none => rfl
      | some dd => cases dd <;> first | rfl | simp only [hf, hhere, hfr d rfl hg]
  case makeMap t r =>
    refine ⟨?_, hhs⟩
    cases dst with
    | none => rfl
    | some d => cases r <;> first | rfl | simp only [hhere, hfr d rfl hg]
  case makeSlice t l c =>
    refine ⟨?_, hhs⟩
    cases dst with
    | none => unfold amakeSlice; generalize P.underlying t = u; cases u with
      | none => rfl
      | some dd => cases dd <;> rfl
    | some d =>
      have k := hfr d rfl hg
      unfold amakeSlice
      split
      · rename_i e d1 _ _ _ _ hd _ _
        cases hd
        simp only [hf, hhere, k]
      · rfl
  case range t x =>
    refine ⟨?_, hhs⟩
    cases dst with
    | none => split <;> first | rfl | (rename_i hd; cases hd)
    | some d =>
      have k := hfr d rfl hg
      split
      · rename_i d1 _ _ hd
        cases hd
        simp only [hhere, k]
      · rfl
  case load t x =>
    refine ⟨?_, trivial⟩
    simp only [aload, aread_store hg]
  case store t x v =>
    refine ⟨?_, trivial⟩
    unfold astore
    split
    · rename_i p g n off i hx hi
      rw [hx] at hg
      rw [write_store (hg p (List.mem_singleton.2 rfl))]
    · rfl
  case lookup t m k ok =>
    refine ⟨?_, trivial⟩
    unfold alookup
    generalize ρ m = a at hg
    cases a with
    | mref p g => simp only [hg p (List.mem_singleton.2 rfl)]
    | lit v => cases v <;> first | rfl | (rename_i b; cases b <;> rfl)
    | _ => rfl
  case mapUpdate t m k x =>
    refine ⟨?_, trivial⟩
    unfold amapUpdate
    generalize ρ m = a at hg
    have hgm : ∀ p g, a = .mref p g → S.get p = S'.get p := fun p g e => by subst e; exact hg p (List.mem_singleton.2 rfl)
    split
    · simp only [hgm _ _ rfl]
    · rfl
  case insert t m k x =>
    refine ⟨?_, trivial⟩
    unfold amapUpdate
    generalize ρ m = a at hg
    have hgm : ∀ p g, a = .mref p g → S.get p = S'.get p := fun p g e => by subst e; exact hg p (List.mem_singleton.2 rfl)
    split
    · simp only [hgm _ _ rfl]
    · rfl
  case mapEntry t m k =>
    refine ⟨?_, trivial⟩
    unfold amapEntry
    generalize ρ m = a at hg
    have hgm : ∀ p g, a = .mref p g → S.get p = S'.get p := fun p g e => by subst e; exact hg p (List.mem_singleton.2 rfl)
    split
    · simp only [hgm _ _ rfl]
    · rfl
  case entryStore t m st x =>
    refine ⟨?_, trivial⟩
    unfold aentryStore
    generalize ρ m = a at hg
    have hgm : ∀ p g, a = .mref p g → S.get p = S'.get p := fun p g e => by subst e; exact hg p (List.mem_singleton.2 rfl)
    split
    · simp only [hgm _ _ rfl]
    · rfl
  case next it s =>
    refine ⟨?_, trivial⟩
    unfold anext
    generalize ρ it = a at hg
    cases s with
    | false => rfl
    | true =>
      simp only [if_true]
      split
      · rename_i p g; simp only [hg p (List.mem_singleton.2 rfl)]
      · rfl
  case convert src dst' x =>
    refine ⟨?_, trivial⟩
    have : aconvert P S src dst' (ρ x) = aconvert P S' src dst' (ρ x) := by
      unfold aconvert
      simp only [aelems_store hg]
    have that : aconvPtr P S src dst' (ρ x) = aconvPtr P S' src dst' (ρ x) := by
      generalize ρ x = a at hg
      cases a with
      | ptr p g n off =>
        have hp := hg p (List.mem_singleton.2 rfl)
        unfold aconvPtr
        split <;> first | rfl | (rename_i e; cases e; simp only [hp])
      | _ => unfold aconvPtr; split <;> first | rfl | (rename_i e; cases e)
    rw [this, that]
  case call c =>
    cases hc : c.callee with
    | value f => exact ⟨rfl, rfl⟩
    | invoke r m => exact ⟨by first | rfl | trivial, by first | rfl | trivial⟩
    | builtin b =>
      cases b
      case append =>
        simp only [hc] at hg
        generalize c.args.toList.map ρ = args at hg
        generalize c.argTypes.toList = tys
        refine ⟨?_, ?_⟩
        · simp only
          unfold aappendC
          split
          · simp only [aappend_store hl hf hg]
          · rfl
        · simp only
          unfold appSlot
          simp only [hhs]
      case len =>
        simp only [hc] at hg
        generalize c.args.toList.map ρ = args at hg
        generalize c.argTypes.toList = tys
        refine ⟨?_, rfl⟩
        have : alenC P S args tys = alenC P S' args tys := by
          unfold alenC
          split
          · rename_i x t
            simp only at hg
            unfold alen
            have hgm : ∀ p g, x = .mref p g → S.get p = S'.get p := fun p g e => by subst e; exact hg p (List.mem_singleton.2 rfl)
            split <;> first | rfl | simp only [hgm _ _ rfl]
          · rfl
        simp only [this]
      case copy =>
        simp only [hc] at hg
        have hg : S' = S := hg
        subst hg
        exact ⟨rfl, rfl⟩
      all_goals exact ⟨rfl, rfl⟩
end
end
end Go.Proofs.YtjdccpmbaobpdaaGreatDoor
